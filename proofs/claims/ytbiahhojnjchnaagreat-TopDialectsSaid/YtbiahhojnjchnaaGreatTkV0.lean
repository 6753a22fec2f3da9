/-
  A token: walked, over what its parts tell.
-/
import Derived.Test.YtbiahhojnjchnaaGreatGT
set_option linter.unusedVariables false
set_option linter.unusedSimpArgs false
namespace Go.Proofs.YtbiahhojnjchnaaGreat
open Go.RowKit
set_option maxRecDepth 100000 in
set_option maxHeartbeats 16000000 in
theorem token27z {b n c:Nat} {d at_:Int} {A:Option Addr} {l:List Int} {w:World} (hat:at_ < n) (h:St b n c d A l at_ w)
  (hr:ptAt l at_=42∨ptAt l at_=43∨ptAt l at_=63→∀ lo hi W,St b n c d A l (at_+1) W→Calls Tryz.prog 173 #[.pointer (some ⟨b,0,none⟩),.int .i64 lo,.int .i64 hi] W fun e w'=>TOut b n c d A l (.ok (repeatP d l (at_+1) lo hi)) e w'∧Kept b W w')
  (hesc:ptAt l at_=92→∀ W,St b n c d A l (at_+1) W→Calls Tryz.prog 174 #[.pointer (some ⟨b,0,none⟩)] W fun e w'=>TOut b n c d A l (escapedP d l (at_+1)) e w'∧Kept b W w')
  (hopen:ptAt l at_=40→d≠3→∀ W,St b n c d A l (at_+1) W→Calls Tryz.prog 176 #[.pointer (some ⟨b,0,none⟩)] W fun e w'=>TOut b n c d A l (openP d l (at_+1)) e w'∧Kept b W w')
  (hbrace:ptAt l at_=123→d≠3→∀ W,St b n c d A l (at_+1) W→Calls Tryz.prog 177 #[.pointer (some ⟨b,0,none⟩),.int .i64 123] W fun e w'=>TOut b n c d A l (braceP d l (at_+1) 123) e w'∧Kept b W w') :
  Calls Tryz.prog 134 #[.pointer (some ⟨b,0,none⟩)] w fun e w'=>TOut b n c d A l (tokenP d l at_) e w'∧Kept b w w':=by
 have HZ:=Lib.hid (Zt.start h)
 have hlo:=h.lo
 have hlt:=h.lt
 have hsm:=h.small
 obtain ⟨p,hp⟩:∃ p,p=ptAt l at_:=⟨_,rfl⟩
 have CP:=Lib.hid (peek_st HZ.out.st)
 rw [← hp] at CP hr hesc hopen hbrace
 obtain ⟨r,hrr⟩:∃ r,r=tokenP d l at_:=⟨_,rfl⟩
 rw [← hrr]
 have HR:=Lib.hid (show r=if p=46 then .ok ({ kind:=2 },at_+1)
  else if p=94 then .ok (lookT 3,at_+1)
  else if p=36 then .ok (lookT 4,at_+1)
  else if p=91 then .ok ({ kind:=5 },at_+1)
  else if p=42 then .ok (repeatP d l (at_+1) 0 (-1))
  else if p=43 then .ok (repeatP d l (at_+1) 1 (-1))
  else if p=63 then .ok (repeatP d l (at_+1) 0 1)
  else if p=92 then escapedP d l (at_+1)
  else if d=3 then .ok (pointT p,at_+1)
  else if p=40 then openP d l (at_+1)
  else if p=41 then .ok ({ kind:=8 },at_+1)
  else if p=124 then .ok ({ kind:=9 },at_+1)
  else if p=123 then braceP d l (at_+1) p
  else .ok (pointT p,at_+1) by rw [hrr];simp only [tokenP,← hp])
 have H173:=Lib.hid hr
 have H174:=Lib.hid hesc
 have H176:=Lib.hid hopen
 have H177:=Lib.hid hbrace
 obtain ⟨W0,hW0⟩:∃ X,X=w.alloc (.cells #[.int .i64 0,.int .i64 0,.string ⟨#[]⟩,.bool false,.int .i64 0,.int .i64 0,.int .i64 0,.int .i64 0] 108):=⟨_,rfl⟩
 rw [← hW0] at HZ CP
 clear h hr hp hrr hesc hopen hbrace
 go_enter Tryz.func134,Tryz.ntmps134
 go_upto_region 1 with (fail)
 rw [← hW0]
 clear hW0
 go_upto_region 2 with (go_at_call 171;(with_reducible refine CP.out.mono ?_);rintro e w1 ⟨rfl,h1,k1⟩;have HZ:=Lib.hid (HZ.out.by h1 k1);clear h1 k1)
 clear CP
 obtain ⟨c0,c1,c2,f2⟩:=HZ.out.st.rd.cells
 have W1:IntKind.i64.wrap (at_+1)=at_+1:=IntWalk.i64_in _ (by omega)
 go_upto_region 3 with (fail)
 have HZ:=Lib.hid (HZ.out.move (x:=at_+1) (by omega) (by omega))
 obtain ⟨X,hX⟩:∃ X,X=w1.setCell ⟨b,2,none⟩ (.int .i64 (at_+1)):=⟨_,rfl⟩
 rw [← hX] at HZ ⊢
 clear hX c0 c1 c2 f2
 obtain ⟨c0,c1,c2,f2⟩:=HZ.out.st.rd.cells
 go_upto_region 4 with (fail)
 clear c0 c1 c2 f2 W1
 by_cases q:p=46
 ·have e1:(p == 46)=true:=by simpa using q
  have HR:=Lib.hid (HR.out.trans (if_pos q))
  have hE:r=.ok ({ kind:=2 },at_+1):=HR.out
  clear q
  subst hE
  go_wp2_with ((with_reducible apply store24 (g:=w.heap.size));rfl;(with_reducible rfl);rfl;rfl;(exact HZ.out.z);rfl;rfl)
  ((try simp only [Exit.inBlock,Exit.then]);refine bodyPost_ret (v:=_) (results24 Tryz.results134 _ _ w.heap.size _ ?_ (row24 HZ.out.z) ?_) rfl ?_;rfl;rfl;exact HZ.out.done { kind:=2 })
 ·have e1:(p == 46)=false:=by simpa using q
  have HR:=Lib.hid (HR.out.trans (if_neg q))
  clear q
  go_upto_region 7 with (fail)
  clear e1
  by_cases q:p=94
  ·have e1:(p == 94)=true:=by simpa using q
   have HR:=Lib.hid (HR.out.trans (if_pos q))
   have hE:r=.ok (lookT 3,at_+1):=HR.out
   clear q
   subst hE
   go_wp2_with (first|(go_at_call 172;(with_reducible refine (look_st 3 HZ.out.st).mono ?_);rintro e w5 ⟨rfl,h1,k1⟩;have HZ:=Lib.hid (HZ.out.by h1 k1);clear h1 k1)|((with_reducible apply store24 (g:=w.heap.size));rfl;(with_reducible rfl);rfl;rfl;(exact HZ.out.z);rfl;rfl))
   ((try simp only [Exit.inBlock,Exit.then]);refine bodyPost_ret (v:=_) (results24 Tryz.results134 _ _ w.heap.size _ ?_ (row24 HZ.out.z) ?_) rfl ?_;rfl;rfl;exact HZ.out.done (lookT 3))
  ·have e1:(p == 94)=false:=by simpa using q
   have HR:=Lib.hid (HR.out.trans (if_neg q))
   clear q
   go_upto_region 9 with (fail)
   clear e1
   by_cases q:p=36
   ·have e1:(p == 36)=true:=by simpa using q
    have HR:=Lib.hid (HR.out.trans (if_pos q))
    have hE:r=.ok (lookT 4,at_+1):=HR.out
    clear q
    subst hE
    go_wp2_with (first|(go_at_call 172;(with_reducible refine (look_st 4 HZ.out.st).mono ?_);rintro e w5 ⟨rfl,h1,k1⟩;have HZ:=Lib.hid (HZ.out.by h1 k1);clear h1 k1)|((with_reducible apply store24 (g:=w.heap.size));rfl;(with_reducible rfl);rfl;rfl;(exact HZ.out.z);rfl;rfl))
    ((try simp only [Exit.inBlock,Exit.then]);refine bodyPost_ret (v:=_) (results24 Tryz.results134 _ _ w.heap.size _ ?_ (row24 HZ.out.z) ?_) rfl ?_;rfl;rfl;exact HZ.out.done (lookT 4))
   ·have e1:(p == 36)=false:=by simpa using q
    have HR:=Lib.hid (HR.out.trans (if_neg q))
    clear q
    go_upto_region 11 with (fail)
    clear e1
    by_cases q:p=91
    ·have e1:(p == 91)=true:=by simpa using q
     have HR:=Lib.hid (HR.out.trans (if_pos q))
     have hE:r=.ok ({ kind:=5 },at_+1):=HR.out
     clear q
     subst hE
     go_wp2_with ((with_reducible apply store24 (g:=w.heap.size));rfl;(with_reducible rfl);rfl;rfl;(exact HZ.out.z);rfl;rfl)
     ((try simp only [Exit.inBlock,Exit.then]);refine bodyPost_ret (v:=_) (results24 Tryz.results134 _ _ w.heap.size _ ?_ (row24 HZ.out.z) ?_) rfl ?_;rfl;rfl;exact HZ.out.done { kind:=5 })
    ·have e1:(p == 91)=false:=by simpa using q
     have HR:=Lib.hid (HR.out.trans (if_neg q))
     clear q
     go_upto_region 13 with (fail)
     clear e1
     by_cases q:p=42
     ·have e1:(p == 42)=true:=by simpa using q
      have HR:=Lib.hid (HR.out.trans (if_pos q))
      have CS:=H173.out (.inl q) (0) (-1) _ HZ.out.st
      cases ho:repeatP d l (at_+1) (0) (-1) with
      | mk t nx =>
       have hE:r=.ok (t,nx):=by rw [HR.out];exact congrArg Except.ok ho
       have CC:=Lib.hid (tout_ok CS (congrArg Except.ok ho))
       subst hE
       clear ho
       go_wp2_with (first|(go_at_call 173;(with_reducible refine CC.out.mono ?_);rintro e w3 ⟨rfl,h1,k1⟩;have HZ:=Lib.hid (HZ.out.by h1 k1);clear h1 k1)|((with_reducible apply store24 (g:=w.heap.size));rfl;(with_reducible rfl);rfl;rfl;(exact HZ.out.z);rfl;rfl))
       ((try simp only [Exit.inBlock,Exit.then]);refine bodyPost_ret (v:=_) (results24 Tryz.results134 _ _ w.heap.size _ ?_ (row24 HZ.out.z) ?_) rfl ?_;rfl;rfl;exact HZ.out.done t)
     ·have e1:(p == 42)=false:=by simpa using q
      have HR:=Lib.hid (HR.out.trans (if_neg q))
      clear q
      go_upto_region 15 with (fail)
      clear e1
      by_cases q:p=43
      ·have e1:(p == 43)=true:=by simpa using q
       have HR:=Lib.hid (HR.out.trans (if_pos q))
       have CS:=H173.out (.inr (.inl q)) (1) (-1) _ HZ.out.st
       cases ho:repeatP d l (at_+1) (1) (-1) with
       | mk t nx =>
        have hE:r=.ok (t,nx):=by rw [HR.out];exact congrArg Except.ok ho
        have CC:=Lib.hid (tout_ok CS (congrArg Except.ok ho))
        subst hE
        clear ho
        go_wp2_with (first|(go_at_call 173;(with_reducible refine CC.out.mono ?_);rintro e w3 ⟨rfl,h1,k1⟩;have HZ:=Lib.hid (HZ.out.by h1 k1);clear h1 k1)|((with_reducible apply store24 (g:=w.heap.size));rfl;(with_reducible rfl);rfl;rfl;(exact HZ.out.z);rfl;rfl))
        ((try simp only [Exit.inBlock,Exit.then]);refine bodyPost_ret (v:=_) (results24 Tryz.results134 _ _ w.heap.size _ ?_ (row24 HZ.out.z) ?_) rfl ?_;rfl;rfl;exact HZ.out.done t)
      ·have e1:(p == 43)=false:=by simpa using q
       have HR:=Lib.hid (HR.out.trans (if_neg q))
       clear q
       go_upto_region 17 with (fail)
       clear e1
       by_cases q:p=63
       ·have e1:(p == 63)=true:=by simpa using q
        have HR:=Lib.hid (HR.out.trans (if_pos q))
        have CS:=H173.out (.inr (.inr q)) (0) (1) _ HZ.out.st
        cases ho:repeatP d l (at_+1) (0) (1) with
        | mk t nx =>
         have hE:r=.ok (t,nx):=by rw [HR.out];exact congrArg Except.ok ho
         have CC:=Lib.hid (tout_ok CS (congrArg Except.ok ho))
         subst hE
         clear ho
         go_wp2_with (first|(go_at_call 173;(with_reducible refine CC.out.mono ?_);rintro e w3 ⟨rfl,h1,k1⟩;have HZ:=Lib.hid (HZ.out.by h1 k1);clear h1 k1)|((with_reducible apply store24 (g:=w.heap.size));rfl;(with_reducible rfl);rfl;rfl;(exact HZ.out.z);rfl;rfl))
         ((try simp only [Exit.inBlock,Exit.then]);refine bodyPost_ret (v:=_) (results24 Tryz.results134 _ _ w.heap.size _ ?_ (row24 HZ.out.z) ?_) rfl ?_;rfl;rfl;exact HZ.out.done t)
       ·have e1:(p == 63)=false:=by simpa using q
        have HR:=Lib.hid (HR.out.trans (if_neg q))
        clear q
        go_upto_region 19 with (fail)
        clear e1
        by_cases q:p=92
        ·have e1:(p == 92)=true:=by simpa using q
         have HR:=Lib.hid (HR.out.trans (if_pos q))
         have CS:=H174.out q _ HZ.out.st
         cases ho:escapedP d l (at_+1) with
         | error x =>
          have hE:r=.error x:=by rw [HR.out];exact ho
          have CC:=Lib.hid (tout_bad CS ho)
          subst hE
          clear ho
          go_wp2_with (go_at_call 174;(with_reducible refine CC.out.mono ?_);rintro e w3 ⟨rfl,k1⟩)
          exact ⟨rfl,rfl,HZ.out.kp.trans k1⟩
         | ok q =>
          obtain ⟨t,nx⟩:=q
          have hE:r=.ok (t,nx):=by rw [HR.out];exact ho
          have CC:=Lib.hid (tout_ok CS ho)
          subst hE
          clear ho
          go_wp2_with (first|(go_at_call 174;(with_reducible refine CC.out.mono ?_);rintro e w3 ⟨rfl,h1,k1⟩;have HZ:=Lib.hid (HZ.out.by h1 k1);clear h1 k1)|((with_reducible apply store24 (g:=w.heap.size));rfl;(with_reducible rfl);rfl;rfl;(exact HZ.out.z);rfl;rfl))
          ((try simp only [Exit.inBlock,Exit.then]);refine bodyPost_ret (v:=_) (results24 Tryz.results134 _ _ w.heap.size _ ?_ (row24 HZ.out.z) ?_) rfl ?_;rfl;rfl;exact HZ.out.done t)
        ·have e1:(p == 92)=false:=by simpa using q
         have HR:=Lib.hid (HR.out.trans (if_neg q))
         clear q
         go_upto_region 21 with (fail)
         clear e1
         by_cases q:d=3
         ·have e1:(d == 3)=true:=by simpa using q
          have HR:=Lib.hid (HR.out.trans (if_pos q))
          have hE:r=.ok (pointT p,at_+1):=HR.out
          clear q
          subst hE
          go_wp2_with (first|(go_at_call 175;(with_reducible refine (point_st p HZ.out.st).mono ?_);rintro e w5 ⟨rfl,h1,k1⟩;have HZ:=Lib.hid (HZ.out.by h1 k1);clear h1 k1)|((with_reducible apply store24 (g:=w.heap.size));rfl;(with_reducible rfl);rfl;rfl;(exact HZ.out.z);rfl;rfl))
          ((try simp only [Exit.inBlock,Exit.then]);refine bodyPost_ret (v:=_) (results24 Tryz.results134 _ _ w.heap.size _ ?_ (row24 HZ.out.z) ?_) rfl ?_;rfl;rfl;exact HZ.out.done (pointT p))
         ·have e1:(d == 3)=false:=by simpa using q
          have ND:=Lib.hid q
          have HR:=Lib.hid (HR.out.trans (if_neg q))
          clear q
          go_upto_region 23 with (fail)
          by_cases q:p=40
          ·have e1:(p == 40)=true:=by simpa using q
           have HR:=Lib.hid (HR.out.trans (if_pos q))
           have CS:=H176.out q ND.out _ HZ.out.st
           cases ho:openP d l (at_+1) with
           | error x =>
            have hE:r=.error x:=by rw [HR.out];exact ho
            have CC:=Lib.hid (tout_bad CS ho)
            subst hE
            clear ho
            go_wp2_with (go_at_call 176;(with_reducible refine CC.out.mono ?_);rintro e w3 ⟨rfl,k1⟩)
            exact ⟨rfl,rfl,HZ.out.kp.trans k1⟩
           | ok q =>
            obtain ⟨t,nx⟩:=q
            have hE:r=.ok (t,nx):=by rw [HR.out];exact ho
            have CC:=Lib.hid (tout_ok CS ho)
            subst hE
            clear ho
            go_wp2_with (first|(go_at_call 176;(with_reducible refine CC.out.mono ?_);rintro e w3 ⟨rfl,h1,k1⟩;have HZ:=Lib.hid (HZ.out.by h1 k1);clear h1 k1)|((with_reducible apply store24 (g:=w.heap.size));rfl;(with_reducible rfl);rfl;rfl;(exact HZ.out.z);rfl;rfl))
            ((try simp only [Exit.inBlock,Exit.then]);refine bodyPost_ret (v:=_) (results24 Tryz.results134 _ _ w.heap.size _ ?_ (row24 HZ.out.z) ?_) rfl ?_;rfl;rfl;exact HZ.out.done t)
          ·have e1:(p == 40)=false:=by simpa using q
           have HR:=Lib.hid (HR.out.trans (if_neg q))
           clear q
           go_upto_region 26 with (fail)
           clear e1
           by_cases q:p=41
           ·have e1:(p == 41)=true:=by simpa using q
            have HR:=Lib.hid (HR.out.trans (if_pos q))
            have hE:r=.ok ({ kind:=8 },at_+1):=HR.out
            clear q
            subst hE
            go_wp2_with ((with_reducible apply store24 (g:=w.heap.size));rfl;(with_reducible rfl);rfl;rfl;(exact HZ.out.z);rfl;rfl)
            ((try simp only [Exit.inBlock,Exit.then]);refine bodyPost_ret (v:=_) (results24 Tryz.results134 _ _ w.heap.size _ ?_ (row24 HZ.out.z) ?_) rfl ?_;rfl;rfl;exact HZ.out.done { kind:=8 })
           ·have e1:(p == 41)=false:=by simpa using q
            have HR:=Lib.hid (HR.out.trans (if_neg q))
            clear q
            go_upto_region 28 with (fail)
            clear e1
            by_cases q:p=124
            ·have e1:(p == 124)=true:=by simpa using q
             have HR:=Lib.hid (HR.out.trans (if_pos q))
             have hE:r=.ok ({ kind:=9 },at_+1):=HR.out
             clear q
             subst hE
             go_wp2_with ((with_reducible apply store24 (g:=w.heap.size));rfl;(with_reducible rfl);rfl;rfl;(exact HZ.out.z);rfl;rfl)
             ((try simp only [Exit.inBlock,Exit.then]);refine bodyPost_ret (v:=_) (results24 Tryz.results134 _ _ w.heap.size _ ?_ (row24 HZ.out.z) ?_) rfl ?_;rfl;rfl;exact HZ.out.done { kind:=9 })
            ·have e1:(p == 124)=false:=by simpa using q
             have HR:=Lib.hid (HR.out.trans (if_neg q))
             clear q
             go_upto_region 30 with (fail)
             clear e1
             by_cases q:p=123
             ·have e1:(p == 123)=true:=by simpa using q
              have HR:=Lib.hid (HR.out.trans (if_pos q))
              subst q
              have CS:=H177.out rfl ND.out _ HZ.out.st
              cases ho:braceP d l (at_+1) 123 with
              | error x =>
               have hE:r=.error x:=by rw [HR.out];exact ho
               have CC:=Lib.hid (tout_bad CS ho)
               subst hE
               clear ho
               go_wp2_with (go_at_call 177;(with_reducible refine CC.out.mono ?_);rintro e w3 ⟨rfl,k1⟩)
               exact ⟨rfl,rfl,HZ.out.kp.trans k1⟩
              | ok q =>
               obtain ⟨t,nx⟩:=q
               have hE:r=.ok (t,nx):=by rw [HR.out];exact ho
               have CC:=Lib.hid (tout_ok CS ho)
               subst hE
               clear ho
               go_wp2_with (first|(go_at_call 177;(with_reducible refine CC.out.mono ?_);rintro e w3 ⟨rfl,h1,k1⟩;have HZ:=Lib.hid (HZ.out.by h1 k1);clear h1 k1)|((with_reducible apply store24 (g:=w.heap.size));rfl;(with_reducible rfl);rfl;rfl;(exact HZ.out.z);rfl;rfl))
               ((try simp only [Exit.inBlock,Exit.then]);refine bodyPost_ret (v:=_) (results24 Tryz.results134 _ _ w.heap.size _ ?_ (row24 HZ.out.z) ?_) rfl ?_;rfl;rfl;exact HZ.out.done t)
             ·have e1:(p == 123)=false:=by simpa using q
              have HR:=Lib.hid (HR.out.trans (if_neg q))
              clear q
              have hE:r=.ok (pointT p,at_+1):=HR.out
              subst hE
              go_wp2_with (first|(go_at_call 175;(with_reducible refine (point_st p HZ.out.st).mono ?_);rintro e w5 ⟨rfl,h1,k1⟩;have HZ:=Lib.hid (HZ.out.by h1 k1);clear h1 k1)|((with_reducible apply store24 (g:=w.heap.size));rfl;(with_reducible rfl);rfl;rfl;(exact HZ.out.z);rfl;rfl))
              ((try simp only [Exit.inBlock,Exit.then]);refine bodyPost_ret (v:=_) (results24 Tryz.results134 _ _ w.heap.size _ ?_ (row24 HZ.out.z) ?_) rfl ?_;rfl;rfl;exact HZ.out.done (pointT p))
end Go.Proofs.YtbiahhojnjchnaaGreat
