/-
  SetOf of the reference, walked: a right set of the points for which what it is handed is true.
-/
import Derived.Test.YtbiahhojnjchnaaGreatGA
import Derived.Test.YtbiahhojnjchnaaGreatHD
set_option linter.unusedVariables false
set_option linter.unusedSimpArgs false
namespace Go.Proofs.YtbiahhojnjchnaaGreat
open Go.RowKit
theorem own_ne_type {w:World} {b1 b2 s1 s2 n1 n2:Nat} {e1 e2:TypeId} {v1 v2:Value} {xs ys:List Value} (h:w.ownsRow b1 e1 s1 v1 n1 xs) (k:w.ownsRow b2 e2 s2 v2 n2 ys) (hne:e1≠e2):∀ g,v1.ownBlock=some g→v2.ownBlock≠some g:=by
 intro g h1 h2
 rcases h.2 with ⟨rfl,_⟩|⟨g1,cap,cur,rfl,_,hh,_⟩
 ·simp [Value.ownBlock] at h1
 ·rcases k.2 with ⟨rfl,_⟩|⟨g2,cap2,cur2,rfl,_,kk,_⟩
  ·simp [Value.ownBlock] at h2
  ·simp [Value.ownBlock] at h1 h2
   subst h1 h2
   rw [hh] at kk
   injection kk with kk
   injection kk with _ kk
   exact hne kk
theorem own_kept {w w':World} {base' m size':Nat} {e':TypeId} {v B:Value} {ys:List Value} (hB:w.ownsRow base' e' size' B m ys) (hg:w.grownBy w' v.ownBlock) (hne:∀ g,v.ownBlock=some g→B.ownBlock≠some g):w'.ownsRow base' e' size' B m ys:=by
 refine hB.kept hg ?_
 cases hb:B.ownBlock with
 | none=>exact .inl rfl
 | some g=>exact .inr (fun h=>hne g h.symm hb)
theorem Rds.ints_from {w:World} {B n b o:Nat} {l:List Int} (h:Rds w B 1 (some ⟨b,o,none⟩) n (ints l)) {j:Nat} (hj:j≤n):Rds w B 1 (some ⟨b,o+j,none⟩) (n - j) (ints (l.drop j)):=by
 refine ⟨by rw [ints_length,List.length_drop,h.ints_len];omega,fun hn=>?_⟩
 obtain ⟨b',o',e,hb,hc⟩:=h.2 (by omega)
 injection e with e
 injection e with e1 e2
 subst e1 e2
 refine ⟨b,o+j,rfl,hb,fun i u hu=>?_⟩
 rw [Nat.add_assoc]
 refine hc _ u ?_
 rw [← hu]
 simp [ints,List.getElem?_drop]
theorem Rds.ints_first {w:World} {B n:Nat} {A:Option Addr} {l:List Int} (h:Rds w B 1 A n (ints l)) {j:Nat} (hj:j≤n):Rds w B 1 A j (ints (l.take j)):=by
 have:=h.first hj
 rw [Nat.mul_one] at this
 simpa [ints,List.map_take] using this
theorem own_ne_new {w:World} {base size n:Nat} {e:TypeId} {v:Value} {xs:List Value} (h:w.ownsRow base e size v n xs):∀ g,v.ownBlock=some g→g≠w.heap.size:=fun g hg e=>by have:=h.lt g hg;omega
theorem own_setCell_far {w:World} {base:Nat} {e:TypeId} {size n:Nat} {v:Value} {xs:List Value} (h:w.ownsRow base e size v n xs) {a:Addr} (ha:v.ownBlock≠some a.block) (u:Value):(w.setCell a u).ownsRow base e size v n xs:=by
 refine ⟨h.1,?_⟩
 rcases h.2 with h2|⟨g,cap,cur,rfl,hg,hh,r⟩
 ·exact .inl h2
 ·refine .inr ⟨g,cap,cur,rfl,hg,?_,r⟩
  rw [Below.heap_setCell _ _ _ _ (fun e=>ha (by simp [Value.ownBlock,e]))];exact hh
theorem own_keptN {w w':World} {q:Nat} {ob:Obj} {base' m size':Nat} {e':TypeId} {v B:Value} {ys:List Value} (hB:w.ownsRow base' e' size' B m ys) (hg:((w.drewN q).alloc ob).grownBy w' v.ownBlock) (hne:∀ g,v.ownBlock=some g→B.ownBlock≠some g):w'.ownsRow base' e' size' B m ys :=
 own_kept (w:=(w.drewN q).alloc ob) (World.ownsRow.alloc (w:=w.drewN q) hB ob) hg hne
theorem grown_ownN {B:Nat} {a w w':World} {q:Nat} {ob:Obj} {v:Value} {base n:Nat} {e:TypeId} {size:Nat} {xs:List Value} (h:Below B a w) (hown:w.ownsRow base e size v n xs) (hg:((w.drewN q).alloc ob).grownBy w' v.ownBlock) (hB:B≤base) (hb:base≤w.heap.size):Below B a w' :=
 grown_own (w:=(w.drewN q).alloc ob) ((below_drewN h q).alloc (Nat.le_trans hB hb) ob) (World.ownsRow.alloc (w:=w.drewN q) hown ob) hg hB (Nat.le_trans hb (by simp))
theorem ends_init (w:World):(w.alloc (.cells #[.int .i64 0] 3)).ownsRow w.heap.size 3 1 (.slice (some ⟨w.heap.size,0,none⟩) 1 1) 1 (ints [0]):=own_new w w.heap.size 3 1 1 #[.int .i64 0] (Nat.le_refl _) rfl (by decide)
set_option maxRecDepth 100000 in
set_option maxHeartbeats 4000000 in
theorem setOf_any (es:List Int) (f:Int→Bool) (A:Option Addr) (n c g:Nat) (cb:Array Value) (w:World) (hn:n≤2000000) (hes:Rds w w.heap.size 1 A n (ints es))
  (eg:∀ args w,(callFunc g args).run Tryz.prog w=.ok (.enter g args) w)
  (hcl:∀ (p:Int) (w':World),Below w.heap.size w w'→Calls Tryz.prog g (#[.int .i64 p] ++ cb) w' fun e w''=>e=.returned (.bool (f p))∧∃ q,w''=w'.drewN q)
  (hf:∀ p,0 < p→p≤1114111→p ∉ es→f p=f (p - 1)) :
  Calls Tryz.prog 98 #[.slice A n c,.func (.func g) #[] cb] w fun e w'=>∃ out,(IsSet out fun p=>0≤p∧p≤1114111∧f p=true)∧out.length≤n+1∧OwnRngs w out e w':=by
 have HES:=Lib.hid hes.ints_len
 have HF:=Lib.hid hf
 have HCL:=Lib.hid hcl
 clear hf hcl
 go_enter Tryz.func98,Tryz.ntmps98
 go_wp2_with fail
 go_loopw [5,6] (fun v i wr=>∃ (k m:Nat) (L:List Int),k≤n∧i=.int .i64 k∧Ends L (es.take k)∧wr.ownsRow w.heap.size 3 1 v m (ints L)∧Below w.heap.size w wr) (fun _ i _=>n - (intOf i).toNat)
 case atStart=>exact ⟨0,1,[0],Nat.zero_le _,rfl,by simpa using Ends.start,ends_init w,(Below.refl _ _).alloc (Nat.le_refl _) _⟩
 case round =>
  obtain ⟨k,m,L,hk,rfl,hE,hown,hB⟩:=hrel
  obtain ⟨Av,cv,rfl,hmc,hcv⟩:=own_slice hown
  have hlen:=Lib.hid (own_ints_len hown)
  have HE:=Lib.hid hE
  have hm1:1≤m:=by obtain ⟨l,hl⟩:=hE.zero;rw [hlen.out,hl];simp
  have hm2:m≤2000001:=by have:=hE.len;rw [hlen.out];simp at this;omega
  clear hE
  unfold maxLen at hcv
  by_cases hlt:k < n
  ·obtain ⟨be,oe,hke,hA,hbe,hce⟩:=(hes.below hB (Nat.le_refl _)).int_at hlt
   subst hA
   have HT:=Lib.hid (take_snoc' es k hke)
   obtain ⟨x,hx⟩:∃ x,x=es[k]:=⟨_,rfl⟩
   rw [← hx] at hce HT
   clear hx
   have i1:(0:Int)≤(k:Int):=by omega
   have i2:(k:Int) < (n:Int):=by omega
   go_wp2_with fail
   obtain ⟨wo,rfl⟩:∃ wo:World,wo=wr:=⟨_,rfl⟩
   go_loopw [7] (fun a wx=>∃ j:Nat,a=.int .i64 j∧j≤m∧(∀ t,(ht:t < L.length)→t < j→L[t] < x)∧∃ q,wx=wo.drewN q) (fun a _=>m - (intOf a).toNat)
   case atStart=>exact ⟨0,rfl,Nat.zero_le _,by intro t ht h;omega,0,rfl⟩
   case round =>
    obtain ⟨j,rfl,hj,hlo,q,rfl⟩:=hrel
    have HLO:=Lib.hid hlo
    clear hlo
    have rL:=Rds.of_own hown
    have j1:(0:Int)≤(j:Int):=by omega
    by_cases hjm:j < m
    ·obtain ⟨bl,ol,hjl,hAl,hbl,hcl⟩:=rL.int_at hjm
     have HAL:=Lib.hid hAl
     subst hAl
     have j2:(j:Int) < (m:Int):=by omega
     have HLS:=Lib.hid (fun (h:L[j] < x)=>show ∀ t,(ht:t < L.length)→t < j+1→L[t] < x from fun t ht hlt=>by
      by_cases e:t=j
      ·subst e;exact h
      ·exact HLO.out t ht (by omega))
     have HPUT:=Lib.hid (fun (h0:0≤x) (h1:x≤1114111) (h2:x < L[j])=>HE.out.put h0 h1 j (by rw [← hlen.out];exact hj) HLO.out (fun _=>h2))
     have HSK:=Lib.hid (fun (h:x=L[j])=>HE.out.skip (x:=x) (fun _ _=>by rw [h];exact List.getElem_mem hjl))
     have HSK2:=Lib.hid (fun (h:¬ (0≤x∧x≤1114111))=>HE.out.skip (x:=x) (fun a b=>absurd ⟨a,b⟩ h))
     obtain ⟨y,hy⟩:∃ y,y=L[j]:=⟨_,rfl⟩
     rw [← hy] at hcl HPUT HSK
     have HLS':=Lib.hid (fun h:y < x=>HLS.out (by rw [← hy];exact h))
     clear hy HLS
     have hjc:j≤cv:=by omega
     have hjc2:¬ cv=j:=by omega
     have hjmb:((j:Int) == (m:Int))=false:=by rw [beq_eq_false_iff_ne];omega
     by_cases hyx:y < x
     ·go_wp2_with fail
      go_quiet (fail)
      go_wp2
      go_roundw
      case rel=>exact ⟨j+1,by go_num,by omega,HLS'.out hyx,_,rfl⟩
      case measure=>simp [intOf];omega
     ·go_wp2_with fail
      go_quiet (fail)
      cases hp:(decide (0≤x) && decide (x≤1114111))
      ·have HP:=Lib.hid hp
       clear hp
       go_wp2_with fail
       go_quiet ((go_at_call 31;(first|(with_reducible exact Calls.quiet_of_same (isPoint_of x false _ HP.out))|(with_reducible exact quiet_add_same (isPoint_of x false _ HP.out)))))
       go_wp2
       go_roundw
       case rel=>exact ⟨k+1,m,L,by omega,by go_num,by rw [HT.out];exact HSK2.out (by have:=HP.out;simp at this;omega),hown,below_drewN hB _⟩
       case measure=>simp [intOf];omega
      ·have HP:=Lib.hid hp
       clear hp
       by_cases hxy:x=y
       ·have hb:(y != x)=false:=by simp [hxy]
        have HXY:=Lib.hid hxy
        clear hxy
        go_wp2_with fail
        go_quiet ((go_at_call 31;(first|(with_reducible exact Calls.quiet_of_same (isPoint_of x true _ HP.out))|(with_reducible exact quiet_add_same (isPoint_of x true _ HP.out)))))
        go_wp2
        go_roundw
        case rel=>exact ⟨k+1,m,L,by omega,by go_num,by rw [HT.out];exact HSK.out HXY.out,hown,below_drewN hB _⟩
        case measure=>simp [intOf];omega
       ·have hb:(y != x)=true:=by rw [bne_iff_ne];exact fun e=>hxy e.symm
        have HXY:=Lib.hid hxy
        clear hxy
        go_wp2_with fail
        go_quiet ((go_at_call 31;(first|(with_reducible exact Calls.quiet_of_same (isPoint_of x true _ HP.out))|(with_reducible exact quiet_add_same (isPoint_of x true _ HP.out)))))
        obtain ⟨hj1,hEnew⟩:=HPUT.out (by have:=HP.out;simp at this;omega) (by have:=HP.out;simp at this;omega) (by have:=HXY.out;omega)
        have HENEW:=Lib.hid hEnew
        clear hEnew
        go_wp2_with fail
        have hnew:(wo.alloc (.cells #[.int .i64 x] 3)).ownsRow w.heap.size 3 1 (.slice (some ⟨wo.heap.size,0,none⟩) 1 1) 1 (ints [x]):=own_new wo w.heap.size 3 1 1 #[.int .i64 x] hB.size rfl (by decide)
        have hsz:=hB.size
        have HNEW:=Lib.hid hnew
        have HCUT:=Lib.hid ((rL.ints_from (j:=j) hj).alloc (Nat.le_refl _) (.cells #[.int .i64 x] 3))
        have HFIRST:=Lib.hid (fun q':Nat=>((rL.ints_first (j:=j) hj).drewN q').alloc (Nat.le_refl _) (.cells #[.int .i64 x] 3))
        have HNB:=Lib.hid (show (some be:Option Nat)≠(Value.slice (some ⟨wo.heap.size,0,none⟩) 1 1).ownBlock from fun e=>by simp [Value.ownBlock] at e;omega)
        clear hnew
        have hn1:=World.new_ne wo
        go_region_held3 (fun w'=>w'.cell? ⟨be,oe+k,none⟩=some (.int .i64 x)∧wo.heap.size≤w'.heap.size)
         (first
          | (exact ⟨by simpa using hce,by simp⟩)
          | (go_split_ands;exact ⟨hg4.cell (by assumption) (by simp),Nat.le_trans (by assumption) hg4.size⟩)
          | (go_split_ands;exact ⟨hg3.cell (by assumption) HNB.out,Nat.le_trans (by assumption) hg3.size⟩)
          | go_keep
          | (go_split_ands;trace_state;fail))
         (first
          | (refine step_app_ints (.tmp 65) (.tmp 68) (base:=w.heap.size) (xs:=[x]) (n:=1) (by exact HNEW.out) (by exact HCUT.out) (by omega) (by simp;omega) rfl rfl rfl rfl ?_;intro v3 w3 hown3 hg3 hat3;obtain ⟨A3,c3,hv3,q3,q4⟩:=own_slice hown3;subst hv3)
          | (refine step_grow_ints (.tmp 60) (.tmp 69) (B:=wo.heap.size) ((HFIRST.out _).grown hg3 (by simp) (fun g hg=>Nat.le_of_eq (Option.some.inj hg))) (Rds.of_own hown3) (by omega) (by omega) (by omega) (by omega) rfl rfl rfl rfl ?_;intro v4 w4 hown4 hg4))
        clear hn1
        go_wp2
        go_roundw
        case rel=>exact ⟨k+1,j+(1+(m - j)),_,by omega,by go_num,by rw [HT.out];exact HENEW.out,own_mono hown4 (by go_split_ands;have:=hg3.size;simp at this;omega),(((below_drewN hB _).alloc (by simp;omega) _).grown hg3 (by simp;omega) (fun g hg=>Nat.le_trans hsz (Nat.le_of_eq (Option.some.inj hg)))).grown hg4 (by have:=hg3.size;simp at this;omega) (fun g hg=>by cases hg)⟩
        case measure=>simp [intOf];omega
    ·obtain rfl:j=m:=by omega
     obtain ⟨bl,ol,hjl,hAl,hbl,hcl⟩:=rL.int_at (k:=0) (by omega)
     subst hAl
     have HPUT:=Lib.hid (fun (h0:0≤x) (h1:x≤1114111)=>HE.out.put h0 h1 j (by rw [← hlen.out];exact hj) HLO.out (fun hj=>absurd hj (by rw [← hlen.out];omega)))
     have HSK2:=Lib.hid (fun (h:¬ (0≤x∧x≤1114111))=>HE.out.skip (x:=x) (fun a b=>absurd ⟨a,b⟩ h))
     have hjc:j≤cv:=by omega
     clear hcl
     go_wp2_with fail
     go_quiet (fail)
     cases hp:(decide (0≤x) && decide (x≤1114111))
     ·have HP:=Lib.hid hp
      clear hp
      go_wp2_with fail
      go_quiet ((go_at_call 31;(first|(with_reducible exact Calls.quiet_of_same (isPoint_of x false _ HP.out))|(with_reducible exact quiet_add_same (isPoint_of x false _ HP.out)))))
      go_wp2
      go_roundw
      case rel=>exact ⟨k+1,j,L,by omega,by go_num,by rw [HT.out];exact HSK2.out (by have:=HP.out;simp at this;omega),hown,below_drewN hB _⟩
      case measure=>simp [intOf];omega
     ·have HP:=Lib.hid hp
      clear hp
      go_wp2_with fail
      go_quiet ((go_at_call 31;(first|(with_reducible exact Calls.quiet_of_same (isPoint_of x true _ HP.out))|(with_reducible exact quiet_add_same (isPoint_of x true _ HP.out)))))
      obtain ⟨hj1,hEnew⟩:=HPUT.out (by have:=HP.out;simp at this;omega) (by have:=HP.out;simp at this;omega)
      have HENEW:=Lib.hid hEnew
      have HDROP:=Lib.hid (show L.drop j=[] from List.drop_of_length_le (by rw [← hlen.out];exact Nat.le_refl _))
      clear hEnew
      by_cases hcvj:cv=j
      all_goals
       go_wp2_with fail
       have hnew:(wo.alloc (.cells #[.int .i64 x] 3)).ownsRow w.heap.size 3 1 (.slice (some ⟨wo.heap.size,0,none⟩) 1 1) 1 (ints [x]):=own_new wo w.heap.size 3 1 1 #[.int .i64 x] hB.size rfl (by decide)
       have hsz:=hB.size
       have HNEW:=Lib.hid hnew
       have HCUT:=Lib.hid (fun A':Option Addr=>show Rds (wo.alloc (.cells #[.int .i64 x] 3)) wo.heap.size 1 A' 0 (ints (L.drop j)) from by rw [HDROP.out];exact Rds.nil_ _ _ _ _)
       have HFIRST:=Lib.hid (fun q':Nat=>((rL.ints_first (j:=j) hj).drewN q').alloc (Nat.le_refl _) (.cells #[.int .i64 x] 3))
       have HNB:=Lib.hid (show (some be:Option Nat)≠(Value.slice (some ⟨wo.heap.size,0,none⟩) 1 1).ownBlock from fun e=>by simp [Value.ownBlock] at e;omega)
       clear hnew
       have hn1:=World.new_ne wo
       go_region_held3 (fun w'=>w'.cell? ⟨be,oe+k,none⟩=some (.int .i64 x)∧wo.heap.size≤w'.heap.size)
        (first
         | (exact ⟨by simpa using hce,by simp⟩)
         | (go_split_ands;exact ⟨hg4.cell (by assumption) (by simp),Nat.le_trans (by assumption) hg4.size⟩)
         | (go_split_ands;exact ⟨hg3.cell (by assumption) HNB.out,Nat.le_trans (by assumption) hg3.size⟩)
         | go_keep
         | (go_split_ands;trace_state;fail))
        (first
         | (refine step_app_ints (.tmp 65) (.tmp 68) (base:=w.heap.size) (xs:=[x]) (n:=1) (by exact HNEW.out) (m:=0) (by exact HCUT.out _) (by omega) (by simp;omega) rfl rfl rfl rfl ?_;intro v3 w3 hown3 hg3 hat3;obtain ⟨A3,c3,hv3,q3,q4⟩:=own_slice hown3;subst hv3)
         | (refine step_grow_ints (.tmp 60) (.tmp 69) (B:=wo.heap.size) ((HFIRST.out _).grown hg3 (by simp) (fun g hg=>Nat.le_of_eq (Option.some.inj hg))) (Rds.of_own hown3) (by omega) (by omega) (by omega) (by omega) rfl rfl rfl rfl ?_;intro v4 w4 hown4 hg4))
       clear hn1
       go_wp2
       go_roundw
       case rel=>exact ⟨k+1,j+(1+0),_,by omega,by go_num,by rw [HT.out];exact HENEW.out,own_mono hown4 (by go_split_ands;have:=hg3.size;simp at this;omega),(((below_drewN hB _).alloc (by simp;omega) _).grown hg3 (by simp;omega) (fun g hg=>Nat.le_trans hsz (Nat.le_of_eq (Option.some.inj hg)))).grown hg4 (by have:=hg3.size;simp at this;omega) (fun g hg=>by cases hg)⟩
       case measure=>simp [intOf];omega
  ·obtain rfl:k=n:=by omega
   have HT:=Lib.hid (show es.take k=es from List.take_of_length_le (by rw [HES.out];exact Nat.le_refl _))
   have HE2:=Lib.hid (show Ends L es by have:=HE.out;rwa [HT.out] at this)
   have HLEN2:=Lib.hid (show m≤k+1 by have:=HE2.out.len;rw [HES.out] at this;rw [hlen.out];exact this)
   clear HE HT
   go_wp2_with fail
   obtain ⟨wo,rfl⟩:∃ wo:World,wo=wr:=⟨_,rfl⟩
   go_loopw [8,9] (fun v i wr=>∃ (j t:Nat) (out:List (Int × Int)),j≤m∧i=.int .i64 j∧t≤j∧(IsSet out fun p=>0≤p∧p < upTo L j∧f p=true)∧wr.ownsRow w.heap.size 67 2 v t (rngs out)∧wr.ownsRow w.heap.size 3 1 (.slice Av m cv) m (ints L)∧Below w.heap.size w wr) (fun _ i _=>m - (intOf i).toNat)
   case atStart =>
    refine ⟨0,0,[],Nat.zero_le _,rfl,Nat.le_refl _,⟨Can.nil,fun p=>?_⟩,World.ownsRow_nil _ _ _ _,hown,hB⟩
    have:upTo L 0=0:=by obtain ⟨l,hl⟩:=HE2.out.zero;simp [hl,upTo]
    rw [this]
    exact ⟨fun h=>absurd h (mem_nil p),fun h=>by omega⟩
   case round =>
    clear hown hB
    obtain ⟨j,t,out,hj,rfl,ht,hset,hout,hown,hB⟩:=hrel
    have HSET:=Lib.hid hset
    clear hset
    obtain ⟨Ao,co,rfl,hoc,hco⟩:=own_slice hout
    unfold maxLen at hco
    have hsz:=hB.size
    by_cases hjm:j < m
    ·obtain ⟨bl,ol,hjl,hAl,hbl,hcl⟩:=(Rds.of_own hown).int_at hjm
     have HNX:=Lib.hid (HE2.out.next j hjl)
     have HCO:=Lib.hid (HE2.out.const HF.out j hjl)
     have HUP:=Lib.hid (upTo_lt hjl)
     obtain ⟨x,hx⟩:∃ x,x=L[j]:=⟨_,rfl⟩
     have hxr:0≤x∧x≤1114111:=by rw [hx];exact HE2.out.range _ (List.getElem_mem hjl)
     rw [← hx] at hcl HNX HCO HUP
     obtain ⟨x0,x1⟩:=hxr
     rw [HUP.out] at HSET
     subst hAl
     cases hfx:f x
     ·have HFX:=Lib.hid hfx
      clear hfx hx
      go_wp2_with fail
      refine (HCL.out x wr hB).mono ?_
      rintro e w' ⟨rfl,q,rfl⟩
      rw [HFX.out]
      go_wp2
      go_roundw
      case rel=>exact ⟨j+1,t,out,by omega,by go_num,by omega,seg_skip HSET.out (by have:=HNX.out.1;omega) (fun p h1 h2=>by have:=HCO.out (p - x).toNat (by omega);rw [show x+(((p - x).toNat:Nat):Int)=p from by omega] at this;rw [this];exact HFX.out),hout,hown,below_drewN hB _⟩
      case measure=>simp [intOf];omega
     ·have HFX:=Lib.hid hfx
      clear hfx hx
      have HSEG:=Lib.hid (fun (T:Int) (hT:T=upTo L (j+1) - 1)=>@segStep_set out f x T HSET.out x0 (by have:=HNX.out.1;omega) (by have:=HNX.out.2;omega) (fun p h1 h2=>by have:=HCO.out (p - x).toNat (by omega);rw [show x+(((p - x).toNat:Nat):Int)=p from by omega] at this;rw [this];exact HFX.out))
      go_wp2_with fail
      refine (HCL.out x wr hB).mono ?_
      rintro e w' ⟨rfl,q,rfl⟩
      rw [HFX.out]
      have hj1:0≤(j:Int):=by omega
      by_cases hlast:j+1 < m
      ·obtain ⟨b3,o3,hjl3,hA3,hb3,hc3⟩:=(Rds.of_own hown).int_at hlast
       injection hA3 with hA3
       injection hA3 with e1 e2
       subst e1 e2
       have HT:=Lib.hid (show L[j+1] - 1=upTo L (j+1) - 1 by rw [upTo_lt hjl3])
       have hyr:=HE2.out.range _ (List.getElem_mem hjl3)
       obtain ⟨y,hy⟩:∃ y,y=L[j+1]:=⟨_,rfl⟩
       rw [← hy] at hc3 HT hyr
       clear hy
       obtain ⟨y0,y1⟩:=hyr
       have HNT:=Lib.hid (own_ne_type hout hown (by decide))
       have R:=Lib.hid (fun q':Nat=>Rds.new (wr.drewN q') 2 1 #[.int .i64 x,.int .i64 (y - 1)] 67 (rngs [(x,y - 1)]) rfl rfl)
       rcases snoc_cases out with rfl|⟨o,s,rfl⟩
       ·obtain rfl:t=0:=own_rngs_len hout
        go_wp2_with fail
        go_quiet (fail)
        go_wp2_with (at_builtin;refine app_rngs (.tmp 120) (.tmp 127) (base:=w.heap.size) (xs:=[]) (n:=0) (by exact hout.alloc _) (R.out _) (by omega) (by simp;omega) rfl rfl rfl rfl ?_;intro v3 w3 hown3 hg3 hat3)
        go_roundw
        case rel=>exact ⟨j+1,1,[(x,y - 1)],by omega,by go_num,by omega,by have:=HSEG.out (y - 1) HT.out;rw [segStep_nil] at this;rwa [show (y - 1:Int)+1=upTo L (j+1) by have:=HT.out;omega] at this,hown3,own_keptN hown hg3 HNT.out,grown_ownN hB hout hg3 (Nat.le_refl _) hsz⟩
        case measure=>simp [intOf];omega
       ·obtain ⟨gl,hAo,hgl,hgl2,htl,htc,hca,hcb,hfz,hst⟩:=own_last hout
        obtain ⟨u,hu⟩:∃ u,u=o.length:=⟨_,rfl⟩
        rw [← hu] at hca hcb hfz hst htl
        have HU:=Lib.hid hu
        clear hu
        obtain rfl:t=u+1:=htl
        obtain ⟨sa,sb⟩:=s
        simp only at hca hcb hst
        have HST:=Lib.hid hst
        clear hst hca
        have HAO:=Lib.hid hAo
        subst hAo
        have u1:(0:Int)≤(u:Int):=by omega
        have u2:(0:Int) < (u:Int)+1:=by omega
        have W1:=Lib.hid (show IntKind.i64.wrap ((u:Int)+1 - 1)=(u:Int) by rw [IntWalk.i64_in _ (by omega)];omega)
        have W2:=Lib.hid (show IntKind.i64.wrap (x - 1)=x - 1 from IntWalk.i64_in _ (by omega))
        by_cases hs:sb=x - 1
        ·have hb:(sb == x - 1)=true:=by rw [beq_iff_eq];exact hs
         have HS:=Lib.hid hs
         clear hs
         go_wp2_with fail
         have w1:=W1.out
         have w2:=W2.out
         go_quiet (fail)
         clear w1 w2
         go_wp2
         go_roundw
         case rel=>exact ⟨j+1,u+1,o ++ [(sa,y - 1)],by omega,by go_num,by omega,by have:=HSEG.out (y - 1) HT.out;rw [segStep_snoc,if_pos HS.out] at this;rwa [show (y - 1:Int)+1=upTo L (j+1) by have:=HT.out;omega] at this,HST.out _,own_setCell_far hown (HNT.out gl rfl) _,(below_drewN hB _).setCell hgl _⟩
         case measure=>simp [intOf];omega
        ·have hb:(sb == x - 1)=false:=by rw [beq_eq_false_iff_ne];exact hs
         have HS:=Lib.hid hs
         clear hs
         go_wp2_with fail
         have w1:=W1.out
         have w2:=W2.out
         go_quiet (fail)
         clear w1 w2
         go_wp2_with (at_builtin;refine app_rngs (.tmp 120) (.tmp 127) (base:=w.heap.size) (by exact hout.alloc _) (R.out _) (by omega) (by simp;omega) rfl rfl rfl rfl ?_;intro v3 w3 hown3 hg3 hat3)
         go_roundw
         case rel=>exact ⟨j+1,u+1+1,o ++ [(sa,sb)] ++ [(x,y - 1)],by omega,by go_num,by omega,by have:=HSEG.out (y - 1) HT.out;rw [segStep_snoc,if_neg HS.out] at this;rwa [show (y - 1:Int)+1=upTo L (j+1) by have:=HT.out;omega] at this,hown3,own_keptN hown hg3 HNT.out,grown_ownN hB hout hg3 (Nat.le_refl _) hsz⟩
         case measure=>simp [intOf];omega
      ·have HT:=Lib.hid (show (1114111:Int)=upTo L (j+1) - 1 by
        have e:j+1=L.length:=by rw [← hlen.out];omega
        rw [e,upTo_end];omega)
       have HNT:=Lib.hid (own_ne_type hout hown (by decide))
       have R:=Lib.hid (fun q':Nat=>Rds.new (wr.drewN q') 2 1 #[.int .i64 x,.int .i64 (1114111)] 67 (rngs [(x,1114111)]) rfl rfl)
       rcases snoc_cases out with rfl|⟨o,s,rfl⟩
       ·obtain rfl:t=0:=own_rngs_len hout
        go_wp2_with fail
        go_quiet (fail)
        go_wp2_with (at_builtin;refine app_rngs (.tmp 120) (.tmp 127) (base:=w.heap.size) (xs:=[]) (n:=0) (by exact hout.alloc _) (R.out _) (by omega) (by simp;omega) rfl rfl rfl rfl ?_;intro v3 w3 hown3 hg3 hat3)
        go_roundw
        case rel=>exact ⟨j+1,1,[(x,1114111)],by omega,by go_num,by omega,by have:=HSEG.out (1114111) HT.out;rw [segStep_nil] at this;rwa [show (1114111:Int)+1=upTo L (j+1) by have:=HT.out;omega] at this,hown3,own_keptN hown hg3 HNT.out,grown_ownN hB hout hg3 (Nat.le_refl _) hsz⟩
        case measure=>simp [intOf];omega
       ·obtain ⟨gl,hAo,hgl,hgl2,htl,htc,hca,hcb,hfz,hst⟩:=own_last hout
        obtain ⟨u,hu⟩:∃ u,u=o.length:=⟨_,rfl⟩
        rw [← hu] at hca hcb hfz hst htl
        have HU:=Lib.hid hu
        clear hu
        obtain rfl:t=u+1:=htl
        obtain ⟨sa,sb⟩:=s
        simp only at hca hcb hst
        have HST:=Lib.hid hst
        clear hst hca
        have HAO:=Lib.hid hAo
        subst hAo
        have u1:(0:Int)≤(u:Int):=by omega
        have u2:(0:Int) < (u:Int)+1:=by omega
        have W1:=Lib.hid (show IntKind.i64.wrap ((u:Int)+1 - 1)=(u:Int) by rw [IntWalk.i64_in _ (by omega)];omega)
        have W2:=Lib.hid (show IntKind.i64.wrap (x - 1)=x - 1 from IntWalk.i64_in _ (by omega))
        by_cases hs:sb=x - 1
        ·have hb:(sb == x - 1)=true:=by rw [beq_iff_eq];exact hs
         have HS:=Lib.hid hs
         clear hs
         go_wp2_with fail
         have w1:=W1.out
         have w2:=W2.out
         go_quiet (fail)
         clear w1 w2
         go_wp2
         go_roundw
         case rel=>exact ⟨j+1,u+1,o ++ [(sa,1114111)],by omega,by go_num,by omega,by have:=HSEG.out (1114111) HT.out;rw [segStep_snoc,if_pos HS.out] at this;rwa [show (1114111:Int)+1=upTo L (j+1) by have:=HT.out;omega] at this,HST.out _,own_setCell_far hown (HNT.out gl rfl) _,(below_drewN hB _).setCell hgl _⟩
         case measure=>simp [intOf];omega
        ·have hb:(sb == x - 1)=false:=by rw [beq_eq_false_iff_ne];exact hs
         have HS:=Lib.hid hs
         clear hs
         go_wp2_with fail
         have w1:=W1.out
         have w2:=W2.out
         go_quiet (fail)
         clear w1 w2
         go_wp2_with (at_builtin;refine app_rngs (.tmp 120) (.tmp 127) (base:=w.heap.size) (by exact hout.alloc _) (R.out _) (by omega) (by simp;omega) rfl rfl rfl rfl ?_;intro v3 w3 hown3 hg3 hat3)
         go_roundw
         case rel=>exact ⟨j+1,u+1+1,o ++ [(sa,sb)] ++ [(x,1114111)],by omega,by go_num,by omega,by have:=HSEG.out (1114111) HT.out;rw [segStep_snoc,if_neg HS.out] at this;rwa [show (1114111:Int)+1=upTo L (j+1) by have:=HT.out;omega] at this,hown3,own_keptN hown hg3 HNT.out,grown_ownN hB hout hg3 (Nat.le_refl _) hsz⟩
         case measure=>simp [intOf];omega
    ·obtain rfl:j=m:=by omega
     have HU:=Lib.hid (show upTo L j=1114112 by rw [hlen.out,upTo_end])
     go_wp2
     go_ret
     refine ⟨out,⟨HSET.out.1,fun p=>?_⟩,by rw [← own_rngs_len hout];have:=HLEN2.out;omega,ownRngs_of rfl hout hB⟩
     rw [HSET.out.2 p,HU.out]
     constructor
     ·rintro ⟨a1,a2,a3⟩;exact ⟨a1,by omega,a3⟩
     ·rintro ⟨a1,a2,a3⟩;exact ⟨a1,by omega,a3⟩
end Go.Proofs.YtbiahhojnjchnaaGreat
