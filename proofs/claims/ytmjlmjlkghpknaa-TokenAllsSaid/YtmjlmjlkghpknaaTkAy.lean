/- TokenAlls: walked. -/
import Derived.Test.YtmjlmjlkghpknaaTkLc
import Derived.Test.YtmjlmjlkghpknaaTkAX
import Derived.Test.YtmjlmjlkghpknaaTkLd
import Derived.Test.YtmjlmjlkghpknaaTkZ
import Derived.Deep.QuietTactic
import Derived.BigQuiet
set_option linter.unusedVariables false
set_option linter.unusedSimpArgs false
namespace Go.Proofs.Ytmjlmjlkghpknaa
open Go.RowKit
theorem at_err {d at_:Int} {l:List Int} {x:Int} {A:Option Addr} {n c:Nat} {w:World} (h:Pts w.heap.size n c A l w) (hd1:1≤d) (hd3:d≤3) (hok:∀ q,-1≤ptAt l q∧ptAt l q≤1114111) (h0:0≤at_) (h1:at_ < n) (hE:tokenP d l at_=.error x) :
  Calls Try.prog 10 #[.int .i64 d,.slice A n c,.int .i64 at_] w fun e w'=>e=.returned (.tuple #[.agg #[.int .i64 0,.int .i64 0,.string ⟨#[]⟩,.bool false,.int .i64 0,.int .i64 0,.int .i64 0,.int .i64 0],.int .i64 0,.int .i64 x])∧Below w.heap.size w w':=by
 have:=tokenAt10 d at_ l A n c w h hd1 hd3 hok h0 h1
 rw [hE] at this
 exact this
theorem at_ok {d at_:Int} {l:List Int} {t:Tk} {nx:Int} {A:Option Addr} {n c:Nat} {w:World} (h:Pts w.heap.size n c A l w) (hd1:1≤d) (hd3:d≤3) (hok:∀ q,-1≤ptAt l q∧ptAt l q≤1114111) (h0:0≤at_) (h1:at_ < n) (hE:tokenP d l at_=.ok (t,nx)) :
  Calls Try.prog 10 #[.int .i64 d,.slice A n c,.int .i64 at_] w fun e w'=>e=.returned (.tuple #[.agg #[.int .i64 t.kind,.int .i64 t.num,.string ⟨t.text.toArray⟩,.bool t.not_,.int .i64 t.least,.int .i64 t.most,.int .i64 t.way,.int .i64 t.fold],.int .i64 nx,.int .i64 0])∧Below w.heap.size w w':=by
 have:=tokenAt10 d at_ l A n c w h hd1 hd3 hok h0 h1
 rw [hE] at this
 exact this
theorem pre_get {acc:List (Tk × Int)} {q:Tk × Int} {r:Except (Int × Int) (List (Tk × Int))} {rs:List (Tk × Int)} (h:.ok rs=pre (acc ++ [q]) r):∃ hk:acc.length < rs.length,rs[acc.length]=q:=by
 cases r with
 | error x=>cases h
 | ok s =>
  injection h with h
  subst h
  exact ⟨by simp,by simp⟩
theorem froms_err {d:Int} {l:List Int}:∀ (k:Nat) (p:Int) (x:Int × Int),toksFrom d l k p=.error x→x.1≠0:=by
 intro k
 induction k with
 | zero=>intro p x h;cases h
 | succ k ih =>
  intro p x h
  unfold toksFrom at h
  split at h
  ·cases hE:tokenP d l p with
   | error e=>rw [hE] at h;cases h;exact token_er d l p e hE
   | ok q =>
    rw [hE] at h
    simp only at h
    cases hK:toksFrom d l k q.2 with
    | error y=>rw [hK] at h;cases h;exact ih _ _ hK
    | ok s=>rw [hK] at h;cases h
  ·cases h
theorem all_err {d:Int} {l:List Int} {x:Int × Int} (h:allR d l=.error x):x.1≠0:=by
 unfold allR at h
 split at h
 ·rename_i h0;cases h;exact h0
 ·exact froms_err _ _ _ h
set_option maxRecDepth 100000 in
set_option maxHeartbeats 8000000 in
theorem lawTokenAlls (d:Int) (l:List Int) (A:Option Addr) (n c:Nat) (w:World) (hnc:n≤c) (hc:c≤maxLen) (ha:Rds w w.heap.size 1 A n (ints l)) :
  Calls Try.prog 6 #[.int .i64 d,.slice A n c] w fun e w'=>e=.returned (.bool true)∧Below w.heap.size w w':=by
 have hnm:n≤maxLen:=Nat.le_trans hnc hc
 have HLN:=Lib.hid ha.ints_len
 have HROW:=Lib.hid (fun w' (hb:Below w.heap.size w w')=>(ha.below hb (Nat.le_refl _)).more hb.size)
 have C13:=Lib.hid (all13 d l A n c w hnm hnc ha)
 have C9:=Lib.hid (fun w' (hb:Below w.heap.size w w')=>right9 d l A n c w.heap.size w' hnm (ha.below hb (Nat.le_refl _)))
 obtain ⟨ee,he⟩:∃ e,e=rightE d l:=⟨_,rfl⟩
 have HE:=Lib.hid he
 rw [← he] at C9
 obtain ⟨r,hr⟩:∃ r,r=allR d l:=⟨_,rfl⟩
 have HR:=Lib.hid hr
 rw [← hr] at C13
 clear he ha hr
 by_cases h0:ee=0
 ·have HRT:=Lib.hid (rightE_ok (d:=d) (l:=l) (by rw [← HE.out];exact h0))
  have hn3:n≤300:=by rw [← HLN.out];exact HRT.out.1
  obtain ⟨hd1,hd3⟩:=HRT.out.2.2
  have HOK:=Lib.hid (pts_ok HRT.out.2.1)
  have HRR:=Lib.hid (show r=toksFrom d l (n+1) 0 by rw [HR.out,allR,← HE.out,if_neg (by omega),HLN.out])
  subst h0
  cases r with
  | error x0 =>
   have hx0:x0.1≠0:=all_err HR.out.symm
   go_enter Try.func6,Try.ntmps6
   go_wp2_with (first
    | (go_at_call 13;(with_reducible refine C13.out.mono ?_);rintro e w1 ⟨hE,hb⟩;obtain rfl:=(show e=.returned (.tuple #[.slice none 0 0,.slice none 0 0,.agg #[.int .i64 (x0.1),.int .i64 (x0.2)]]) from hE);clear hE;have hz1:=hb.size;have HB2:=Lib.hid (show Below w.heap.size w (w1.alloc (.cells #[.int .i64 (x0.1),.int .i64 (x0.2)] 36)) from hb.alloc hz1 _);have HF1:=Lib.hid (heap_alloc_new w1 (.cells #[.int .i64 (x0.1),.int .i64 (x0.2)] 36));clear hb)
    | (go_at_call 9;(with_reducible refine (C9.out _ HB2.out).mono ?_);rintro e w' ⟨rfl,rfl⟩)
    | (go_at_call 11;refine (tokenBegun11 _).mono ?_;rintro e w2 ⟨rfl,hb⟩;have HF2:=Lib.hid (row_next HF1.out hb);have HB3:=Lib.hid (HB2.out.trans (hb.mono HB2.out.size));clear hb;have z0:w2.cell? ⟨w1.heap.size,0,none⟩=some (.int .i64 (x0.1)):=cell_of_row _ _ 0 _ _ _ HF2.out;have z1:w2.cell? ⟨w1.heap.size,0+1,none⟩=some (.int .i64 (x0.2)):=cell_of_row _ _ (0+1) _ _ _ HF2.out;have hfl:=lt_heap HF2.out))
   clear z0 z1 hfl
   go_loopw [9,10] (fun i9 i10 wr=>∃ (p:Int) (acc:List (Tk × Int)) (k:Nat),i9=.int .i64 acc.length∧i10=.int .i64 p∧0≤p∧p≤n∧(acc.length:Int)≤p∧(n - p).toNat < k∧Hid ((.error x0:Except (Int × Int) (List (Tk × Int)))=pre acc (toksFrom d l k p))∧Below w2.heap.size w2 wr) (fun _ i _=>n - (intOf i).toNat)
   case atStart=>exact ⟨0,[],n+1,by simp,rfl,Int.le_refl _,by omega,by simp,by omega,Lib.hid (by rw [pre_nil];exact HRR.out),Below.refl _ _⟩
   case round =>
    obtain ⟨p,acc,k,rfl,rfl,hp0,hpn,hacc,hk,hR,hB⟩:=hrel
    have HB:=Lib.hid hB
    have HF3:=Lib.hid (row_next HF2.out hB)
    have HBW:=Lib.hid (HB3.out.trans (hB.mono HB3.out.size))
    have hsz:=hB.size
    clear hB
    by_cases hlt:p < n
    ·have HPW:=Lib.hid (show Pts wr.heap.size n c A l wr from ⟨HROW.out wr HBW.out,by omega⟩)
     obtain ⟨k',rfl⟩:∃ k',k=k'+1:=⟨k - 1,by omega⟩
     cases hE:tokenP d l p with
     | error x =>
      have HN:=hR.out.trans (toks_bad (by rw [HLN.out];exact hlt) hE k' acc)
      have hx0:=token_er d l p x hE
      have C:=Lib.hid (at_err (A:=A) (c:=c) (w:=wr) HPW.out hd1 hd3 HOK.out hp0 hlt hE)
      injection HN with HN
      subst HN
      have hx1:(x != 0)=true:=by simpa using hx0
      clear hE hR hx0
      go_wp2_with (first
       | (go_at_call 10;(with_reducible refine C.out.mono ?_);rintro e w4 ⟨rfl,hb⟩;have HF4:=Lib.hid (row_next HF3.out hb);have hs4:=hb.size;have HB4:=Lib.hid (HB.out.trans (hb.mono hsz));have z0:w4.cell? ⟨w1.heap.size,0,none⟩=some (.int .i64 (x)):=cell_of_row _ _ 0 _ _ _ HF4.out;have z1:w4.cell? ⟨w1.heap.size,0+1,none⟩=some (.int .i64 (p)):=cell_of_row _ _ (0+1) _ _ _ HF4.out;have hfl:=lt_heap HF4.out;clear hb))
      go_ret
      exact ⟨rfl,HB3.out.trans (Below.mono (HB4.out.alloc (by omega) _) HB3.out.size)⟩
     | ok q =>
      obtain ⟨t,nx⟩:=q
      have HN:=Lib.hid (hR.out.trans (toks_ok (by rw [HLN.out];exact hlt) hE k' acc))
      have C:=Lib.hid (at_ok (A:=A) (c:=c) (w:=wr) HPW.out hd1 hd3 HOK.out hp0 hlt hE)
      obtain ⟨hm1,hm2⟩:=token_mv d l p (by rw [HLN.out];exact hlt) t nx hE
      rw [HLN.out] at hm2
      clear hE hR
      have hx1:(x0.1 == 0)=false:=by simpa using hx0
      go_upto_region 11 with (first
       | (go_at_call 10;(with_reducible refine C.out.mono ?_);rintro e w4 ⟨rfl,hb⟩;have HF4:=Lib.hid (row_next HF3.out hb);have hs4:=hb.size;have HB4:=Lib.hid (HB.out.trans (hb.mono hsz));have z0:w4.cell? ⟨w1.heap.size,0,none⟩=some (.int .i64 (x0.1)):=cell_of_row _ _ 0 _ _ _ HF4.out;have z1:w4.cell? ⟨w1.heap.size,0+1,none⟩=some (.int .i64 (x0.2)):=cell_of_row _ _ (0+1) _ _ _ HF4.out;have hfl:=lt_heap HF4.out;clear hb))
      go_quiet (fail)
      go_wp2_with fail
      go_roundw
      case rel=>exact ⟨nx,acc ++ [(t,p)],k',by rw [List.length_append];go_num,rfl,by omega,hm2,by simp;omega,by omega,HN,below_drewN (HB4.out.alloc (by omega) _) _⟩
      case measure=>simp [intOf];omega
    ·have HX:=hR.out.trans (toks_end (by rw [HLN.out];exact hlt) k acc)
     cases HX
  | ok rs =>
   go_enter Try.func6,Try.ntmps6
   go_wp2_with (first
    | (go_at_call 13;(with_reducible refine C13.out.mono ?_);rintro e w1 ⟨hE,hb⟩;obtain ⟨A8,c8,A9,c9,rfl,hA,hP⟩:=hE;have HA8:=Lib.hid (Rds.of_own hA);have HP9:=Lib.hid (Rds.of_own hP);have hm8:rs.length≤maxLen:=(by obtain ⟨_,_,_,h1,h2⟩:=own_slice hA;exact Nat.le_trans h1 h2);unfold maxLen at hm8;clear hA hP;have hz1:=hb.size;have HB2:=Lib.hid (show Below w.heap.size w (w1.alloc (.cells #[.int .i64 (0),.int .i64 (0)] 36)) from hb.alloc hz1 _);have HF1:=Lib.hid (heap_alloc_new w1 (.cells #[.int .i64 (0),.int .i64 (0)] 36));clear hb)
    | (go_at_call 9;(with_reducible refine (C9.out _ HB2.out).mono ?_);rintro e w' ⟨rfl,rfl⟩)
    | (go_at_call 11;refine (tokenBegun11 _).mono ?_;rintro e w2 ⟨rfl,hb⟩;have HF2:=Lib.hid (row_next HF1.out hb);have HW2:=Lib.hid hb;have HS2:=Lib.hid (show w1.heap.size≤w2.heap.size from Nat.le_trans (by simp) hb.size);have HB3:=Lib.hid (HB2.out.trans (hb.mono HB2.out.size));clear hb;have z0:w2.cell? ⟨w1.heap.size,0,none⟩=some (.int .i64 (0)):=cell_of_row _ _ 0 _ _ _ HF2.out;have z1:w2.cell? ⟨w1.heap.size,0+1,none⟩=some (.int .i64 (0)):=cell_of_row _ _ (0+1) _ _ _ HF2.out;have hfl:=lt_heap HF2.out))
   clear z0 z1 hfl
   go_loopw [9,10] (fun i9 i10 wr=>∃ (p:Int) (acc:List (Tk × Int)) (k:Nat),i9=.int .i64 acc.length∧i10=.int .i64 p∧0≤p∧p≤n∧(acc.length:Int)≤p∧(n - p).toNat < k∧Hid ((.ok rs:Except (Int × Int) (List (Tk × Int)))=pre acc (toksFrom d l k p))∧Below w2.heap.size w2 wr) (fun _ i _=>n - (intOf i).toNat)
   case atStart=>exact ⟨0,[],n+1,by simp,rfl,Int.le_refl _,by omega,by simp,by omega,Lib.hid (by rw [pre_nil];exact HRR.out),Below.refl _ _⟩
   case round =>
    obtain ⟨p,acc,k,rfl,rfl,hp0,hpn,hacc,hk,hR,hB⟩:=hrel
    have HB:=Lib.hid hB
    have HF3:=Lib.hid (row_next HF2.out hB)
    have HBW:=Lib.hid (HB3.out.trans (hB.mono HB3.out.size))
    have hsz:=hB.size
    clear hB
    by_cases hlt:p < n
    ·have HPW:=Lib.hid (show Pts wr.heap.size n c A l wr from ⟨HROW.out wr HBW.out,by omega⟩)
     obtain ⟨k',rfl⟩:∃ k',k=k'+1:=⟨k - 1,by omega⟩
     cases hE:tokenP d l p with
     | error x =>
      have HN:=hR.out.trans (toks_bad (by rw [HLN.out];exact hlt) hE k' acc)
      cases HN
     | ok q =>
      obtain ⟨t,nx⟩:=q
      have HN:=Lib.hid (hR.out.trans (toks_ok (by rw [HLN.out];exact hlt) hE k' acc))
      have C:=Lib.hid (at_ok (A:=A) (c:=c) (w:=wr) HPW.out hd1 hd3 HOK.out hp0 hlt hE)
      obtain ⟨hm1,hm2⟩:=token_mv d l p (by rw [HLN.out];exact hlt) t nx hE
      rw [HLN.out] at hm2
      clear hE hR
      obtain ⟨hkl,hkq⟩:=pre_get HN.out
      have HW4:=Lib.hid (fun (w4:World) (hb:Below wr.heap.size wr w4)=>(show Below w1.heap.size w1 w4 from ((Below.refl _ _).alloc (Nat.le_refl _) _).trans ((HW2.out.mono (by simp)).trans ((HB.out.mono HS2.out).trans (hb.mono (by have:=HS2.out;omega))))))
      go_upto_region 11 with (first
       | (go_at_call 10;(with_reducible refine C.out.mono ?_);rintro e w4 ⟨rfl,hb⟩;have HF4:=Lib.hid (row_next HF3.out hb);have hs4:=hb.size;have HB4:=Lib.hid (HB.out.trans (hb.mono hsz));have z0:w4.cell? ⟨w1.heap.size,0,none⟩=some (.int .i64 (0)):=cell_of_row _ _ 0 _ _ _ HF4.out;have z1:w4.cell? ⟨w1.heap.size,0+1,none⟩=some (.int .i64 (0)):=cell_of_row _ _ (0+1) _ _ _ HF4.out;have hfl:=lt_heap HF4.out;have hw14:=HW4.out w4 hb;obtain ⟨b8,o8,rfl,hb8,k1,k2,k3,k4,k5,k6,k7,k8⟩:=(HA8.out.below hw14 (Nat.le_refl _)).tok_at hkl (by simp);obtain ⟨b9,o9,ho9,rfl,hb9,q1⟩:=(HP9.out.below hw14 (Nat.le_refl _)).int_at hkl;have hs14:=hw14.size;have hbl8:b8 < w4.heap.size:=(by omega);have hbl9:b9 < w4.heap.size:=(by omega);simp only [List.getElem_map,hkq] at k1 k2 k3 k4 k5 k6 k7 k8 q1;clear hw14;clear hb))
      have hkn:¬ ((rs.length:Int)≤(acc.length:Int)):=by omega
      have hk0:(0:Int)≤(acc.length:Int):=by omega
      have hk1:(acc.length:Int) < (rs.length:Int):=by omega
      clear hlt
      go_quiet (fail)
      go_wp2_with fail
      go_roundw
      case rel=>exact ⟨nx,acc ++ [(t,p)],k',by rw [List.length_append];go_num,rfl,by omega,hm2,by simp;omega,by omega,HN,below_drewN (HB4.out.alloc (by omega) _) _⟩
      case measure=>simp [intOf];omega
    ·have HX:=hR.out.trans (toks_end (by rw [HLN.out];exact hlt) k acc)
     injection HX with HX
     subst HX
     clear hR
     have z0:wr.cell? ⟨w1.heap.size,0,none⟩=some (.int .i64 0):=cell_of_row _ _ 0 _ _ _ HF3.out
     have hfl:=lt_heap HF3.out
     go_wp2_with fail
     go_ret
     exact ⟨rfl,HBW.out⟩
 ·have hEr:r=.error (ee,0):=by rw [HR.out,allR,← HE.out,if_pos h0]
  subst hEr
  have hz:(ee == 0)=false:=by simpa using h0
  have hz2:(ee != 0)=true:=by simpa using h0
  clear h0
  go_enter Try.func6,Try.ntmps6
  go_wp2_with (first
   | (go_at_call 13;(with_reducible refine C13.out.mono ?_);rintro e w1 ⟨hE,hb⟩;obtain rfl:=(show e=.returned (.tuple #[.slice none 0 0,.slice none 0 0,.agg #[.int .i64 (ee),.int .i64 (0)]]) from hE);clear hE;have hz1:=hb.size;have HB2:=Lib.hid (show Below w.heap.size w (w1.alloc (.cells #[.int .i64 (ee),.int .i64 (0)] 36)) from hb.alloc hz1 _);have HF1:=Lib.hid (heap_alloc_new w1 (.cells #[.int .i64 (ee),.int .i64 (0)] 36));clear hb)
   | (go_at_call 9;(with_reducible refine (C9.out _ HB2.out).mono ?_);rintro e w' ⟨rfl,rfl⟩)
   | (go_at_call 11;refine (tokenBegun11 _).mono ?_;rintro e w2 ⟨rfl,hb⟩;have HF2:=Lib.hid (row_next HF1.out hb);have HB3:=Lib.hid (HB2.out.trans (hb.mono HB2.out.size));clear hb;have z0:w2.cell? ⟨w1.heap.size,0,none⟩=some (.int .i64 (ee)):=cell_of_row _ _ 0 _ _ _ HF2.out;have z1:w2.cell? ⟨w1.heap.size,0+1,none⟩=some (.int .i64 (0)):=cell_of_row _ _ (0+1) _ _ _ HF2.out;have hfl:=lt_heap HF2.out)
   | (go_at_call 11;refine (tokenBegun11 _).mono ?_;rintro e w3 ⟨rfl,hb⟩;clear z0 z1 hfl;have HF2:=Lib.hid (row_next HF2.out hb);have HB3:=Lib.hid (HB3.out.trans (hb.mono HB3.out.size));clear hb;have z0:w3.cell? ⟨w1.heap.size,0,none⟩=some (.int .i64 (ee)):=cell_of_row _ _ 0 _ _ _ HF2.out;have z1:w3.cell? ⟨w1.heap.size,0+1,none⟩=some (.int .i64 (0)):=cell_of_row _ _ (0+1) _ _ _ HF2.out;have hfl:=lt_heap HF2.out))
  go_ret
  exact ⟨rfl,HB3.out⟩
end Go.Proofs.Ytmjlmjlkghpknaa
