/-
  slices.BinarySearchFunc at ranges, RawHas, Has and Count of the program, walked. Has and Count of the program, walked.
-/
import Derived.Test.YtbiahhojnjchnaaGreatGC
import Derived.Test.YtbiahhojnjchnaaGreatSetF
import Derived.Test.YtbiahhojnjchnaaGreatGG
set_option linter.unusedVariables false
set_option linter.unusedSimpArgs false
namespace Go.Proofs.YtbiahhojnjchnaaGreat
open Go.RowKit
def cmpR (x y p:Int):Int:=if y < p then -1 else if p < x then 1 else 0
set_option maxHeartbeats 1000000 in
theorem cmp123 (x y p:Int) (w:World) :
  Calls Tryz.prog 75 #[.agg #[.int .i64 x,.int .i64 y],.int .i64 p] w fun e w'=>e=.returned (.int .i64 (cmpR x y p))∧Below w.heap.size w w':=by
 unfold cmpR
 by_cases h1:y < p
 ·rw [if_pos h1]
  go_enter Tryz.func75,Tryz.ntmps75
  go_wp2
  go_ret
  exact ⟨rfl,(Below.refl _ _).alloc (Nat.le_refl _) _⟩
 ·rw [if_neg h1]
  by_cases h2:p < x
  ·rw [if_pos h2]
   go_enter Tryz.func75,Tryz.ntmps75
   go_wp2
   go_ret
   exact ⟨rfl,(Below.refl _ _).alloc (Nat.le_refl _) _⟩
  ·rw [if_neg h2]
   go_enter Tryz.func75,Tryz.ntmps75
   go_wp2
   go_ret
   exact ⟨rfl,(Below.refl _ _).alloc (Nat.le_refl _) _⟩
theorem bs_found {a:List (Int × Int)} (h:Can a) (p:Int) (i:Nat) (hi:i < a.length) (hlo:∀ t (ht:t < a.length),t < i→(a[t]).2 < p) (hp:¬ (a[i]).2 < p):memB a p=decide ((a[i]).1≤p):=by
 have hw:=List.pairwise_iff_getElem.1 h.2
 rw [Bool.eq_iff_iff,memB_iff,decide_eq_true_eq]
 constructor
 ·rintro ⟨r,hr,h1,h2⟩
  obtain ⟨t,ht,rfl⟩:=List.mem_iff_getElem.1 hr
  rcases Nat.lt_trichotomy t i with k|k|k
  ·have:=hlo t ht k;omega
  ·subst k;exact h1
  ·have:=hw i t hi ht k;omega
 ·intro h1
  exact ⟨a[i],List.getElem_mem hi,h1,by omega⟩
theorem bs_none {a:List (Int × Int)} (p:Int) (hlo:∀ t (ht:t < a.length),(a[t]).2 < p):memB a p=false:=by
 rw [Bool.eq_false_iff]
 intro h
 obtain ⟨r,hr,h1,h2⟩:=(memB_iff a p).1 h
 obtain ⟨t,ht,rfl⟩:=List.mem_iff_getElem.1 hr
 have:=hlo t ht
 omega
/-- how far the search is -/
def BsAt (a:List (Int × Int)) (p:Int) (i j:Nat):Prop:=(∀ t (ht:t < a.length),t < i→(a[t]).2 < p)∧(∀ t (ht:t < a.length),j≤t→¬ (a[t]).2 < p)
theorem BsAt.up {a:List (Int × Int)} {p:Int} {i j h:Nat} (k:BsAt a p i j) (hc:Can a) (hh:h < a.length) (hp:(a[h]).2 < p):BsAt a p (h+1) j:=by
 have hw:=List.pairwise_iff_getElem.1 hc.2
 refine ⟨fun t ht hlt=>?_,k.2⟩
 rcases Nat.lt_or_ge t h with q|q
 ·have:=hw t h ht hh q
  have:=(okR_iff _).1 (hc.1 a[h] (List.getElem_mem hh))
  omega
 ·have:t=h:=by omega
  subst this;exact hp
theorem BsAt.down {a:List (Int × Int)} {p:Int} {i j h:Nat} (k:BsAt a p i j) (hc:Can a) (hh:h < a.length) (hp:¬ (a[h]).2 < p):BsAt a p i h:=by
 have hw:=List.pairwise_iff_getElem.1 hc.2
 refine ⟨k.1,fun t ht hle=>?_⟩
 rcases Nat.lt_or_ge h t with q|q
 ·have:=hw h t hh ht q
  have:=(okR_iff _).1 (hc.1 a[t] (List.getElem_mem ht))
  omega
 ·have:t=h:=by omega
  subst this;exact hp
set_option maxRecDepth 100000 in
set_option maxHeartbeats 1000000 in
theorem search122 (a:List (Int × Int)) (p:Int) (A:Option Addr) (n c:Nat) (w:World) (hn:n≤1000000) (hc:Can a) (ha:Rds w w.heap.size 2 A n (rngs a)) :
  Calls Tryz.prog 74 #[.slice A n c,.int .i64 p,.func (.func 75) #[] #[]] w fun e w'=>∃ i:Int,e=.returned (.tuple #[.int .i64 i,.bool (memB a p)])∧Below w.heap.size w w':=by
 have HA:=Lib.hid ha.rngs_len
 have HC:=Lib.hid hc
 clear hc
 go_enter Tryz.func74,Tryz.ntmps74
 go_wp2_with fail
 go_loopw [9,10] (fun i j wr=>∃ x y:Nat,x≤y∧y≤n∧i=.int .i64 x∧j=.int .i64 y∧BsAt a p x y∧Below w.heap.size w wr) (fun i j _=>(intOf j).toNat - (intOf i).toNat)
 case atStart=>exact ⟨0,n,Nat.zero_le _,Nat.le_refl _,rfl,rfl,⟨fun t _ h=>by omega,fun t ht h=>by rw [HA.out] at ht;omega⟩,Below.refl _ _⟩
 case round =>
  obtain ⟨x,y,hxy,hyn,rfl,rfl,hat,hB⟩:=hrel
  have HAT:=Lib.hid hat
  clear hat
  by_cases hlt:x < y
  ·obtain ⟨h,hh⟩:∃ h:Nat,h=(x+y) / 2:=⟨_,rfl⟩
   have hhi:((x:Int)+(y:Int)) / 2=(h:Int):=by omega
   have hxh:x≤h:=by omega
   have hhy:h < y:=by omega
   have hhn:h < n:=by omega
   clear hh
   have HH:=Lib.hid hhi
   clear hhi
   obtain ⟨b1,off1,hl1,hA,hb1,hc1,hd1⟩:=(ha.below hB (Nat.le_refl _)).rng_at hhn
   subst hA
   have HUP:=Lib.hid (fun hp=>HAT.out.up HC.out hl1 hp)
   have HDN:=Lib.hid (fun hp=>HAT.out.down HC.out hl1 hp)
   obtain ⟨r,hr⟩:∃ r,r=a[h]:=⟨_,rfl⟩
   rw [← hr] at hc1 hd1 HUP HDN
   clear hr
   obtain ⟨u,v⟩:=r
   simp only at hc1 hd1 HUP HDN
   have hsz:=hB.size
   have i1:(0:Int)≤(h:Int):=by omega
   have i2:(h:Int) < (n:Int):=by omega
   by_cases hp:v < p
   ·have HP:=Lib.hid hp
    have C:=Lib.hid (fun w=>(cmp123 u v p w))
    rw [show cmpR u v p=-1 from if_pos hp] at C
    clear hp
    go_upto_region 5 with (fail)
    rw [HH.out]
    go_wp2_with (go_at_call 75;refine (C.out _).mono ?_;rintro e w1 ⟨rfl,hb⟩)
    go_roundw
    case rel=>exact ⟨h+1,y,by omega,hyn,by go_num,rfl,HUP.out HP.out,hB.trans (hb.mono hsz)⟩
    case measure=>simp [intOf];omega
   ·have HP:=Lib.hid hp
    have C:=Lib.hid (fun w=>(cmp123 u v p w))
    obtain ⟨z,hz,hz0⟩:∃ z,cmpR u v p=z∧¬ z < 0:=⟨_,rfl,by unfold cmpR;rw [if_neg hp];split<;>omega⟩
    rw [hz] at C
    clear hp hz
    go_upto_region 5 with (fail)
    rw [HH.out]
    go_wp2_with (go_at_call 75;refine (C.out _).mono ?_;rintro e w1 ⟨rfl,hb⟩)
    go_roundw
    case rel=>exact ⟨x,h,hxh,by omega,rfl,rfl,HDN.out HP.out,hB.trans (hb.mono hsz)⟩
    case measure=>simp [intOf];omega
  ·obtain rfl:x=y:=by omega
   have hsz:=hB.size
   by_cases hx:x < n
   ·obtain ⟨b1,off1,hl1,hA,hb1,hc1,hd1⟩:=(ha.below hB (Nat.le_refl _)).rng_at hx
    subst hA
    have HF:=Lib.hid (bs_found HC.out p x hl1 HAT.out.1 (HAT.out.2 x hl1 (Nat.le_refl _)))
    have HP:=Lib.hid (HAT.out.2 x hl1 (Nat.le_refl _))
    obtain ⟨r,hr⟩:∃ r,r=a[x]:=⟨_,rfl⟩
    rw [← hr] at hc1 hd1 HF HP
    clear hr
    obtain ⟨u,v⟩:=r
    simp only at hc1 hd1 HF HP
    have i1:(0:Int)≤(x:Int):=by omega
    have i2:(x:Int) < (n:Int):=by omega
    have C:=Lib.hid (fun w=>(cmp123 u v p w))
    by_cases hq:p < u
    ·rw [show cmpR u v p=1 by unfold cmpR;rw [if_neg HP.out,if_pos hq]] at C
     rw [show decide (u≤p)=false by rw [decide_eq_false_iff_not];omega] at HF
     clear hq
     go_wp2_with (go_at_call 75;refine (C.out _).mono ?_;rintro e w1 ⟨rfl,hb⟩)
     go_ret2
     exact ⟨x,by rw [HF.out];rfl,hB.trans (hb.mono hsz)⟩
    ·rw [show cmpR u v p=0 by unfold cmpR;rw [if_neg HP.out,if_neg hq]] at C
     rw [show decide (u≤p)=true by rw [decide_eq_true_eq];omega] at HF
     clear hq
     go_wp2_with (go_at_call 75;refine (C.out _).mono ?_;rintro e w1 ⟨rfl,hb⟩)
     go_ret2
     exact ⟨x,by rw [HF.out];rfl,hB.trans (hb.mono hsz)⟩
   ·obtain rfl:x=n:=by omega
    have HF:=Lib.hid (bs_none (a:=a) p fun t ht=>HAT.out.1 t ht (by rw [HA.out] at ht;exact ht))
    go_wp2
    go_ret2
    exact ⟨x,by rw [HF.out];rfl,hB⟩
set_option maxHeartbeats 1000000 in
theorem rawHas89 (a:List (Int × Int)) (p:Int) (A:Option Addr) (n c:Nat) (w:World) (hn:n≤1000000) (hc:Can a) (ha:Rds w w.heap.size 2 A n (rngs a)) :
  Calls Tryz.prog 41 #[.slice A n c,.int .i64 p] w fun e w'=>e=.returned (.bool (memB a p))∧Below w.heap.size w w':=by
 have C:=Lib.hid (search122 a p A n c w hn hc ha)
 clear ha hc
 go_enter Tryz.func41,Tryz.ntmps41
 go_wp2_with fail
 refine C.out.mono ?_
 rintro e w1 ⟨i,rfl,hb⟩
 go_wp2
 go_ret
 exact ⟨rfl,hb⟩
end Go.Proofs.YtbiahhojnjchnaaGreat
namespace Go.Proofs.YtbiahhojnjchnaaGreat
open Go.RowKit
/-- what is wrong with a set that is asked for a point -/
def hasE (a:List (Int × Int)) (p:Int):Int:=if chk a=0 then (if (decide (0≤p) && decide (p≤1114111))=true then 0 else 3) else chk a
def hasB (a:List (Int × Int)) (p:Int):Bool:=decide (hasE a p=0) && memB a p
set_option maxHeartbeats 1000000 in
theorem has42 (a:List (Int × Int)) (p:Int) (A:Option Addr) (n c:Nat) (w:World) (hnc:n≤c) (hc:c≤maxLen) (ha:Rds w w.heap.size 2 A n (rngs a)) :
  Calls Tryz.prog 20 #[.slice A n c,.int .i64 p] w fun e w'=>e=.returned (.tuple #[.bool (hasB a p),.int .i64 (hasE a p)])∧Below w.heap.size w w':=by
 have HA:=Lib.hid ha.rngs_len
 have hb0:Below w.heap.size w (w.alloc (.cells #[.slice A n c] 23)):=by go_grown
 have C:=Lib.hid (check80 [a] [.slice A n c] _ 1 1 _ (by decide) ((Rds.new w 1 1 #[.slice A n c] 23 [.slice A n c] rfl rfl).more (by simp)) ((sls_one hnc hc ha).below hb0 (Nat.le_refl _) |>.more (by simp)))
 rw [chkL_one] at C
 by_cases h0:chk a=0
 ·obtain ⟨hk,hcan⟩:=(chk_ok a).1 h0
  have HC:=Lib.hid hcan
  rw [h0] at C
  rw [HA.out] at hk
  cases hp:(decide (0≤p) && decide (p≤1114111))
  ·have HE:=Lib.hid (show hasE a p=3 by unfold hasE;rw [if_pos h0,hp];rfl)
   have HB:=Lib.hid (show hasB a p=false by unfold hasB;rw [HE.out];rfl)
   have HP:=Lib.hid hp
   rw [HE.out,HB.out]
   clear hp h0 hcan
   go_enter Tryz.func20,Tryz.ntmps20
   go_wp2_with fail
   refine C.out.mono ?_
   rintro e w1 ⟨rfl,hb⟩
   go_wp2_with (go_at_call 40;refine (isPoint88 p false _ HP.out).mono ?_;rintro e w' ⟨rfl,rfl⟩)
   go_ret2
   exact ⟨rfl,hb0.trans (hb.mono (by simp))⟩
  ·have HE:=Lib.hid (show hasE a p=0 by unfold hasE;rw [if_pos h0,hp];rfl)
   have HB:=Lib.hid (show hasB a p=memB a p by unfold hasB;rw [HE.out];rfl)
   have HP:=Lib.hid hp
   rw [HE.out,HB.out]
   clear hp h0 hcan
   go_enter Tryz.func20,Tryz.ntmps20
   go_wp2_with fail
   refine C.out.mono ?_
   rintro e w1 ⟨rfl,hb⟩
   have hsz:=hb.size
   have R:=Lib.hid (((ha.below hb0 (Nat.le_refl _)).below hb (by simp)).more (B':=w1.heap.size) (by simp at hsz;omega))
   go_wp2_with (go_at_call 40;refine (isPoint88 p true _ HP.out).mono ?_;rintro e w' ⟨rfl,rfl⟩)
   refine (rawHas89 a p A n c _ (by omega) HC.out R.out).mono ?_
   rintro e w2 ⟨rfl,hb2⟩
   go_wp2
   go_ret2
   exact ⟨rfl,hb0.trans ((hb.trans (hb2.mono hsz)).mono (by simp))⟩
 ·have HE:=Lib.hid (show hasE a p=chk a by unfold hasE;rw [if_neg h0])
  have HB:=Lib.hid (show hasB a p=false by unfold hasB;rw [HE.out,decide_eq_false h0];rfl)
  rw [HE.out,HB.out]
  obtain ⟨E,hE⟩:∃ E,E=chk a:=⟨_,rfl⟩
  rw [← hE] at C h0 ⊢
  have hb:(E != 0)=true:=by rw [bne_iff_ne];exact h0
  clear hE h0
  go_enter Tryz.func20,Tryz.ntmps20
  go_wp2_with fail
  refine C.out.mono ?_
  rintro e w1 ⟨rfl,hb⟩
  go_wp2
  go_ret2
  exact ⟨rfl,hb0.trans (hb.mono (by simp))⟩
/-- how many points a set has, if it is one -/
def cntA (a:List (Int × Int)):Int:=if chk a=0 then countL a else 0
end Go.Proofs.YtbiahhojnjchnaaGreat
