/-
  A bracket expression within another one: walked, over the contract of the whole. A span of a bracket expression, over the contract of an item: walked.
-/
import Derived.Test.YtbiahhojnjchnaaGreatGU
set_option linter.unusedVariables false
set_option linter.unusedSimpArgs false
namespace Go.Proofs.YtbiahhojnjchnaaGreat
open Go.RowKit
def faultV (e at_:Int):List PanicEntry:=[{ v:=.iface 26 (.agg #[.int .i64 e,.int .i64 at_]),recovered:=false }]
theorem fail21 (x at_:Int) (w:World):Calls Tryz.prog 59 #[.int .i64 x,.int .i64 at_] w fun e w'=>e=.panicked (faultV x at_)∧w'=w:=by
 go_enter Tryz.func59,Tryz.ntmps59
 go_wp2
 exact ⟨rfl,rfl,rfl⟩
/-- what a reading of a set leaves: it panics with what is wrong, or hands back a set of its own and stands behind it -/
def BOut (b n c:Nat) (d:Int) (fo:Bool) (dp:Int) (A:Option Addr) (l:List Int) (K:Nat) (r:BR SP) (w:World) (e:Ending) (w':World):Prop :=
 Kept b w w'∧match r with
 | .error q=>e=.panicked (faultV q.1 q.2)
 | .ok q=>∃ out A' n' c',IsSet out q.1∧out.length≤K∧e=.returned (.slice A' n' c')∧w'.ownsRow w.heap.size 67 2 (.slice A' n' c') n' (rngs out)∧BSt b n c d fo dp A l q.2 w'
theorem BSt.deepen {b n c:Nat} {d dp at_:Int} {fo:Bool} {A:Option Addr} {l:List Int} {w:World} (h:BSt b n c d fo dp A l at_ w) (x:Int):BSt b n c d fo x A l at_ (w.setCell ⟨b,4,none⟩ (.int .i64 x)) :=
 ⟨put1 (i:=4) h.rd rfl,h.row.setCell (Nat.le_refl _) _,h.lo,h.hi,h.small,h.cap⟩
theorem BSt.deep {b n c:Nat} {d dp at_:Int} {fo:Bool} {A:Option Addr} {l:List Int} {w:World} (h:BSt b n c d fo dp A l at_ w):w.cell? ⟨b,4,none⟩=some (.int .i64 dp)∧w.frozen? ⟨b,4,none⟩=false :=
 ⟨by rw [cell_of_row _ _ _ _ 96 (0,0) h.rd];rfl,frozen_row h.rd⟩
set_option maxRecDepth 100000 in
set_option maxHeartbeats 4000000 in
theorem within_full {b n c:Nat} {d at_:Int} {fo:Bool} {A:Option Addr} {l:List Int} {w:World} (h:BSt b n c d fo 20 A l at_ w) :
  Calls Tryz.prog 185 #[.pointer (some ⟨b,0,none⟩)] w fun e w'=>e=.panicked (faultV 2 at_)∧Kept b w w':=by
 obtain ⟨c0,c1,c2,c3,f2⟩:=h.rd.cells
 obtain ⟨c4,f4⟩:=h.deep
 clear h
 go_enter Tryz.func185,Tryz.ntmps185
 go_wp2_with (go_at_call 59;(with_reducible refine (fail21 2 at_ _).mono ?_);rintro e w' ⟨rfl,rfl⟩)
 exact ⟨rfl,rfl,Kept.refl _ _⟩
set_option maxRecDepth 100000 in
set_option maxHeartbeats 4000000 in
theorem within50 {b n c K:Nat} {d dp at_:Int} {fo:Bool} {A:Option Addr} {l:List Int} {w:World} {r:BR SP} (h:BSt b n c d fo dp A l at_ w) (hdp:dp≠20) (h0:0≤dp) (h20:dp≤20) (hat:at_+1≤n)
  (C:∀ W,BSt b n c d fo (dp+1) A l (at_+1) W→Calls Tryz.prog 58 #[.pointer (some ⟨b,0,none⟩)] W (BOut b n c d fo (dp+1) A l K r W)) :
  Calls Tryz.prog 185 #[.pointer (some ⟨b,0,none⟩)] w (BOut b n c d fo dp A l K r w):=by
 obtain ⟨c0,c1,c2,c3,f2⟩:=h.rd.cells
 obtain ⟨c4,f4⟩:=h.deep
 have hlo:=h.lo
 have hsm:=h.small
 have hlt:=h.lt
 have e1:(dp == 20)=false:=beq_eq_false_iff_ne.2 hdp
 have W1:IntKind.i64.wrap (at_+1)=at_+1:=IntWalk.i64_in _ (by omega)
 have W2:IntKind.i64.wrap (dp+1)=dp+1:=IntWalk.i64_in _ (by omega)
 have W3:IntKind.i64.wrap (dp+1 - 1)=dp:=by rw [show dp+1 - 1=dp by omega];exact IntWalk.i64_in _ (by omega)
 have W4:IntKind.i64.wrap dp=dp:=IntWalk.i64_in _ (by omega)
 have HS1:=Lib.hid ((h.moved (at_+1) (by omega) hat).deepen (dp+1))
 have HK1:=Lib.hid (((Kept.refl b w).set 2 (.int .i64 (at_+1))).set 4 (.int .i64 (dp+1)))
 obtain ⟨W,hW⟩:∃ X,X=(w.setCell ⟨b,2,none⟩ (.int .i64 (at_+1))).setCell ⟨b,4,none⟩ (.int .i64 (dp+1)):=⟨_,rfl⟩
 rw [← hW] at HS1 HK1
 have C1:=Lib.hid (C W HS1.out)
 clear h C
 cases r with
 | error q =>
  go_enter Tryz.func185,Tryz.ntmps185
  go_upto_region 5 with (fail)
  rw [← hW]
  clear hW
  go_wp2_with (go_at_call 58;(with_reducible refine C1.out.mono ?_);rintro e w2 ⟨hk,he⟩;obtain rfl:=(show e=_ from he))
  exact ⟨rfl,HK1.out.trans hk,rfl⟩
 | ok q =>
  go_enter Tryz.func185,Tryz.ntmps185
  go_upto_region 5 with (fail)
  rw [← hW]
  clear hW
  go_upto_region 6 with (go_at_call 58;(with_reducible refine C1.out.mono ?_);rintro e w2 ⟨hk,out,A',n',c',hset,hln,rfl,hown,hS2⟩)
  have HS2:=Lib.hid hS2
  have HK2:=Lib.hid (HK1.out.trans hk)
  have HO2:=Lib.hid (own_mono hown HK1.out.size)
  have HSET:=Lib.hid hset
  clear c4 f4 c0 c1 c2 c3 f2
  obtain ⟨c4,f4⟩:=hS2.deep
  clear hS2 hk hown hset
  go_wp2_with fail
  go_ret
  exact ⟨HK2.out.set 4 _,out,A',n',c',HSET.out,hln,rfl,own_keptb HO2.out ((Kept.refl b w2).set 4 _) hlt,HS2.out.deepen dp⟩
end Go.Proofs.YtbiahhojnjchnaaGreat
namespace Go.Proofs.YtbiahhojnjchnaaGreat
open Go.RowKit
def IOut (b n c:Nat) (d:Int) (fo:Bool) (dp:Int) (A:Option Addr) (l:List Int) (K:Nat) (r:BR Itm) (w:World) (e:Ending) (w':World):Prop :=
 Kept b w w'∧match r with
 | .error q=>e=.panicked (faultV q.1 q.2)
 | .ok q=>∃ out A' n' c',IsSet out q.f∧out.length≤K∧e=.returned (.agg #[.slice A' n' c',.int .i64 q.pt])∧Rds w' w'.heap.size 2 A' n' (rngs out)∧BSt b n c d fo dp A l q.nx w'
/-- as BOut, but the row need not be the call's own -/
def SOut (b n c:Nat) (d:Int) (fo:Bool) (dp:Int) (A:Option Addr) (l:List Int) (K:Nat) (r:BR SP) (w:World) (e:Ending) (w':World):Prop :=
 Kept b w w'∧match r with
 | .error q=>e=.panicked (faultV q.1 q.2)
 | .ok q=>∃ out A' n' c',IsSet out q.1∧out.length≤K∧e=.returned (.slice A' n' c')∧Rds w' w'.heap.size 2 A' n' (rngs out)∧BSt b n c d fo dp A l q.2 w'
set_option maxRecDepth 100000 in
set_option maxHeartbeats 8000000 in
/-- an item alone -/
theorem span_item {b n c K:Nat} {d dp at_:Int} {fo:Bool} {A:Option Addr} {l:List Int} {w:World} {a:Itm} (hlt:b < w.heap.size)
  (C:Calls Tryz.prog 143 #[.pointer (some ⟨b,0,none⟩)] w (IOut b n c d fo dp A l K (.ok a) w)) (hc:saysB l a.nx [45]=false∨saysB l a.nx [45,93]=true∨a.pt < 0) :
  Calls Tryz.prog 117 #[.pointer (some ⟨b,0,none⟩)] w (SOut b n c d fo dp A l K (.ok (a.f,a.nx)) w):=by
 have C1:=Lib.hid C
 obtain ⟨f,pt,nx⟩:=a
 clear C
 simp only at hc
 have hc':saysB l nx [45]=false∨(saysB l nx [45]=true∧saysB l nx [45,93]=true)∨(saysB l nx [45]=true∧saysB l nx [45,93]=false∧pt < 0):=by
  cases h1:saysB l nx [45]
  ·exact .inl rfl
  ·cases h2:saysB l nx [45,93]
   ·rw [h1,h2] at hc;exact .inr (.inr ⟨rfl,rfl,by simpa using hc⟩)
   ·exact .inr (.inl ⟨rfl,rfl⟩)
 clear hc
 rcases hc' with h1|⟨h1,h2⟩|⟨h1,h2,hneg⟩
 ·have N1:=Lib.hid h1
  clear h1
  go_enter Tryz.func117,Tryz.ntmps117
  go_upto_region 2 with (first
   | (go_at_call 143;(with_reducible refine C1.out.mono ?_);rintro e w1 ⟨hk,out,A',n',c',hset,hln,rfl,hr,hS⟩))
  obtain ⟨W2,hW2⟩:∃ X,X=w1.alloc (.cells #[.slice A' n' c',.int .i64 pt] 167):=⟨_,rfl⟩
  have hb2:Below w1.heap.size w1 W2:=by rw [hW2];exact (Below.refl _ _).alloc (Nat.le_refl _) _
  have HS2:=Lib.hid (hS.next hb2)
  have HR2:=Lib.hid ((hr.below hb2 (Nat.le_refl _)).more (B':=W2.heap.size) hb2.size)
  have HK2:=Lib.hid (hk.trans (Kept.of hb2))
  have HC2:=Lib.hid (show W2.heap[w1.heap.size]?=some (.cells #[.slice A' n' c',.int .i64 pt] 167 (0,0)) by rw [hW2];exact heap_alloc_new w1 _)
  have HSET:=Lib.hid hset
  rw [← hW2]
  clear hW2 hS hr hk hb2 hset C1
  go_upto_region 3 with (first
   | (go_at_call 116;(with_reducible refine (BSt.is_ (cc:=1) (m:=1) (cs:=[45]) (HS2.out.next ((Below.refl _ _).alloc (Nat.le_refl _) _)) false N1.out (runes_new W2 [45] #[.int .i32 45] 1 rfl rfl) (by simp) (by decide)).mono ?_);rintro e w3 ⟨rfl,q4,hq4⟩;have hb4:Below W2.heap.size W2 w3:=(by rw [hq4];exact below_drewN ((Below.refl _ _).alloc (Nat.le_refl _) _) _);have HS3:=Lib.hid (HS2.out.next hb4);have HC3:=Lib.hid (row_next HC2.out hb4);have HR3:=Lib.hid ((HR2.out.below hb4 (Nat.le_refl _)).more hb4.size);have HK3:=Lib.hid (HK2.out.trans (Kept.of hb4));clear hq4 hb4))
  have c0:=cell_of_row _ _ 0 _ _ _ HC3.out
  go_wp2_with fail
  go_ret
  exact ⟨HK3.out,out,A',n',c',HSET.out,hln,rfl,HR3.out,HS3.out⟩
 ·have N1:=Lib.hid h1
  have N2:=Lib.hid h2
  clear h1 h2
  go_enter Tryz.func117,Tryz.ntmps117
  go_upto_region 2 with (first
   | (go_at_call 143;(with_reducible refine C1.out.mono ?_);rintro e w1 ⟨hk,out,A',n',c',hset,hln,rfl,hr,hS⟩))
  obtain ⟨W2,hW2⟩:∃ X,X=w1.alloc (.cells #[.slice A' n' c',.int .i64 pt] 167):=⟨_,rfl⟩
  have hb2:Below w1.heap.size w1 W2:=by rw [hW2];exact (Below.refl _ _).alloc (Nat.le_refl _) _
  have HS2:=Lib.hid (hS.next hb2)
  have HR2:=Lib.hid ((hr.below hb2 (Nat.le_refl _)).more (B':=W2.heap.size) hb2.size)
  have HK2:=Lib.hid (hk.trans (Kept.of hb2))
  have HC2:=Lib.hid (show W2.heap[w1.heap.size]?=some (.cells #[.slice A' n' c',.int .i64 pt] 167 (0,0)) by rw [hW2];exact heap_alloc_new w1 _)
  have HSET:=Lib.hid hset
  rw [← hW2]
  clear hW2 hS hr hk hb2 hset C1
  go_upto_region 3 with (first
   | (go_at_call 116;(with_reducible refine (BSt.is_ (cc:=1) (m:=1) (cs:=[45]) (HS2.out.next ((Below.refl _ _).alloc (Nat.le_refl _) _)) true N1.out (runes_new W2 [45] #[.int .i32 45] 1 rfl rfl) (by simp) (by decide)).mono ?_);rintro e w3 ⟨rfl,q4,hq4⟩;have hb4:Below W2.heap.size W2 w3:=(by rw [hq4];exact below_drewN ((Below.refl _ _).alloc (Nat.le_refl _) _) _);have HS3:=Lib.hid (HS2.out.next hb4);have HC3:=Lib.hid (row_next HC2.out hb4);have HR3:=Lib.hid ((HR2.out.below hb4 (Nat.le_refl _)).more hb4.size);have HK3:=Lib.hid (HK2.out.trans (Kept.of hb4));clear hq4 hb4)
   | (go_at_call 116;(with_reducible refine (BSt.is_ (cc:=2) (m:=2) (cs:=[45,93]) (HS3.out.next ((Below.refl _ _).alloc (Nat.le_refl _) _)) true N2.out (runes_new w3 [45,93] #[.int .i32 45,.int .i32 93] 2 rfl rfl) (by simp) (by decide)).mono ?_);rintro e w4 ⟨rfl,q4,hq4⟩;have hb4:Below w3.heap.size w3 w4:=(by rw [hq4];exact below_drewN ((Below.refl _ _).alloc (Nat.le_refl _) _) _);have HS4:=Lib.hid (HS3.out.next hb4);have HC4:=Lib.hid (row_next HC3.out hb4);have HR4:=Lib.hid ((HR3.out.below hb4 (Nat.le_refl _)).more hb4.size);have HK4:=Lib.hid (HK3.out.trans (Kept.of hb4));clear hq4 hb4;have c1:=cell_of_row _ _ 1 _ _ _ HC4.out))
  have c0:=cell_of_row _ _ 0 _ _ _ HC4.out
  go_wp2_with fail
  go_ret
  exact ⟨HK4.out,out,A',n',c',HSET.out,hln,rfl,HR4.out,HS4.out⟩
 ·have N1:=Lib.hid h1
  have N2:=Lib.hid h2
  have p0:(decide (pt < 0))=true:=decide_eq_true hneg
  clear h1 h2
  go_enter Tryz.func117,Tryz.ntmps117
  go_upto_region 2 with (first
   | (go_at_call 143;(with_reducible refine C1.out.mono ?_);rintro e w1 ⟨hk,out,A',n',c',hset,hln,rfl,hr,hS⟩))
  obtain ⟨W2,hW2⟩:∃ X,X=w1.alloc (.cells #[.slice A' n' c',.int .i64 pt] 167):=⟨_,rfl⟩
  have hb2:Below w1.heap.size w1 W2:=by rw [hW2];exact (Below.refl _ _).alloc (Nat.le_refl _) _
  have HS2:=Lib.hid (hS.next hb2)
  have HR2:=Lib.hid ((hr.below hb2 (Nat.le_refl _)).more (B':=W2.heap.size) hb2.size)
  have HK2:=Lib.hid (hk.trans (Kept.of hb2))
  have HC2:=Lib.hid (show W2.heap[w1.heap.size]?=some (.cells #[.slice A' n' c',.int .i64 pt] 167 (0,0)) by rw [hW2];exact heap_alloc_new w1 _)
  have HSET:=Lib.hid hset
  rw [← hW2]
  clear hW2 hS hr hk hb2 hset C1
  go_upto_region 3 with (first
   | (go_at_call 116;(with_reducible refine (BSt.is_ (cc:=1) (m:=1) (cs:=[45]) (HS2.out.next ((Below.refl _ _).alloc (Nat.le_refl _) _)) true N1.out (runes_new W2 [45] #[.int .i32 45] 1 rfl rfl) (by simp) (by decide)).mono ?_);rintro e w3 ⟨rfl,q4,hq4⟩;have hb4:Below W2.heap.size W2 w3:=(by rw [hq4];exact below_drewN ((Below.refl _ _).alloc (Nat.le_refl _) _) _);have HS3:=Lib.hid (HS2.out.next hb4);have HC3:=Lib.hid (row_next HC2.out hb4);have HR3:=Lib.hid ((HR2.out.below hb4 (Nat.le_refl _)).more hb4.size);have HK3:=Lib.hid (HK2.out.trans (Kept.of hb4));clear hq4 hb4)
   | (go_at_call 116;(with_reducible refine (BSt.is_ (cc:=2) (m:=2) (cs:=[45,93]) (HS3.out.next ((Below.refl _ _).alloc (Nat.le_refl _) _)) false N2.out (runes_new w3 [45,93] #[.int .i32 45,.int .i32 93] 2 rfl rfl) (by simp) (by decide)).mono ?_);rintro e w4 ⟨rfl,q4,hq4⟩;have hb4:Below w3.heap.size w3 w4:=(by rw [hq4];exact below_drewN ((Below.refl _ _).alloc (Nat.le_refl _) _) _);have HS4:=Lib.hid (HS3.out.next hb4);have HC4:=Lib.hid (row_next HC3.out hb4);have HR4:=Lib.hid ((HR3.out.below hb4 (Nat.le_refl _)).more hb4.size);have HK4:=Lib.hid (HK3.out.trans (Kept.of hb4));clear hq4 hb4;have c1:=cell_of_row _ _ 1 _ _ _ HC4.out))
  have c0:=cell_of_row _ _ 0 _ _ _ HC4.out
  go_wp2_with fail
  go_ret
  exact ⟨HK4.out,out,A',n',c',HSET.out,hln,rfl,HR4.out,HS4.out⟩
end Go.Proofs.YtbiahhojnjchnaaGreat
