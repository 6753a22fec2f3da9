/-
  BracketOf of the reference: walked.
-/
import Derived.Test.YtbiahhojnjchnaaGreatHO
set_option linter.unusedVariables false
set_option linter.unusedSimpArgs false
namespace Go.Proofs.YtbiahhojnjchnaaGreat
open Go.RowKit
set_option maxRecDepth 100000 in
set_option maxHeartbeats 4000000 in
theorem wrong33_no {b n c:Nat} {d at_ dp e x:Int} {fo:Bool} {A:Option Addr} {l:List Int} {w:World} (h:Rb b n c d fo A l at_ dp e x w) (he:e≠0) (f y:Int) :
  Calls Tryz.prog 33 #[.pointer (some ⟨b,0,none⟩),.int .i64 f,.int .i64 y] w fun e w'=>e=.returned (.tuple #[])∧w=w':=by
 obtain ⟨c0,c1,c2,c3,c4,c5,c6,f2,f4⟩:=h.cells
 have heb:(e == 0)=false:=beq_eq_false_iff_ne.2 he
 clear h he
 go_enter Tryz.func33,Tryz.ntmps33
 go_wp2
 go_end0
 exact ⟨rfl,rfl⟩
set_option maxRecDepth 100000 in
set_option maxHeartbeats 8000000 in
theorem bracketOf14 {d at_:Int} {fo:Bool} {A:Option Addr} {l:List Int} {n c:Nat} {w:World} (H:RefC d l) (hl:∀ x ∈ l,0≤x∧x≤1114111) (hn:n≤300) (h0:0≤at_) (h1:at_≤n) (ha:Rds w w.heap.size 1 A n (ints l)) :
  Calls Tryz.prog 14 #[.int .i64 d,.slice A n c,.int .i64 at_,.bool fo] w fun e w'=>∃ A' n' c' v x y,e=.returned (.tuple #[.slice A' n' c',.int .i64 v,.agg #[.int .i64 x,.int .i64 y]])∧Hid (Tell (allP d l fo at_) A' n' v x y w')∧Below w.heap.size w w':=by
 obtain ⟨W,hW⟩:∃ X,X=(w.alloc (.cells #[.int .i64 0,.int .i64 0] 26)).alloc (.cells #[.int .i64 d,.slice A n c,.int .i64 at_,.bool fo,.int .i64 0,.int .i64 0,.int .i64 0] 63):=⟨_,rfl⟩
 have hB:Below w.heap.size w W:=by rw [hW];exact ((Below.refl _ _).alloc (Nat.le_refl _) _).alloc (by simp) _
 have hz:W.heap[w.heap.size]?=some (.cells #[.int .i64 0,.int .i64 0] 26 (0,0)):=by rw [hW];exact hz_alloc (heap_alloc_new w _)
 have hp:W.heap[w.heap.size+1]?=some (.cells #[.int .i64 d,.slice A n c,.int .i64 at_,.bool fo,.int .i64 0,.int .i64 0,.int .i64 0] 63 (0,0)):=by
  rw [hW];have:=heap_alloc_new (w.alloc (.cells #[.int .i64 0,.int .i64 0] 26)) (.cells #[.int .i64 d,.slice A n c,.int .i64 at_,.bool fo,.int .i64 0,.int .i64 0,.int .i64 0] 63);simpa using this
 have hS:Rs (w.heap.size+1) n c d fo 0 A l at_ W:=⟨⟨hp,⟨(ha.below hB (Nat.le_refl _)).more (by omega),by omega⟩,hn⟩,h0,h1⟩
 have HB:=Lib.hid hB
 have HZ:=Lib.hid hz
 have CA:=Lib.hid (rallP_any H hl at_ W hS)
 have HER:=Lib.hid (fun q h=>nz_all (d:=d) (l:=l) fo h0 q h)
 obtain ⟨R,hR⟩:∃ R,R=allP d l fo at_:=⟨_,rfl⟩
 rw [← hR] at CA HER ⊢
 clear hB hz hp hS ha hR H hl
 go_enter Tryz.func14,Tryz.ntmps14
 go_upto_region 2 with (fail)
 rw [← hW]
 clear hW
 cases R with
 | error q =>
  have HQ:=HER.out q rfl
  have hqb:(q.1 != 0)=true:=by simp [HQ]
  go_upto_region 3 with (go_at_call 32;(with_reducible refine CA.out.mono ?_);rintro e w4 ⟨hk,A',n',c',rfl,hf⟩)
  have HB4:=Lib.hid (hk.below HB.out (Nat.le_succ _) HB.out.size)
  have HZ4:=Lib.hid ((hk.block w.heap.size (lt_heap HZ.out) (by omega)).trans HZ.out)
  obtain ⟨a',p',hrb⟩:=hf
  obtain ⟨c0,c1,c2,c3,c4,c5,c6,f2,f4⟩:=hrb.cells
  have CW:=Lib.hid (wrong33_no hrb HQ 2 0)
  have z0:=cell_of_row _ _ 0 _ _ _ HZ4.out
  have z1:=cell_of_row _ _ 1 _ _ _ HZ4.out
  have g0:=frozen_row (o:=0) HZ4.out
  have g1:=frozen_row (o:=1) HZ4.out
  clear hk hrb CA HQ
  by_cases hbig:(400:Int) < n'
  ·have e1:decide ((n':Int) > 400)=true:=decide_eq_true hbig
   go_upto_region 6 with (go_at_call 33;(with_reducible refine CW.out.mono ?_);rintro e w' ⟨rfl,rfl⟩)
   go_region
   go_wp2_with fail
   have hV:(((w4.setCell ⟨w.heap.size,0,none⟩ (.int .i64 q.1)).setCell ⟨w.heap.size,1,none⟩ (.int .i64 q.2)).drew).heap[w.heap.size]?=some (.cells #[.int .i64 q.1,.int .i64 q.2] 26 (0,0)):=put1 (put1 HZ4.out rfl) rfl
   have HBV:=Lib.hid (((HB4.out.setCell (p:=⟨w.heap.size,0,none⟩) (Nat.le_refl _) (.int .i64 q.1)).setCell (p:=⟨w.heap.size,1,none⟩) (Nat.le_refl _) (.int .i64 q.2)).drew)
   obtain ⟨V,hVV⟩:∃ X,X=((w4.setCell ⟨w.heap.size,0,none⟩ (.int .i64 q.1)).setCell ⟨w.heap.size,1,none⟩ (.int .i64 q.2)).drew:=⟨_,rfl⟩
   rw [← hVV] at hV HBV ⊢
   clear hVV c0 c1 c2 c3 c4 c5 c6 f2 f4 z0 z1 g0 g1
   have f0:=cell_of_row _ _ 0 _ _ _ hV
   have f1:=cell_of_row _ _ 1 _ _ _ hV
   simp at f0 f1
   refine bodyPost_ret (v:=.tuple #[.slice none 0 0,.int .i64 0,.agg #[.int .i64 q.1,.int .i64 q.2]]) ?_ rfl ?_
   ·simp [results,Tryz.results14,go_sem,f0,f1]
   ·exact ⟨none,0,0,0,q.1,q.2,rfl,Lib.hid ⟨rfl,rfl,rfl,rfl,rfl⟩,HBV.out⟩
  ·have e1:decide ((n':Int) > 400)=false:=decide_eq_false hbig
   go_upto_region 6 with (fail)
   go_region
   go_wp2_with fail
   have hV:(((w4.setCell ⟨w.heap.size,0,none⟩ (.int .i64 q.1)).setCell ⟨w.heap.size,1,none⟩ (.int .i64 q.2)).drew).heap[w.heap.size]?=some (.cells #[.int .i64 q.1,.int .i64 q.2] 26 (0,0)):=put1 (put1 HZ4.out rfl) rfl
   have HBV:=Lib.hid (((HB4.out.setCell (p:=⟨w.heap.size,0,none⟩) (Nat.le_refl _) (.int .i64 q.1)).setCell (p:=⟨w.heap.size,1,none⟩) (Nat.le_refl _) (.int .i64 q.2)).drew)
   obtain ⟨V,hVV⟩:∃ X,X=((w4.setCell ⟨w.heap.size,0,none⟩ (.int .i64 q.1)).setCell ⟨w.heap.size,1,none⟩ (.int .i64 q.2)).drew:=⟨_,rfl⟩
   rw [← hVV] at hV HBV ⊢
   clear hVV c0 c1 c2 c3 c4 c5 c6 f2 f4 z0 z1 g0 g1
   have f0:=cell_of_row _ _ 0 _ _ _ hV
   have f1:=cell_of_row _ _ 1 _ _ _ hV
   simp at f0 f1
   refine bodyPost_ret (v:=.tuple #[.slice none 0 0,.int .i64 0,.agg #[.int .i64 q.1,.int .i64 q.2]]) ?_ rfl ?_
   ·simp [results,Tryz.results14,go_sem,f0,f1]
   ·exact ⟨none,0,0,0,q.1,q.2,rfl,Lib.hid ⟨rfl,rfl,rfl,rfl,rfl⟩,HBV.out⟩
 | ok r =>
  go_upto_region 3 with (go_at_call 32;(with_reducible refine CA.out.mono ?_);rintro e w4 ⟨hk,A',n',c',rfl,out,hset,hown,hS⟩)
  have HB4:=Lib.hid (hk.below HB.out (Nat.le_succ _) HB.out.size)
  have HZ4:=Lib.hid ((hk.block w.heap.size (lt_heap HZ.out) (by omega)).trans HZ.out)
  have HLN:=Lib.hid (own_rngs_len hown)
  have hcap:=own_slice_cap hown
  have HSET:=Lib.hid hset
  have HOWN:=Lib.hid hown
  have hWz:=lt_heap HZ.out
  have hlo:=hS.lo
  have hhi:=hS.hi
  have HS:=Lib.hid hS
  obtain ⟨c0,c1,c2,c3,c4,c5,c6,f2,f4⟩:=hS.rb.cells
  have CW:=Lib.hid (wrong33 hS.rb 2 0)
  have z0:=cell_of_row _ _ 0 _ _ _ HZ4.out
  have z1:=cell_of_row _ _ 1 _ _ _ HZ4.out
  have g0:=frozen_row (o:=0) HZ4.out
  have g1:=frozen_row (o:=1) HZ4.out
  obtain ⟨v,hv⟩:∃ v,v=r.2:=⟨_,rfl⟩
  rw [← hv] at c2 hlo hhi
  have HV:=Lib.hid hv
  clear hk CA hset hown hS hv HER
  by_cases hbig:(400:Int) < n'
  ·have e1:decide ((n':Int) > 400)=true:=decide_eq_true hbig
   go_upto_region 6 with (go_at_call 33;(with_reducible refine CW.out.mono ?_);rintro e w5 ⟨rfl,hk5,hr5⟩;clear c0 c1 c2 c3 c4 c5 c6 f2 f4 z0 z1 g0 g1;obtain ⟨c0,c1,c2,c3,c4,c5,c6,f2,f4⟩:=hr5.cells)
   have HB4:=Lib.hid (hk5.below HB4.out (Nat.le_succ _) HB4.out.size)
   have HZ4:=Lib.hid ((hk5.block w.heap.size (lt_heap HZ4.out) (by omega)).trans HZ4.out)
   obtain ⟨w4,h45⟩:∃ X,X=w5:=⟨_,rfl⟩
   subst h45
   have z0:=cell_of_row _ _ 0 _ _ _ HZ4.out
   have z1:=cell_of_row _ _ 1 _ _ _ HZ4.out
   have g0:=frozen_row (o:=0) HZ4.out
   have g1:=frozen_row (o:=1) HZ4.out
   clear hk5 hr5
   go_region
   go_wp2_with fail
   have hV:(((w4.setCell ⟨w.heap.size,0,none⟩ (.int .i64 2)).setCell ⟨w.heap.size,1,none⟩ (.int .i64 0)).drew).heap[w.heap.size]?=some (.cells #[.int .i64 2,.int .i64 0] 26 (0,0)):=put1 (put1 HZ4.out rfl) rfl
   have HBV:=Lib.hid (((HB4.out.setCell (p:=⟨w.heap.size,0,none⟩) (Nat.le_refl _) (.int .i64 2)).setCell (p:=⟨w.heap.size,1,none⟩) (Nat.le_refl _) (.int .i64 0)).drew)
   obtain ⟨V,hVV⟩:∃ X,X=((w4.setCell ⟨w.heap.size,0,none⟩ (.int .i64 2)).setCell ⟨w.heap.size,1,none⟩ (.int .i64 0)).drew:=⟨_,rfl⟩
   rw [← hVV] at hV HBV ⊢
   clear hVV c0 c1 c2 c3 c4 c5 c6 f2 f4 z0 z1 g0 g1
   have f0:=cell_of_row _ _ 0 _ _ _ hV
   have f1:=cell_of_row _ _ 1 _ _ _ hV
   simp at f0 f1
   refine bodyPost_ret (v:=.tuple #[.slice none 0 0,.int .i64 0,.agg #[.int .i64 2,.int .i64 0]]) ?_ rfl ?_
   ·simp [results,Tryz.results14,go_sem,f0,f1]
   ·exact ⟨none,0,0,0,2,0,rfl,Lib.hid ⟨out,HSET.out,by rw [← HV.out];omega,.inr ⟨by have:=HLN.out;omega,rfl,rfl,rfl,rfl,rfl⟩⟩,HBV.out⟩
  ·have e1:decide ((n':Int) > 400)=false:=decide_eq_false hbig
   go_upto_region 7 with (fail)
   go_region
   go_wp2_with fail
   have hV:(((w4.setCell ⟨w.heap.size,0,none⟩ (.int .i64 0)).setCell ⟨w.heap.size,1,none⟩ (.int .i64 0)).drew).heap[w.heap.size]?=some (.cells #[.int .i64 0,.int .i64 0] 26 (0,0)):=put1 (put1 HZ4.out rfl) rfl
   have HBV:=Lib.hid (((HB4.out.setCell (p:=⟨w.heap.size,0,none⟩) (Nat.le_refl _) (.int .i64 0)).setCell (p:=⟨w.heap.size,1,none⟩) (Nat.le_refl _) (.int .i64 0)).drew)
   have hO2:=own_below (own_keptb HOWN.out (((Kept.refl w.heap.size w4).set 0 (.int .i64 0)).set 1 (.int .i64 0)) hWz) (Below.drew (Below.refl _ _)) (Nat.le_refl _)
   have HO2:=Lib.hid (Rds.of_own hO2)
   clear hO2
   obtain ⟨V,hVV⟩:∃ X,X=((w4.setCell ⟨w.heap.size,0,none⟩ (.int .i64 0)).setCell ⟨w.heap.size,1,none⟩ (.int .i64 0)).drew:=⟨_,rfl⟩
   rw [← hVV] at hV HBV HO2 ⊢
   clear hVV c0 c1 c2 c3 c4 c5 c6 f2 f4 z0 z1 g0 g1
   have f0:=cell_of_row _ _ 0 _ _ _ hV
   have f1:=cell_of_row _ _ 1 _ _ _ hV
   simp at f0 f1
   refine bodyPost_ret (v:=.tuple #[.slice A' n' c',.int .i64 v,.agg #[.int .i64 0,.int .i64 0]]) ?_ rfl ?_
   ·simp [results,Tryz.results14,go_sem,f0,f1]
   ·exact ⟨A',n',c',v,0,0,rfl,Lib.hid ⟨out,HSET.out,by rw [← HV.out];omega,.inl ⟨by have:=HLN.out;omega,HV.out,rfl,rfl,HO2.out⟩⟩,HBV.out⟩
end Go.Proofs.YtbiahhojnjchnaaGreat
