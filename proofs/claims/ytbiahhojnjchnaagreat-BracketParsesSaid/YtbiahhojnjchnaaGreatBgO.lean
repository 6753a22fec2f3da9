/-
  The ways of an item of a bracket expression: a named class, another expression within, a token behind a backslash: walked. (Printed by genO.py.)
-/
import Derived.Test.YtbiahhojnjchnaaGreatGY
import Derived.Test.YtbiahhojnjchnaaGreatGX
import Derived.Test.YtbiahhojnjchnaaGreatGQ
set_option linter.unusedVariables false
set_option linter.unusedSimpArgs false
namespace Go.Proofs.YtbiahhojnjchnaaGreat
open Go.RowKit
theorem one_set {p:Int} (h0:0≤p) (h1:p≤1114111):IsSet [(p,p)] fun q=>q=p:=by
 refine ⟨⟨fun r hr=>?_,by simp⟩,fun q=>?_⟩
 ·rw [List.mem_singleton.1 hr];exact (okR_iff _).2 ⟨h0,Int.le_refl _,h1⟩
 ·rw [mem_cons]
  constructor
  ·rintro (h|h)
   ·simp only at h;omega
   ·exact absurd h (mem_nil q)
  ·rintro rfl;exact .inl ⟨Int.le_refl _,Int.le_refl _⟩
theorem one_rds {w:World} {g:Nat} {p:Int} {t:TypeId} (h:w.heap[g]?=some (.cells #[.int .i64 p,.int .i64 p] t (0,0))):Rds w w.heap.size 2 (some ⟨g,0,none⟩) 1 (rngs [(p,p)]):=by
 refine ⟨rfl,fun _=>⟨g,0,rfl,lt_heap h,fun j u hj=>?_⟩⟩
 rw [cell_of_row _ _ _ _ _ _ h]
 match j,hj with
 | 0,hj=>simpa [rngs] using hj
 | 1,hj=>simpa [rngs] using hj
set_option maxRecDepth 100000 in
set_option maxHeartbeats 8000000 in
theorem one_named_bad {b n c K:Nat} {d dp at_:Int} {fo:Bool} {A:Option Addr} {l:List Int} {w:World} {q:Int × Int} (h:BSt b n c d fo dp A l at_ w)
  (C:∀ W,BSt b n c d fo dp A l at_ W→Calls Tryz.prog 184 #[.pointer (some ⟨b,0,none⟩)] W fun e w'=>Kept b W w'∧e=.panicked (faultV q.1 q.2)) :
  Calls Tryz.prog 143 #[.pointer (some ⟨b,0,none⟩)] w (IOut b n c d fo dp A l K (.error q) w):=by
 have hlt:=h.lt
 have hB0:Below w.heap.size w (w.alloc (.cells #[.slice none 0 0,.int .i64 0] 167)):=(Below.refl _ _).alloc (Nat.le_refl _) _
 have HS0:=Lib.hid (h.next hB0)
 obtain ⟨W0,hW0⟩:∃ X,X=w.alloc (.cells #[.slice none 0 0,.int .i64 0] 167):=⟨_,rfl⟩
 have hs0:W0.heap.size=w.heap.size+1:=by rw [hW0];simp
 have HZ0:=Lib.hid (show W0.heap[w.heap.size]?=some (.cells #[.slice none 0 0,.int .i64 0] 167 (0,0)) by rw [hW0];exact heap_alloc_new w _)
 rw [← hW0] at HS0 hB0
 have HB0:=Lib.hid hB0
 have HS00:=Lib.hid hs0
 clear hB0 hs0
 have CN:=Lib.hid (C W0 HS0.out)
 clear C h
 go_enter Tryz.func143,Tryz.ntmps143
 go_upto_region 1 with (fail)
 rw [← hW0]
 clear hW0
 go_wp2_with (go_at_call 184;(with_reducible refine CN.out.mono ?_);rintro e w1 ⟨hk,rfl⟩)
 exact ⟨rfl,(Kept.of HB0.out).trans hk,rfl⟩
set_option maxRecDepth 100000 in
set_option maxHeartbeats 8000000 in
theorem one_named_ok {b n c K:Nat} {d dp at_:Int} {fo:Bool} {A:Option Addr} {l:List Int} {w:World} {f:Int→Prop} {nx:Int} (h:BSt b n c d fo dp A l at_ w) (hK:201≤K)
  (C:∀ W,BSt b n c d fo dp A l at_ W→Calls Tryz.prog 184 #[.pointer (some ⟨b,0,none⟩)] W fun e w'=>Kept b W w'∧∃ out A' n' c',e=.returned (.tuple #[.agg #[.slice A' n' c',.int .i64 (-1)],.bool true])∧IsSet out f∧out.length≤201∧w'.ownsRow W.heap.size 67 2 (.slice A' n' c') n' (rngs out)∧BSt b n c d fo dp A l nx w') :
  Calls Tryz.prog 143 #[.pointer (some ⟨b,0,none⟩)] w (IOut b n c d fo dp A l K (.ok ⟨f,-1,nx⟩) w):=by
 have hlt:=h.lt
 have hB0:Below w.heap.size w (w.alloc (.cells #[.slice none 0 0,.int .i64 0] 167)):=(Below.refl _ _).alloc (Nat.le_refl _) _
 have HS0:=Lib.hid (h.next hB0)
 obtain ⟨W0,hW0⟩:∃ X,X=w.alloc (.cells #[.slice none 0 0,.int .i64 0] 167):=⟨_,rfl⟩
 have hs0:W0.heap.size=w.heap.size+1:=by rw [hW0];simp
 have HZ0:=Lib.hid (show W0.heap[w.heap.size]?=some (.cells #[.slice none 0 0,.int .i64 0] 167 (0,0)) by rw [hW0];exact heap_alloc_new w _)
 rw [← hW0] at HS0 hB0
 have HB0:=Lib.hid hB0
 have HS00:=Lib.hid hs0
 clear hB0 hs0
 have CN:=Lib.hid (C W0 HS0.out)
 clear C h
 go_enter Tryz.func143,Tryz.ntmps143
 go_upto_region 1 with (fail)
 rw [← hW0]
 clear hW0
 go_upto_region 3 with (first
  | (go_at_call 184;(with_reducible refine CN.out.mono ?_);rintro e w1 ⟨hk,out,A1,n1,c1,rfl,hset,hln,hown,hS⟩))
 have HK1:=Lib.hid ((Kept.of HB0.out).trans hk)
 have HZ1:=Lib.hid ((hk.block w.heap.size (by have:=HS00.out;omega) (by omega)).trans HZ0.out)
 obtain ⟨W2,hW2⟩:∃ X,X=w1.alloc (.cells #[.slice A1 n1 c1,.int .i64 (-1)] 167):=⟨_,rfl⟩
 have hb2:Below w1.heap.size w1 W2:=by rw [hW2];exact (Below.refl _ _).alloc (Nat.le_refl _) _
 have HN2:=Lib.hid (show W2.heap[w1.heap.size]?=some (.cells #[.slice A1 n1 c1,.int .i64 (-1)] 167 (0,0)) by rw [hW2];exact heap_alloc_new w1 _)
 have HS2:=Lib.hid (hS.next hb2)
 have HO2:=Lib.hid (own_below hown hb2 (Nat.le_refl _))
 have HK2:=Lib.hid (HK1.out.trans (Kept.of hb2))
 have HZ2:=Lib.hid (row_next HZ1.out hb2)
 have HSET:=Lib.hid hset
 have hs1:=hk.size
 rw [← hW2]
 clear hW2 hb2 hset hown hS hk HK1 HZ1 HS0 HB0 CN
 have z0:=cell_of_row _ _ 0 _ _ _ HZ2.out
 have z1:=cell_of_row _ _ 1 _ _ _ HZ2.out
 have f0:=frozen_row (o:=0) HZ2.out
 have f1:=frozen_row (o:=1) HZ2.out
 have y0:=cell_of_row _ _ 0 _ _ _ HN2.out
 have y1:=cell_of_row _ _ 1 _ _ _ HN2.out
 repeat (first|go_values|go_skip|go_guarded|go_step|go_upon|(simp only []))
 (try simp only [Exit.inBlock,Exit.then])
 refine bodyPost_ret (v:=.agg #[.slice A1 n1 c1,.int .i64 (-1)]) ?_ rfl ?_
 ·rw [results_cell_one rfl]
  go_simp
 ·exact ⟨(HK2.out.setNew (p:=⟨w.heap.size,0,none⟩) (Nat.le_refl _) _).setNew (p:=⟨w.heap.size,1,none⟩) (Nat.le_refl _) _,out,A1,n1,c1,HSET.out,Nat.le_trans hln hK,rfl,Rds.of_own (own_keptb HO2.out (((Kept.refl w.heap.size W2).set 0 _).set 1 _) (by have:=HS00.out;omega)),(HS2.out.other hlt 0 _).other hlt 1 _⟩
set_option maxRecDepth 100000 in
set_option maxHeartbeats 8000000 in
theorem one_within_bad {b n c K:Nat} {dp at_:Int} {fo:Bool} {A:Option Addr} {l:List Int} {w:World} {q:Int × Int} (h:BSt b n c 1 fo dp A l at_ w) (hp:ptAt l at_=91) (hnc:saysB l at_ [91,58]=false) (hin:at_ < n)
  (C:∀ W,BSt b n c 1 fo dp A l at_ W→Calls Tryz.prog 185 #[.pointer (some ⟨b,0,none⟩)] W (BOut b n c 1 fo dp A l K (.error q) W)) :
  Calls Tryz.prog 143 #[.pointer (some ⟨b,0,none⟩)] w (IOut b n c 1 fo dp A l K (.error q) w):=by
 have hlt:=h.lt
 have hB0:Below w.heap.size w (w.alloc (.cells #[.slice none 0 0,.int .i64 0] 167)):=(Below.refl _ _).alloc (Nat.le_refl _) _
 have HS0:=Lib.hid (h.next hB0)
 obtain ⟨W0,hW0⟩:∃ X,X=w.alloc (.cells #[.slice none 0 0,.int .i64 0] 167):=⟨_,rfl⟩
 have hs0:W0.heap.size=w.heap.size+1:=by rw [hW0];simp
 have HZ0:=Lib.hid (show W0.heap[w.heap.size]?=some (.cells #[.slice none 0 0,.int .i64 0] 167 (0,0)) by rw [hW0];exact heap_alloc_new w _)
 rw [← hW0] at HS0 hB0
 have HB0:=Lib.hid hB0
 have HS00:=Lib.hid hs0
 clear hB0 hs0
 have N9:=Lib.hid (show saysB l at_ [91]=true by simp [saysB,hp])
 have CN:=Lib.hid (named_none HS0.out hnc)
 clear h hnc
 go_enter Tryz.func143,Tryz.ntmps143
 go_upto_region 1 with (fail)
 rw [← hW0]
 clear hW0
 go_upto_region 4 with (first
  | (go_at_call 184;(with_reducible refine CN.out.mono ?_);rintro e w1 ⟨rfl,hb⟩))
 obtain ⟨W2,hW2⟩:∃ X,X=w1.alloc (.cells #[.slice none 0 0,.int .i64 0] 167):=⟨_,rfl⟩
 have hb2:Below W0.heap.size W0 W2:=by rw [hW2];exact hb.alloc hb.size _
 have HS2:=Lib.hid (HS0.out.next hb2)
 have HZ2:=Lib.hid (row_next HZ0.out hb2)
 have HB2:=Lib.hid (HB0.out.trans (hb2.mono (by have:=HS00.out;omega)))
 rw [← hW2]
 clear hW2 hb hb2 CN HS0 HZ0 HB0 HS00
 obtain ⟨c0,c1,c2,c3,f2⟩:=HS2.out.rd.cells
 have e1:(decide ((n:Int)≤at_))=false:=decide_eq_false (by omega)
 go_quiet (fail)
 go_upto_region 7 with (fail)
 obtain ⟨W3,hW3⟩:∃ X,X=W2.drewN nq:=⟨_,rfl⟩
 have hb3:Below W2.heap.size W2 W3:=by rw [hW3];exact below_drewN (Below.refl _ _) _
 have HS3:=Lib.hid (HS2.out.next hb3)
 have HZ3:=Lib.hid (row_next HZ2.out hb3)
 have HB3:=Lib.hid (HB2.out.trans (hb3.mono HB2.out.size))
 rw [← hW3]
 clear hW3 hb3 HS2 HZ2 HB2 c0 c1 c2 c3 f2 e1
 go_upto_region 8 with (first
  | (go_at_call 116;(with_reducible refine (BSt.is_ (cc:=1) (m:=1) (cs:=[91]) (HS3.out.next ((Below.refl _ _).alloc (Nat.le_refl _) _)) true N9.out (runes_new W3 [91] #[.int .i32 91] 1 rfl rfl) (by simp) (by decide)).mono ?_);rintro e w4 ⟨rfl,q4,hq4⟩;have hb4:Below W3.heap.size W3 w4:=(by rw [hq4];exact below_drewN ((Below.refl _ _).alloc (Nat.le_refl _) _) _);have HS4:=Lib.hid (HS3.out.next hb4);have HZ4:=Lib.hid (row_next HZ3.out hb4);have HB4:=Lib.hid (HB3.out.trans (hb4.mono HB3.out.size));clear hq4 hb4))
 have CW:=Lib.hid (C w4 HS4.out)
 clear C
 go_wp2_with (go_at_call 185;(with_reducible refine CW.out.mono ?_);rintro e w5 ⟨hk,he⟩;obtain rfl:=(show e=_ from he))
 exact ⟨rfl,(Kept.of HB4.out).trans hk,rfl⟩
set_option maxRecDepth 100000 in
set_option maxHeartbeats 8000000 in
theorem one_within_ok {b n c K:Nat} {dp at_:Int} {fo:Bool} {A:Option Addr} {l:List Int} {w:World} {r:SP} (h:BSt b n c 1 fo dp A l at_ w) (hp:ptAt l at_=91) (hnc:saysB l at_ [91,58]=false) (hin:at_ < n)
  (C:∀ W,BSt b n c 1 fo dp A l at_ W→Calls Tryz.prog 185 #[.pointer (some ⟨b,0,none⟩)] W (BOut b n c 1 fo dp A l K (.ok r) W)) :
  Calls Tryz.prog 143 #[.pointer (some ⟨b,0,none⟩)] w (IOut b n c 1 fo dp A l K (.ok ⟨r.1,-1,r.2⟩) w):=by
 have hlt:=h.lt
 have hB0:Below w.heap.size w (w.alloc (.cells #[.slice none 0 0,.int .i64 0] 167)):=(Below.refl _ _).alloc (Nat.le_refl _) _
 have HS0:=Lib.hid (h.next hB0)
 obtain ⟨W0,hW0⟩:∃ X,X=w.alloc (.cells #[.slice none 0 0,.int .i64 0] 167):=⟨_,rfl⟩
 have hs0:W0.heap.size=w.heap.size+1:=by rw [hW0];simp
 have HZ0:=Lib.hid (show W0.heap[w.heap.size]?=some (.cells #[.slice none 0 0,.int .i64 0] 167 (0,0)) by rw [hW0];exact heap_alloc_new w _)
 rw [← hW0] at HS0 hB0
 have HB0:=Lib.hid hB0
 have HS00:=Lib.hid hs0
 clear hB0 hs0
 have N9:=Lib.hid (show saysB l at_ [91]=true by simp [saysB,hp])
 have CN:=Lib.hid (named_none HS0.out hnc)
 clear h hnc
 go_enter Tryz.func143,Tryz.ntmps143
 go_upto_region 1 with (fail)
 rw [← hW0]
 clear hW0
 go_upto_region 4 with (first
  | (go_at_call 184;(with_reducible refine CN.out.mono ?_);rintro e w1 ⟨rfl,hb⟩))
 obtain ⟨W2,hW2⟩:∃ X,X=w1.alloc (.cells #[.slice none 0 0,.int .i64 0] 167):=⟨_,rfl⟩
 have hb2:Below W0.heap.size W0 W2:=by rw [hW2];exact hb.alloc hb.size _
 have HS2:=Lib.hid (HS0.out.next hb2)
 have HZ2:=Lib.hid (row_next HZ0.out hb2)
 have HB2:=Lib.hid (HB0.out.trans (hb2.mono (by have:=HS00.out;omega)))
 rw [← hW2]
 clear hW2 hb hb2 CN HS0 HZ0 HB0 HS00
 obtain ⟨c0,c1,c2,c3,f2⟩:=HS2.out.rd.cells
 have e1:(decide ((n:Int)≤at_))=false:=decide_eq_false (by omega)
 go_quiet (fail)
 go_upto_region 7 with (fail)
 obtain ⟨W3,hW3⟩:∃ X,X=W2.drewN nq:=⟨_,rfl⟩
 have hb3:Below W2.heap.size W2 W3:=by rw [hW3];exact below_drewN (Below.refl _ _) _
 have HS3:=Lib.hid (HS2.out.next hb3)
 have HZ3:=Lib.hid (row_next HZ2.out hb3)
 have HB3:=Lib.hid (HB2.out.trans (hb3.mono HB2.out.size))
 rw [← hW3]
 clear hW3 hb3 HS2 HZ2 HB2 c0 c1 c2 c3 f2 e1
 go_upto_region 8 with (first
  | (go_at_call 116;(with_reducible refine (BSt.is_ (cc:=1) (m:=1) (cs:=[91]) (HS3.out.next ((Below.refl _ _).alloc (Nat.le_refl _) _)) true N9.out (runes_new W3 [91] #[.int .i32 91] 1 rfl rfl) (by simp) (by decide)).mono ?_);rintro e w4 ⟨rfl,q4,hq4⟩;have hb4:Below W3.heap.size W3 w4:=(by rw [hq4];exact below_drewN ((Below.refl _ _).alloc (Nat.le_refl _) _) _);have HS4:=Lib.hid (HS3.out.next hb4);have HZ4:=Lib.hid (row_next HZ3.out hb4);have HB4:=Lib.hid (HB3.out.trans (hb4.mono HB3.out.size));clear hq4 hb4))
 have CW:=Lib.hid (C w4 HS4.out)
 clear C
 obtain ⟨f,nx⟩:=r
 have hs4:=HB4.out.size
 have hz4:=lt_heap HZ4.out
 repeat (first
  | (go_at_call 185;(with_reducible refine CW.out.mono ?_);rintro e w5 ⟨hk,out,A1,n1,c1,hset,hln,rfl,hown,hS⟩;have HK5:=Lib.hid ((Kept.of HB4.out).trans hk);have HZ5:=Lib.hid ((hk.block w.heap.size hz4 (by omega)).trans HZ4.out);have HO5:=Lib.hid hown;have HS5:=Lib.hid hS;have HSET:=Lib.hid hset;have HLN:=Lib.hid hln;have z0:=cell_of_row _ _ 0 _ _ _ HZ5.out;have z1:=cell_of_row _ _ 1 _ _ _ HZ5.out;have f0:=frozen_row (o:=0) HZ5.out;have f1:=frozen_row (o:=1) HZ5.out;clear hk hown hS hset hln)
  | go_values|go_skip|go_guarded|go_step|go_upon|(simp only []))
 (try simp only [Exit.inBlock,Exit.then])
 refine bodyPost_ret (v:=.agg #[.slice A1 n1 c1,.int .i64 (-1)]) ?_ rfl ?_
 ·rw [results_cell_one rfl]
  go_simp
 ·exact ⟨(HK5.out.setNew (p:=⟨w.heap.size,0,none⟩) (Nat.le_refl _) _).setNew (p:=⟨w.heap.size,1,none⟩) (Nat.le_refl _) _,out,A1,n1,c1,HSET.out,HLN.out,rfl,Rds.of_own (own_keptb HO5.out (((Kept.refl w.heap.size w5).set 0 _).set 1 _) hz4),(HS5.out.other hlt 0 _).other hlt 1 _⟩
set_option maxRecDepth 100000 in
set_option maxHeartbeats 8000000 in
theorem one_tok_bad {b n c K:Nat} {dp at_:Int} {fo:Bool} {A:Option Addr} {l:List Int} {w:World} {x:Int} (h:BSt b n c 1 fo dp A l at_ w) (hp:ptAt l at_=92) (hin:at_ < n) (hx:x≠0)
  (C:∀ W,Rds W W.heap.size 1 A n (ints l)→Calls Tryz.prog 113 #[.int .i64 1,.slice A n c,.int .i64 at_] W fun e w'=>e=.returned (.tuple #[.agg #[.int .i64 0,.int .i64 0,.string ⟨#[]⟩,.bool false,.int .i64 0,.int .i64 0,.int .i64 0,.int .i64 0],.int .i64 0,.int .i64 x])∧Below W.heap.size W w') :
  Calls Tryz.prog 143 #[.pointer (some ⟨b,0,none⟩)] w (IOut b n c 1 fo dp A l K (.error (x,at_)) w):=by
 have hlt:=h.lt
 have hB0:Below w.heap.size w (w.alloc (.cells #[.slice none 0 0,.int .i64 0] 167)):=(Below.refl _ _).alloc (Nat.le_refl _) _
 have HS0:=Lib.hid (h.next hB0)
 obtain ⟨W0,hW0⟩:∃ X,X=w.alloc (.cells #[.slice none 0 0,.int .i64 0] 167):=⟨_,rfl⟩
 have hs0:W0.heap.size=w.heap.size+1:=by rw [hW0];simp
 have HZ0:=Lib.hid (show W0.heap[w.heap.size]?=some (.cells #[.slice none 0 0,.int .i64 0] 167 (0,0)) by rw [hW0];exact heap_alloc_new w _)
 rw [← hW0] at HS0 hB0
 have HB0:=Lib.hid hB0
 have HS00:=Lib.hid hs0
 clear hB0 hs0
 have hnc:saysB l at_ [91,58]=false:=by simp [saysB,hp]
 have N91:=Lib.hid (show saysB l at_ [91]=false by simp [saysB,hp])
 have N92:=Lib.hid (show saysB l at_ [92]=true by simp [saysB,hp])
 have hlo:=h.lo
 have CN:=Lib.hid (named_none HS0.out hnc)
 clear h hnc
 go_enter Tryz.func143,Tryz.ntmps143
 go_upto_region 1 with (fail)
 rw [← hW0]
 clear hW0
 go_upto_region 4 with (first
  | (go_at_call 184;(with_reducible refine CN.out.mono ?_);rintro e w1 ⟨rfl,hb⟩))
 obtain ⟨W2,hW2⟩:∃ X,X=w1.alloc (.cells #[.slice none 0 0,.int .i64 0] 167):=⟨_,rfl⟩
 have hb2:Below W0.heap.size W0 W2:=by rw [hW2];exact hb.alloc hb.size _
 have HS2:=Lib.hid (HS0.out.next hb2)
 have HZ2:=Lib.hid (row_next HZ0.out hb2)
 have HB2:=Lib.hid (HB0.out.trans (hb2.mono (by have:=HS00.out;omega)))
 rw [← hW2]
 clear hW2 hb hb2 CN HS0 HZ0 HB0 HS00
 obtain ⟨c0,c1,c2,c3,f2⟩:=HS2.out.rd.cells
 have e1:(decide ((n:Int)≤at_))=false:=decide_eq_false (by omega)
 go_quiet (fail)
 go_upto_region 7 with (fail)
 obtain ⟨W3,hW3⟩:∃ X,X=W2.drewN nq:=⟨_,rfl⟩
 have hb3:Below W2.heap.size W2 W3:=by rw [hW3];exact below_drewN (Below.refl _ _) _
 have HS3:=Lib.hid (HS2.out.next hb3)
 have HZ3:=Lib.hid (row_next HZ2.out hb3)
 have HB3:=Lib.hid (HB2.out.trans (hb3.mono HB2.out.size))
 rw [← hW3]
 clear hW3 hb3 HS2 HZ2 HB2 c0 c1 c2 c3 f2 e1
 go_upto_region 10 with (first
  | (go_at_call 116;(with_reducible refine (BSt.is_ (cc:=1) (m:=1) (cs:=[91]) (HS3.out.next ((Below.refl _ _).alloc (Nat.le_refl _) _)) false N91.out (runes_new W3 [91] #[.int .i32 91] 1 rfl rfl) (by simp) (by decide)).mono ?_);rintro e w4 ⟨rfl,q4,hq4⟩;have hb4:Below W3.heap.size W3 w4:=(by rw [hq4];exact below_drewN ((Below.refl _ _).alloc (Nat.le_refl _) _) _);have HS4:=Lib.hid (HS3.out.next hb4);have HZ4:=Lib.hid (row_next HZ3.out hb4);have HB4:=Lib.hid (HB3.out.trans (hb4.mono HB3.out.size));clear hq4 hb4)
  | (go_at_call 116;(with_reducible refine (BSt.is_ (cc:=1) (m:=1) (cs:=[92]) (HS4.out.next ((Below.refl _ _).alloc (Nat.le_refl _) _)) true N92.out (runes_new w4 [92] #[.int .i32 92] 1 rfl rfl) (by simp) (by decide)).mono ?_);rintro e w5 ⟨rfl,q5,hq5⟩;have hb5:Below w4.heap.size w4 w5:=(by rw [hq5];exact below_drewN ((Below.refl _ _).alloc (Nat.le_refl _) _) _);have HS5:=Lib.hid (HS4.out.next hb5);have HZ5:=Lib.hid (row_next HZ4.out hb5);have HB5:=Lib.hid (HB4.out.trans (hb5.mono HB4.out.size));clear hq5 hb5))
 clear HS3 HZ3 HB3 HS4 HZ4 HB4
 obtain ⟨c0,c1,c2,c3,f2⟩:=HS5.out.rd.cells
 have hbA:Below w5.heap.size w5 (World.drew (w5.alloc (.cells #[.int .i64 0,.int .i64 0,.string ⟨#[]⟩,.bool false,.int .i64 0,.int .i64 0,.int .i64 0,.int .i64 0] 108))):=((Below.refl _ _).alloc (Nat.le_refl _) _).drew
 have HBA:=Lib.hid hbA
 have CT:=Lib.hid (C _ ((HS5.out.next hbA).row.more (Nat.le_of_lt (HS5.out.next hbA).lt)))
 have CT0:=Lib.hid (C (World.drew w5) (HS5.out.row.more (Nat.le_of_lt HS5.out.lt)))
 have HTA:=Lib.hid (show (World.drew (w5.alloc (.cells #[.int .i64 0,.int .i64 0,.string ⟨#[]⟩,.bool false,.int .i64 0,.int .i64 0,.int .i64 0,.int .i64 0] 108))).heap[w5.heap.size]?=some (.cells #[.int .i64 0,.int .i64 0,.string ⟨#[]⟩,.bool false,.int .i64 0,.int .i64 0,.int .i64 0,.int .i64 0] 108 (0,0)) from heap_alloc_new w5 _)
 obtain ⟨a0,a1,a2,a3,fa⟩:=(HS5.out.next hbA).rd.cells
 have hlA:=(HS5.out.next hbA).lt
 clear C hbA a3 fa
 have d0:(World.drew w5).cell? ⟨b,0,none⟩=some (.int .i64 1):=c0
 have d1:(World.drew w5).cell? ⟨b,1,none⟩=some (.slice A n c):=c1
 have d2:(World.drew w5).cell? ⟨b,2,none⟩=some (.int .i64 at_):=c2
 have lt5:=HS5.out.lt
 have lz5:=lt_heap HZ5.out
 have N50:(⟨b,0,none⟩:Addr).block≠w5.heap.size:=Nat.ne_of_lt lt5
 have N51:(⟨b,1,none⟩:Addr).block≠w5.heap.size:=Nat.ne_of_lt lt5
 have N52:(⟨b,2,none⟩:Addr).block≠w5.heap.size:=Nat.ne_of_lt lt5
 have ex:(x != 0)=true:=bne_iff_ne.2 hx
 clear hx
 go_region_held3 (fun w'=>w'.cell? ⟨b,0,none⟩=some (.int .i64 1)∧w'.cell? ⟨b,1,none⟩=some (.slice A n c)∧w'.cell? ⟨b,2,none⟩=some (.int .i64 at_))
  (first
   | with_reducible exact ⟨c0,c1,c2⟩
   | with_reducible exact ⟨d0,d1,d2⟩
   | with_reducible exact ⟨a0,a1,a2⟩
   | with_reducible exact ⟨k0,k1,k2⟩
   | with_reducible exact ⟨(put24_cell N50).trans k0,(put24_cell N51).trans k1,(put24_cell N52).trans k2⟩
   | with_reducible exact ⟨m0 _,m1 _,m2 _⟩
   | (trace_state;fail))
  (first
   | (go_at_call 113;(with_reducible refine CT.out.mono ?_);rintro e w6 ⟨rfl,hb⟩;have HB6:=Lib.hid hb;have k0:=(hb.cell (p:=⟨b,0,none⟩) hlA).trans a0;have k1:=(hb.cell (p:=⟨b,1,none⟩) hlA).trans a1;have k2:=(hb.cell (p:=⟨b,2,none⟩) hlA).trans a2;have HT6:=Lib.hid (row_next HTA.out hb);have g0:=frozen_row (o:=0) HT6.out;have g1:=frozen_row (o:=0+1) HT6.out;have g2:=frozen_row (o:=0+2) HT6.out;have g3:=frozen_row (o:=0+3) HT6.out;have g4:=frozen_row (o:=0+4) HT6.out;have g5:=frozen_row (o:=0+5) HT6.out;have g6:=frozen_row (o:=0+6) HT6.out;have g7:=frozen_row (o:=0+7) HT6.out;obtain ⟨z0,z1,z2,z3,z4,z5,z6,z7⟩:=cells8 HT6.out;clear hb)
   | (go_at_call 113;(with_reducible refine CT0.out.mono ?_);rintro e w6 ⟨rfl,hb⟩;have HB6:=Lib.hid hb;have k0:=(hb.cell (p:=⟨b,0,none⟩) lt5).trans d0;have k1:=(hb.cell (p:=⟨b,1,none⟩) lt5).trans d1;have k2:=(hb.cell (p:=⟨b,2,none⟩) lt5).trans d2;have lt6:b < w6.heap.size:=Nat.lt_of_lt_of_le lt5 hb.size;have m0:=fun o=>(World.cell?_alloc_lt w6 o ⟨b,0,none⟩ lt6).trans k0;have m1:=fun o=>(World.cell?_alloc_lt w6 o ⟨b,1,none⟩ lt6).trans k1;have m2:=fun o=>(World.cell?_alloc_lt w6 o ⟨b,2,none⟩ lt6).trans k2;have HT6:=Lib.hid (heap_alloc_new w6 (.cells #[.int .i64 0,.int .i64 0,.string ⟨#[]⟩,.bool false,.int .i64 0,.int .i64 0,.int .i64 0,.int .i64 0] 108));have g0:=frozen_row (o:=0) HT6.out;have g1:=frozen_row (o:=0+1) HT6.out;have g2:=frozen_row (o:=0+2) HT6.out;have g3:=frozen_row (o:=0+3) HT6.out;have g4:=frozen_row (o:=0+4) HT6.out;have g5:=frozen_row (o:=0+5) HT6.out;have g6:=frozen_row (o:=0+6) HT6.out;have g7:=frozen_row (o:=0+7) HT6.out;obtain ⟨z0,z1,z2,z3,z4,z5,z6,z7⟩:=cells8 HT6.out;clear hb))
 ·obtain ⟨WX,hWX⟩:∃ X,X=w6.alloc (.cells #[.int .i64 0,.int .i64 0,.string ⟨#[]⟩,.bool false,.int .i64 0,.int .i64 0,.int .i64 0,.int .i64 0] 108):=⟨_,rfl⟩
  have HBX:=Lib.hid (show Below w5.heap.size w5 WX by rw [hWX];exact ((Below.drew (Below.refl _ _)).trans HB6.out).alloc HB6.out.size _)
  have HTX:=Lib.hid (show WX.heap[w6.heap.size]?=some (.cells #[.int .i64 0,.int .i64 0,.string ⟨#[]⟩,.bool false,.int .i64 0,.int .i64 0,.int .i64 0,.int .i64 0] 108 (0,0)) by rw [hWX];exact heap_alloc_new w6 _)
  rw [← hWX]
  clear hWX k0 k1 k2 g0 g1 g2 g3 g4 g5 g6 g7 z0 z1 z2 z3 z4 z5 z6 z7 HT6 HB6 c0 c1 c2 c3 f2 a0 a1 a2 d0 d1 d2 CT CT0
  have HSX:=Lib.hid (HS5.out.next HBX.out)
  have HZX:=Lib.hid (row_next HZ5.out HBX.out)
  have HKX:=Lib.hid ((Kept.of (b:=b) HB5.out).trans (Kept.of HBX.out))
  have hsX:=HBX.out.size
  obtain ⟨c0,c1,c2,c3,f2⟩:=HSX.out.rd.cells
  obtain ⟨t0,t1,t2,t3,t4,t5,t6,t7⟩:=cells8 HTX.out
  go_wp2_with (go_at_call 59;(with_reducible refine (fail21 x at_ _).mono ?_);rintro e w' ⟨rfl,rfl⟩)
  exact ⟨rfl,HKX.out,rfl⟩
 ·obtain ⟨WX,hWX⟩:∃ X,X=((((((((w6.setCell ⟨w5.heap.size,0,none⟩ (.int .i64 0)).setCell ⟨w5.heap.size,1,none⟩ (.int .i64 0)).setCell ⟨w5.heap.size,2,none⟩ (.string ⟨#[]⟩)).setCell ⟨w5.heap.size,3,none⟩ (.bool false)).setCell ⟨w5.heap.size,4,none⟩ (.int .i64 0)).setCell ⟨w5.heap.size,5,none⟩ (.int .i64 0)).setCell ⟨w5.heap.size,6,none⟩ (.int .i64 0)).setCell ⟨w5.heap.size,7,none⟩ (.int .i64 0)):=⟨_,rfl⟩
  have HBX:=Lib.hid (show Below w5.heap.size w5 WX by rw [hWX];exact put24_below (HBA.out.trans (HB6.out.mono HBA.out.size)) (Nat.le_refl _))
  have HTX:=Lib.hid (show WX.heap[w5.heap.size]?=some (.cells #[.int .i64 0,.int .i64 0,.string ⟨#[]⟩,.bool false,.int .i64 0,.int .i64 0,.int .i64 0,.int .i64 0] 108 (0,0)) by rw [hWX];exact put24 HT6.out)
  rw [← hWX]
  clear hWX k0 k1 k2 g0 g1 g2 g3 g4 g5 g6 g7 z0 z1 z2 z3 z4 z5 z6 z7 HT6 HB6 c0 c1 c2 c3 f2 a0 a1 a2 d0 d1 d2 CT CT0
  have HSX:=Lib.hid (HS5.out.next HBX.out)
  have HZX:=Lib.hid (row_next HZ5.out HBX.out)
  have HKX:=Lib.hid ((Kept.of (b:=b) HB5.out).trans (Kept.of HBX.out))
  have hsX:=HBX.out.size
  obtain ⟨c0,c1,c2,c3,f2⟩:=HSX.out.rd.cells
  obtain ⟨t0,t1,t2,t3,t4,t5,t6,t7⟩:=cells8 HTX.out
  go_wp2_with (go_at_call 59;(with_reducible refine (fail21 x at_ _).mono ?_);rintro e w' ⟨rfl,rfl⟩)
  exact ⟨rfl,HKX.out,rfl⟩
set_option maxRecDepth 100000 in
set_option maxHeartbeats 8000000 in
theorem one_tok_else {b n c K:Nat} {dp at_:Int} {fo:Bool} {A:Option Addr} {l:List Int} {w:World} {kd num nx le mo wy fd:Int} {tx:ByteArray} {nt:Bool} (h:BSt b n c 1 fo dp A l at_ w) (hp:ptAt l at_=92) (hin:at_ < n) (h1:kd≠1) (h4:kd≠4)
  (C:∀ W,Rds W W.heap.size 1 A n (ints l)→Calls Tryz.prog 113 #[.int .i64 1,.slice A n c,.int .i64 at_] W fun e w'=>e=.returned (.tuple #[.agg #[.int .i64 kd,.int .i64 num,.string tx,.bool nt,.int .i64 le,.int .i64 mo,.int .i64 wy,.int .i64 fd],.int .i64 nx,.int .i64 0])∧Below W.heap.size W w') :
  Calls Tryz.prog 143 #[.pointer (some ⟨b,0,none⟩)] w (IOut b n c 1 fo dp A l K (.error (1,at_)) w):=by
 have hlt:=h.lt
 have hB0:Below w.heap.size w (w.alloc (.cells #[.slice none 0 0,.int .i64 0] 167)):=(Below.refl _ _).alloc (Nat.le_refl _) _
 have HS0:=Lib.hid (h.next hB0)
 obtain ⟨W0,hW0⟩:∃ X,X=w.alloc (.cells #[.slice none 0 0,.int .i64 0] 167):=⟨_,rfl⟩
 have hs0:W0.heap.size=w.heap.size+1:=by rw [hW0];simp
 have HZ0:=Lib.hid (show W0.heap[w.heap.size]?=some (.cells #[.slice none 0 0,.int .i64 0] 167 (0,0)) by rw [hW0];exact heap_alloc_new w _)
 rw [← hW0] at HS0 hB0
 have HB0:=Lib.hid hB0
 have HS00:=Lib.hid hs0
 clear hB0 hs0
 have hnc:saysB l at_ [91,58]=false:=by simp [saysB,hp]
 have N91:=Lib.hid (show saysB l at_ [91]=false by simp [saysB,hp])
 have N92:=Lib.hid (show saysB l at_ [92]=true by simp [saysB,hp])
 have hlo:=h.lo
 have CN:=Lib.hid (named_none HS0.out hnc)
 clear h hnc
 go_enter Tryz.func143,Tryz.ntmps143
 go_upto_region 1 with (fail)
 rw [← hW0]
 clear hW0
 go_upto_region 4 with (first
  | (go_at_call 184;(with_reducible refine CN.out.mono ?_);rintro e w1 ⟨rfl,hb⟩))
 obtain ⟨W2,hW2⟩:∃ X,X=w1.alloc (.cells #[.slice none 0 0,.int .i64 0] 167):=⟨_,rfl⟩
 have hb2:Below W0.heap.size W0 W2:=by rw [hW2];exact hb.alloc hb.size _
 have HS2:=Lib.hid (HS0.out.next hb2)
 have HZ2:=Lib.hid (row_next HZ0.out hb2)
 have HB2:=Lib.hid (HB0.out.trans (hb2.mono (by have:=HS00.out;omega)))
 rw [← hW2]
 clear hW2 hb hb2 CN HS0 HZ0 HB0 HS00
 obtain ⟨c0,c1,c2,c3,f2⟩:=HS2.out.rd.cells
 have e1:(decide ((n:Int)≤at_))=false:=decide_eq_false (by omega)
 go_quiet (fail)
 go_upto_region 7 with (fail)
 obtain ⟨W3,hW3⟩:∃ X,X=W2.drewN nq:=⟨_,rfl⟩
 have hb3:Below W2.heap.size W2 W3:=by rw [hW3];exact below_drewN (Below.refl _ _) _
 have HS3:=Lib.hid (HS2.out.next hb3)
 have HZ3:=Lib.hid (row_next HZ2.out hb3)
 have HB3:=Lib.hid (HB2.out.trans (hb3.mono HB2.out.size))
 rw [← hW3]
 clear hW3 hb3 HS2 HZ2 HB2 c0 c1 c2 c3 f2 e1
 go_upto_region 10 with (first
  | (go_at_call 116;(with_reducible refine (BSt.is_ (cc:=1) (m:=1) (cs:=[91]) (HS3.out.next ((Below.refl _ _).alloc (Nat.le_refl _) _)) false N91.out (runes_new W3 [91] #[.int .i32 91] 1 rfl rfl) (by simp) (by decide)).mono ?_);rintro e w4 ⟨rfl,q4,hq4⟩;have hb4:Below W3.heap.size W3 w4:=(by rw [hq4];exact below_drewN ((Below.refl _ _).alloc (Nat.le_refl _) _) _);have HS4:=Lib.hid (HS3.out.next hb4);have HZ4:=Lib.hid (row_next HZ3.out hb4);have HB4:=Lib.hid (HB3.out.trans (hb4.mono HB3.out.size));clear hq4 hb4)
  | (go_at_call 116;(with_reducible refine (BSt.is_ (cc:=1) (m:=1) (cs:=[92]) (HS4.out.next ((Below.refl _ _).alloc (Nat.le_refl _) _)) true N92.out (runes_new w4 [92] #[.int .i32 92] 1 rfl rfl) (by simp) (by decide)).mono ?_);rintro e w5 ⟨rfl,q5,hq5⟩;have hb5:Below w4.heap.size w4 w5:=(by rw [hq5];exact below_drewN ((Below.refl _ _).alloc (Nat.le_refl _) _) _);have HS5:=Lib.hid (HS4.out.next hb5);have HZ5:=Lib.hid (row_next HZ4.out hb5);have HB5:=Lib.hid (HB4.out.trans (hb5.mono HB4.out.size));clear hq5 hb5))
 clear HS3 HZ3 HB3 HS4 HZ4 HB4
 obtain ⟨c0,c1,c2,c3,f2⟩:=HS5.out.rd.cells
 have hbA:Below w5.heap.size w5 (World.drew (w5.alloc (.cells #[.int .i64 0,.int .i64 0,.string ⟨#[]⟩,.bool false,.int .i64 0,.int .i64 0,.int .i64 0,.int .i64 0] 108))):=((Below.refl _ _).alloc (Nat.le_refl _) _).drew
 have HBA:=Lib.hid hbA
 have CT:=Lib.hid (C _ ((HS5.out.next hbA).row.more (Nat.le_of_lt (HS5.out.next hbA).lt)))
 have CT0:=Lib.hid (C (World.drew w5) (HS5.out.row.more (Nat.le_of_lt HS5.out.lt)))
 have HTA:=Lib.hid (show (World.drew (w5.alloc (.cells #[.int .i64 0,.int .i64 0,.string ⟨#[]⟩,.bool false,.int .i64 0,.int .i64 0,.int .i64 0,.int .i64 0] 108))).heap[w5.heap.size]?=some (.cells #[.int .i64 0,.int .i64 0,.string ⟨#[]⟩,.bool false,.int .i64 0,.int .i64 0,.int .i64 0,.int .i64 0] 108 (0,0)) from heap_alloc_new w5 _)
 obtain ⟨a0,a1,a2,a3,fa⟩:=(HS5.out.next hbA).rd.cells
 have hlA:=(HS5.out.next hbA).lt
 clear C hbA a3 fa
 have d0:(World.drew w5).cell? ⟨b,0,none⟩=some (.int .i64 1):=c0
 have d1:(World.drew w5).cell? ⟨b,1,none⟩=some (.slice A n c):=c1
 have d2:(World.drew w5).cell? ⟨b,2,none⟩=some (.int .i64 at_):=c2
 have lt5:=HS5.out.lt
 have lz5:=lt_heap HZ5.out
 have N50:(⟨b,0,none⟩:Addr).block≠w5.heap.size:=Nat.ne_of_lt lt5
 have N51:(⟨b,1,none⟩:Addr).block≠w5.heap.size:=Nat.ne_of_lt lt5
 have N52:(⟨b,2,none⟩:Addr).block≠w5.heap.size:=Nat.ne_of_lt lt5
 have e1:(kd == 1)=false:=beq_eq_false_iff_ne.2 h1
 have e4:(kd == 4)=false:=beq_eq_false_iff_ne.2 h4
 clear h1 h4
 go_region_held3 (fun w'=>w'.cell? ⟨b,0,none⟩=some (.int .i64 1)∧w'.cell? ⟨b,1,none⟩=some (.slice A n c)∧w'.cell? ⟨b,2,none⟩=some (.int .i64 at_))
  (first
   | with_reducible exact ⟨c0,c1,c2⟩
   | with_reducible exact ⟨d0,d1,d2⟩
   | with_reducible exact ⟨a0,a1,a2⟩
   | with_reducible exact ⟨k0,k1,k2⟩
   | with_reducible exact ⟨(put24_cell N50).trans k0,(put24_cell N51).trans k1,(put24_cell N52).trans k2⟩
   | with_reducible exact ⟨m0 _,m1 _,m2 _⟩
   | (trace_state;fail))
  (first
   | (go_at_call 113;(with_reducible refine CT.out.mono ?_);rintro e w6 ⟨rfl,hb⟩;have HB6:=Lib.hid hb;have k0:=(hb.cell (p:=⟨b,0,none⟩) hlA).trans a0;have k1:=(hb.cell (p:=⟨b,1,none⟩) hlA).trans a1;have k2:=(hb.cell (p:=⟨b,2,none⟩) hlA).trans a2;have HT6:=Lib.hid (row_next HTA.out hb);have g0:=frozen_row (o:=0) HT6.out;have g1:=frozen_row (o:=0+1) HT6.out;have g2:=frozen_row (o:=0+2) HT6.out;have g3:=frozen_row (o:=0+3) HT6.out;have g4:=frozen_row (o:=0+4) HT6.out;have g5:=frozen_row (o:=0+5) HT6.out;have g6:=frozen_row (o:=0+6) HT6.out;have g7:=frozen_row (o:=0+7) HT6.out;obtain ⟨z0,z1,z2,z3,z4,z5,z6,z7⟩:=cells8 HT6.out;clear hb)
   | (go_at_call 113;(with_reducible refine CT0.out.mono ?_);rintro e w6 ⟨rfl,hb⟩;have HB6:=Lib.hid hb;have k0:=(hb.cell (p:=⟨b,0,none⟩) lt5).trans d0;have k1:=(hb.cell (p:=⟨b,1,none⟩) lt5).trans d1;have k2:=(hb.cell (p:=⟨b,2,none⟩) lt5).trans d2;have lt6:b < w6.heap.size:=Nat.lt_of_lt_of_le lt5 hb.size;have m0:=fun o=>(World.cell?_alloc_lt w6 o ⟨b,0,none⟩ lt6).trans k0;have m1:=fun o=>(World.cell?_alloc_lt w6 o ⟨b,1,none⟩ lt6).trans k1;have m2:=fun o=>(World.cell?_alloc_lt w6 o ⟨b,2,none⟩ lt6).trans k2;have HT6:=Lib.hid (heap_alloc_new w6 (.cells #[.int .i64 0,.int .i64 0,.string ⟨#[]⟩,.bool false,.int .i64 0,.int .i64 0,.int .i64 0,.int .i64 0] 108));have g0:=frozen_row (o:=0) HT6.out;have g1:=frozen_row (o:=0+1) HT6.out;have g2:=frozen_row (o:=0+2) HT6.out;have g3:=frozen_row (o:=0+3) HT6.out;have g4:=frozen_row (o:=0+4) HT6.out;have g5:=frozen_row (o:=0+5) HT6.out;have g6:=frozen_row (o:=0+6) HT6.out;have g7:=frozen_row (o:=0+7) HT6.out;obtain ⟨z0,z1,z2,z3,z4,z5,z6,z7⟩:=cells8 HT6.out;clear hb))
 ·obtain ⟨WX,hWX⟩:∃ X,X=w6.alloc (.cells #[.int .i64 kd,.int .i64 num,.string tx,.bool nt,.int .i64 le,.int .i64 mo,.int .i64 wy,.int .i64 fd] 108):=⟨_,rfl⟩
  have HBX:=Lib.hid (show Below w5.heap.size w5 WX by rw [hWX];exact ((Below.drew (Below.refl _ _)).trans HB6.out).alloc HB6.out.size _)
  have HTX:=Lib.hid (show WX.heap[w6.heap.size]?=some (.cells #[.int .i64 kd,.int .i64 num,.string tx,.bool nt,.int .i64 le,.int .i64 mo,.int .i64 wy,.int .i64 fd] 108 (0,0)) by rw [hWX];exact heap_alloc_new w6 _)
  rw [← hWX]
  clear hWX k0 k1 k2 g0 g1 g2 g3 g4 g5 g6 g7 z0 z1 z2 z3 z4 z5 z6 z7 HT6 HB6 c0 c1 c2 c3 f2 a0 a1 a2 d0 d1 d2 CT CT0
  have HSX:=Lib.hid (HS5.out.next HBX.out)
  have HZX:=Lib.hid (row_next HZ5.out HBX.out)
  have HKX:=Lib.hid ((Kept.of (b:=b) HB5.out).trans (Kept.of HBX.out))
  have hsX:=HBX.out.size
  obtain ⟨c0,c1,c2,c3,f2⟩:=HSX.out.rd.cells
  obtain ⟨t0,t1,t2,t3,t4,t5,t6,t7⟩:=cells8 HTX.out
  go_wp2_with (go_at_call 59;(with_reducible refine (fail21 1 at_ _).mono ?_);rintro e w' ⟨rfl,rfl⟩)
  exact ⟨rfl,HKX.out,rfl⟩
 ·obtain ⟨WX,hWX⟩:∃ X,X=((((((((w6.setCell ⟨w5.heap.size,0,none⟩ (.int .i64 kd)).setCell ⟨w5.heap.size,1,none⟩ (.int .i64 num)).setCell ⟨w5.heap.size,2,none⟩ (.string tx)).setCell ⟨w5.heap.size,3,none⟩ (.bool nt)).setCell ⟨w5.heap.size,4,none⟩ (.int .i64 le)).setCell ⟨w5.heap.size,5,none⟩ (.int .i64 mo)).setCell ⟨w5.heap.size,6,none⟩ (.int .i64 wy)).setCell ⟨w5.heap.size,7,none⟩ (.int .i64 fd)):=⟨_,rfl⟩
  have HBX:=Lib.hid (show Below w5.heap.size w5 WX by rw [hWX];exact put24_below (HBA.out.trans (HB6.out.mono HBA.out.size)) (Nat.le_refl _))
  have HTX:=Lib.hid (show WX.heap[w5.heap.size]?=some (.cells #[.int .i64 kd,.int .i64 num,.string tx,.bool nt,.int .i64 le,.int .i64 mo,.int .i64 wy,.int .i64 fd] 108 (0,0)) by rw [hWX];exact put24 HT6.out)
  rw [← hWX]
  clear hWX k0 k1 k2 g0 g1 g2 g3 g4 g5 g6 g7 z0 z1 z2 z3 z4 z5 z6 z7 HT6 HB6 c0 c1 c2 c3 f2 a0 a1 a2 d0 d1 d2 CT CT0
  have HSX:=Lib.hid (HS5.out.next HBX.out)
  have HZX:=Lib.hid (row_next HZ5.out HBX.out)
  have HKX:=Lib.hid ((Kept.of (b:=b) HB5.out).trans (Kept.of HBX.out))
  have hsX:=HBX.out.size
  obtain ⟨c0,c1,c2,c3,f2⟩:=HSX.out.rd.cells
  obtain ⟨t0,t1,t2,t3,t4,t5,t6,t7⟩:=cells8 HTX.out
  go_wp2_with (go_at_call 59;(with_reducible refine (fail21 1 at_ _).mono ?_);rintro e w' ⟨rfl,rfl⟩)
  exact ⟨rfl,HKX.out,rfl⟩
set_option maxRecDepth 100000 in
set_option maxHeartbeats 8000000 in
theorem one_tok_point {b n c K:Nat} {dp at_:Int} {fo:Bool} {A:Option Addr} {l:List Int} {w:World} {nx num le mo wy fd:Int} {tx:ByteArray} {nt:Bool} (h:BSt b n c 1 fo dp A l at_ w) (hp:ptAt l at_=92) (hin:at_ < n) (h0:0≤nx) (h1:nx≤n) (hK:1≤K) (hn0:0≤num) (hn1:num≤1114111)
  (C:∀ W,Rds W W.heap.size 1 A n (ints l)→Calls Tryz.prog 113 #[.int .i64 1,.slice A n c,.int .i64 at_] W fun e w'=>e=.returned (.tuple #[.agg #[.int .i64 1,.int .i64 num,.string tx,.bool nt,.int .i64 le,.int .i64 mo,.int .i64 wy,.int .i64 fd],.int .i64 nx,.int .i64 0])∧Below W.heap.size W w') :
  Calls Tryz.prog 143 #[.pointer (some ⟨b,0,none⟩)] w (IOut b n c 1 fo dp A l K (.ok ⟨fun p=>p=num,num,nx⟩) w):=by
 have hlt:=h.lt
 have hB0:Below w.heap.size w (w.alloc (.cells #[.slice none 0 0,.int .i64 0] 167)):=(Below.refl _ _).alloc (Nat.le_refl _) _
 have HS0:=Lib.hid (h.next hB0)
 obtain ⟨W0,hW0⟩:∃ X,X=w.alloc (.cells #[.slice none 0 0,.int .i64 0] 167):=⟨_,rfl⟩
 have hs0:W0.heap.size=w.heap.size+1:=by rw [hW0];simp
 have HZ0:=Lib.hid (show W0.heap[w.heap.size]?=some (.cells #[.slice none 0 0,.int .i64 0] 167 (0,0)) by rw [hW0];exact heap_alloc_new w _)
 rw [← hW0] at HS0 hB0
 have HB0:=Lib.hid hB0
 have HS00:=Lib.hid hs0
 clear hB0 hs0
 have hnc:saysB l at_ [91,58]=false:=by simp [saysB,hp]
 have N91:=Lib.hid (show saysB l at_ [91]=false by simp [saysB,hp])
 have N92:=Lib.hid (show saysB l at_ [92]=true by simp [saysB,hp])
 have hlo:=h.lo
 have CN:=Lib.hid (named_none HS0.out hnc)
 clear h hnc
 go_enter Tryz.func143,Tryz.ntmps143
 go_upto_region 1 with (fail)
 rw [← hW0]
 clear hW0
 go_upto_region 4 with (first
  | (go_at_call 184;(with_reducible refine CN.out.mono ?_);rintro e w1 ⟨rfl,hb⟩))
 obtain ⟨W2,hW2⟩:∃ X,X=w1.alloc (.cells #[.slice none 0 0,.int .i64 0] 167):=⟨_,rfl⟩
 have hb2:Below W0.heap.size W0 W2:=by rw [hW2];exact hb.alloc hb.size _
 have HS2:=Lib.hid (HS0.out.next hb2)
 have HZ2:=Lib.hid (row_next HZ0.out hb2)
 have HB2:=Lib.hid (HB0.out.trans (hb2.mono (by have:=HS00.out;omega)))
 rw [← hW2]
 clear hW2 hb hb2 CN HS0 HZ0 HB0 HS00
 obtain ⟨c0,c1,c2,c3,f2⟩:=HS2.out.rd.cells
 have e1:(decide ((n:Int)≤at_))=false:=decide_eq_false (by omega)
 go_quiet (fail)
 go_upto_region 7 with (fail)
 obtain ⟨W3,hW3⟩:∃ X,X=W2.drewN nq:=⟨_,rfl⟩
 have hb3:Below W2.heap.size W2 W3:=by rw [hW3];exact below_drewN (Below.refl _ _) _
 have HS3:=Lib.hid (HS2.out.next hb3)
 have HZ3:=Lib.hid (row_next HZ2.out hb3)
 have HB3:=Lib.hid (HB2.out.trans (hb3.mono HB2.out.size))
 rw [← hW3]
 clear hW3 hb3 HS2 HZ2 HB2 c0 c1 c2 c3 f2 e1
 go_upto_region 10 with (first
  | (go_at_call 116;(with_reducible refine (BSt.is_ (cc:=1) (m:=1) (cs:=[91]) (HS3.out.next ((Below.refl _ _).alloc (Nat.le_refl _) _)) false N91.out (runes_new W3 [91] #[.int .i32 91] 1 rfl rfl) (by simp) (by decide)).mono ?_);rintro e w4 ⟨rfl,q4,hq4⟩;have hb4:Below W3.heap.size W3 w4:=(by rw [hq4];exact below_drewN ((Below.refl _ _).alloc (Nat.le_refl _) _) _);have HS4:=Lib.hid (HS3.out.next hb4);have HZ4:=Lib.hid (row_next HZ3.out hb4);have HB4:=Lib.hid (HB3.out.trans (hb4.mono HB3.out.size));clear hq4 hb4)
  | (go_at_call 116;(with_reducible refine (BSt.is_ (cc:=1) (m:=1) (cs:=[92]) (HS4.out.next ((Below.refl _ _).alloc (Nat.le_refl _) _)) true N92.out (runes_new w4 [92] #[.int .i32 92] 1 rfl rfl) (by simp) (by decide)).mono ?_);rintro e w5 ⟨rfl,q5,hq5⟩;have hb5:Below w4.heap.size w4 w5:=(by rw [hq5];exact below_drewN ((Below.refl _ _).alloc (Nat.le_refl _) _) _);have HS5:=Lib.hid (HS4.out.next hb5);have HZ5:=Lib.hid (row_next HZ4.out hb5);have HB5:=Lib.hid (HB4.out.trans (hb5.mono HB4.out.size));clear hq5 hb5))
 clear HS3 HZ3 HB3 HS4 HZ4 HB4
 obtain ⟨c0,c1,c2,c3,f2⟩:=HS5.out.rd.cells
 have hbA:Below w5.heap.size w5 (World.drew (w5.alloc (.cells #[.int .i64 0,.int .i64 0,.string ⟨#[]⟩,.bool false,.int .i64 0,.int .i64 0,.int .i64 0,.int .i64 0] 108))):=((Below.refl _ _).alloc (Nat.le_refl _) _).drew
 have HBA:=Lib.hid hbA
 have CT:=Lib.hid (C _ ((HS5.out.next hbA).row.more (Nat.le_of_lt (HS5.out.next hbA).lt)))
 have CT0:=Lib.hid (C (World.drew w5) (HS5.out.row.more (Nat.le_of_lt HS5.out.lt)))
 have HTA:=Lib.hid (show (World.drew (w5.alloc (.cells #[.int .i64 0,.int .i64 0,.string ⟨#[]⟩,.bool false,.int .i64 0,.int .i64 0,.int .i64 0,.int .i64 0] 108))).heap[w5.heap.size]?=some (.cells #[.int .i64 0,.int .i64 0,.string ⟨#[]⟩,.bool false,.int .i64 0,.int .i64 0,.int .i64 0,.int .i64 0] 108 (0,0)) from heap_alloc_new w5 _)
 obtain ⟨a0,a1,a2,a3,fa⟩:=(HS5.out.next hbA).rd.cells
 have hlA:=(HS5.out.next hbA).lt
 clear C hbA a3 fa
 have d0:(World.drew w5).cell? ⟨b,0,none⟩=some (.int .i64 1):=c0
 have d1:(World.drew w5).cell? ⟨b,1,none⟩=some (.slice A n c):=c1
 have d2:(World.drew w5).cell? ⟨b,2,none⟩=some (.int .i64 at_):=c2
 have lt5:=HS5.out.lt
 have lz5:=lt_heap HZ5.out
 have N50:(⟨b,0,none⟩:Addr).block≠w5.heap.size:=Nat.ne_of_lt lt5
 have N51:(⟨b,1,none⟩:Addr).block≠w5.heap.size:=Nat.ne_of_lt lt5
 have N52:(⟨b,2,none⟩:Addr).block≠w5.heap.size:=Nat.ne_of_lt lt5
 go_region_held3 (fun w'=>w'.cell? ⟨b,0,none⟩=some (.int .i64 1)∧w'.cell? ⟨b,1,none⟩=some (.slice A n c)∧w'.cell? ⟨b,2,none⟩=some (.int .i64 at_))
  (first
   | with_reducible exact ⟨c0,c1,c2⟩
   | with_reducible exact ⟨d0,d1,d2⟩
   | with_reducible exact ⟨a0,a1,a2⟩
   | with_reducible exact ⟨k0,k1,k2⟩
   | with_reducible exact ⟨(put24_cell N50).trans k0,(put24_cell N51).trans k1,(put24_cell N52).trans k2⟩
   | with_reducible exact ⟨m0 _,m1 _,m2 _⟩
   | (trace_state;fail))
  (first
   | (go_at_call 113;(with_reducible refine CT.out.mono ?_);rintro e w6 ⟨rfl,hb⟩;have HB6:=Lib.hid hb;have k0:=(hb.cell (p:=⟨b,0,none⟩) hlA).trans a0;have k1:=(hb.cell (p:=⟨b,1,none⟩) hlA).trans a1;have k2:=(hb.cell (p:=⟨b,2,none⟩) hlA).trans a2;have HT6:=Lib.hid (row_next HTA.out hb);have g0:=frozen_row (o:=0) HT6.out;have g1:=frozen_row (o:=0+1) HT6.out;have g2:=frozen_row (o:=0+2) HT6.out;have g3:=frozen_row (o:=0+3) HT6.out;have g4:=frozen_row (o:=0+4) HT6.out;have g5:=frozen_row (o:=0+5) HT6.out;have g6:=frozen_row (o:=0+6) HT6.out;have g7:=frozen_row (o:=0+7) HT6.out;obtain ⟨z0,z1,z2,z3,z4,z5,z6,z7⟩:=cells8 HT6.out;clear hb)
   | (go_at_call 113;(with_reducible refine CT0.out.mono ?_);rintro e w6 ⟨rfl,hb⟩;have HB6:=Lib.hid hb;have k0:=(hb.cell (p:=⟨b,0,none⟩) lt5).trans d0;have k1:=(hb.cell (p:=⟨b,1,none⟩) lt5).trans d1;have k2:=(hb.cell (p:=⟨b,2,none⟩) lt5).trans d2;have lt6:b < w6.heap.size:=Nat.lt_of_lt_of_le lt5 hb.size;have m0:=fun o=>(World.cell?_alloc_lt w6 o ⟨b,0,none⟩ lt6).trans k0;have m1:=fun o=>(World.cell?_alloc_lt w6 o ⟨b,1,none⟩ lt6).trans k1;have m2:=fun o=>(World.cell?_alloc_lt w6 o ⟨b,2,none⟩ lt6).trans k2;have HT6:=Lib.hid (heap_alloc_new w6 (.cells #[.int .i64 0,.int .i64 0,.string ⟨#[]⟩,.bool false,.int .i64 0,.int .i64 0,.int .i64 0,.int .i64 0] 108));have g0:=frozen_row (o:=0) HT6.out;have g1:=frozen_row (o:=0+1) HT6.out;have g2:=frozen_row (o:=0+2) HT6.out;have g3:=frozen_row (o:=0+3) HT6.out;have g4:=frozen_row (o:=0+4) HT6.out;have g5:=frozen_row (o:=0+5) HT6.out;have g6:=frozen_row (o:=0+6) HT6.out;have g7:=frozen_row (o:=0+7) HT6.out;obtain ⟨z0,z1,z2,z3,z4,z5,z6,z7⟩:=cells8 HT6.out;clear hb))
 ·obtain ⟨WX,hWX⟩:∃ X,X=w6.alloc (.cells #[.int .i64 1,.int .i64 num,.string tx,.bool nt,.int .i64 le,.int .i64 mo,.int .i64 wy,.int .i64 fd] 108):=⟨_,rfl⟩
  have HBX:=Lib.hid (show Below w5.heap.size w5 WX by rw [hWX];exact ((Below.drew (Below.refl _ _)).trans HB6.out).alloc HB6.out.size _)
  have HTX:=Lib.hid (show WX.heap[w6.heap.size]?=some (.cells #[.int .i64 1,.int .i64 num,.string tx,.bool nt,.int .i64 le,.int .i64 mo,.int .i64 wy,.int .i64 fd] 108 (0,0)) by rw [hWX];exact heap_alloc_new w6 _)
  rw [← hWX]
  clear hWX k0 k1 k2 g0 g1 g2 g3 g4 g5 g6 g7 z0 z1 z2 z3 z4 z5 z6 z7 HT6 HB6 c0 c1 c2 c3 f2 a0 a1 a2 d0 d1 d2 CT CT0
  have HSX:=Lib.hid (HS5.out.next HBX.out)
  have HZX:=Lib.hid (row_next HZ5.out HBX.out)
  have HKX:=Lib.hid ((Kept.of (b:=b) HB5.out).trans (Kept.of HBX.out))
  have hsX:=HBX.out.size
  obtain ⟨c0,c1,c2,c3,f2⟩:=HSX.out.rd.cells
  obtain ⟨t0,t1,t2,t3,t4,t5,t6,t7⟩:=cells8 HTX.out
  have HS8:=Lib.hid (HSX.out.moved nx h0 h1)
  have HZ8:=Lib.hid (hz_set (p:=⟨b,2,none⟩) (v:=.int .i64 nx) HZX.out (show w.heap.size≠b by omega))
  have HK8:=Lib.hid (HKX.out.set 2 (.int .i64 nx))
  have HT8:=Lib.hid (hz_set (p:=⟨b,2,none⟩) (v:=.int .i64 nx) HTX.out (by first|exact Nat.ne_of_gt lt5|(have:=HSX.out.lt;show w6.heap.size≠b;omega)))
  go_upto_region 16 with (fail)
  obtain ⟨W8,hW8⟩:∃ X,X=WX.setCell ⟨b,2,none⟩ (.int .i64 nx):=⟨_,rfl⟩
  rw [← hW8] at HS8 HZ8 HK8 HT8 ⊢
  clear hW8 t0 t1 t2 t3 t4 t5 t6 t7 HTX HKX HSX HZX HBX hsX c0 c1 c2 c3 f2
  obtain ⟨t0,t1,t2,t3,t4,t5,t6,t7⟩:=cells8 HT8.out
  repeat (first
   | (go_at_call 186;(with_reducible refine (single52 num _).mono ?_);rintro e w9 ⟨rfl,hg,hb⟩;have HG:=Lib.hid hg;have HB9:=Lib.hid hb;have HZ9:=Lib.hid (row_next HZ8.out hb);have z0:=cell_of_row _ _ 0 _ _ _ HZ9.out;have z1:=cell_of_row _ _ 1 _ _ _ HZ9.out;have f0:=frozen_row (o:=0) HZ9.out;have f1:=frozen_row (o:=1) HZ9.out;clear hg hb)
   | go_values|go_skip|go_guarded|go_step|go_upon|(simp only []))
  (try simp only [Exit.inBlock,Exit.then])
  refine bodyPost_ret (v:=.agg #[.slice (some ⟨W8.heap.size+1,0,none⟩) 1 1,.int .i64 num]) ?_ rfl ?_
  ·rw [results_cell_one rfl]
   go_simp
  ·have hz8:=lt_heap HZ8.out
   exact ⟨((HK8.out.trans (Kept.of HB9.out)).setNew (p:=⟨w.heap.size,0,none⟩) (Nat.le_refl _) _).setNew (p:=⟨w.heap.size,1,none⟩) (Nat.le_refl _) _,[(num,num)],some ⟨W8.heap.size+1,0,none⟩,1,1,one_set hn0 hn1,hK,rfl,one_rds (hz_set (hz_set HG.out (show W8.heap.size+1≠w.heap.size by omega)) (show W8.heap.size+1≠w.heap.size by omega)),((HS8.out.next HB9.out).other hlt 0 _).other hlt 1 _⟩
 ·obtain ⟨WX,hWX⟩:∃ X,X=((((((((w6.setCell ⟨w5.heap.size,0,none⟩ (.int .i64 1)).setCell ⟨w5.heap.size,1,none⟩ (.int .i64 num)).setCell ⟨w5.heap.size,2,none⟩ (.string tx)).setCell ⟨w5.heap.size,3,none⟩ (.bool nt)).setCell ⟨w5.heap.size,4,none⟩ (.int .i64 le)).setCell ⟨w5.heap.size,5,none⟩ (.int .i64 mo)).setCell ⟨w5.heap.size,6,none⟩ (.int .i64 wy)).setCell ⟨w5.heap.size,7,none⟩ (.int .i64 fd)):=⟨_,rfl⟩
  have HBX:=Lib.hid (show Below w5.heap.size w5 WX by rw [hWX];exact put24_below (HBA.out.trans (HB6.out.mono HBA.out.size)) (Nat.le_refl _))
  have HTX:=Lib.hid (show WX.heap[w5.heap.size]?=some (.cells #[.int .i64 1,.int .i64 num,.string tx,.bool nt,.int .i64 le,.int .i64 mo,.int .i64 wy,.int .i64 fd] 108 (0,0)) by rw [hWX];exact put24 HT6.out)
  rw [← hWX]
  clear hWX k0 k1 k2 g0 g1 g2 g3 g4 g5 g6 g7 z0 z1 z2 z3 z4 z5 z6 z7 HT6 HB6 c0 c1 c2 c3 f2 a0 a1 a2 d0 d1 d2 CT CT0
  have HSX:=Lib.hid (HS5.out.next HBX.out)
  have HZX:=Lib.hid (row_next HZ5.out HBX.out)
  have HKX:=Lib.hid ((Kept.of (b:=b) HB5.out).trans (Kept.of HBX.out))
  have hsX:=HBX.out.size
  obtain ⟨c0,c1,c2,c3,f2⟩:=HSX.out.rd.cells
  obtain ⟨t0,t1,t2,t3,t4,t5,t6,t7⟩:=cells8 HTX.out
  have HS8:=Lib.hid (HSX.out.moved nx h0 h1)
  have HZ8:=Lib.hid (hz_set (p:=⟨b,2,none⟩) (v:=.int .i64 nx) HZX.out (show w.heap.size≠b by omega))
  have HK8:=Lib.hid (HKX.out.set 2 (.int .i64 nx))
  have HT8:=Lib.hid (hz_set (p:=⟨b,2,none⟩) (v:=.int .i64 nx) HTX.out (by first|exact Nat.ne_of_gt lt5|(have:=HSX.out.lt;show w6.heap.size≠b;omega)))
  go_upto_region 16 with (fail)
  obtain ⟨W8,hW8⟩:∃ X,X=WX.setCell ⟨b,2,none⟩ (.int .i64 nx):=⟨_,rfl⟩
  rw [← hW8] at HS8 HZ8 HK8 HT8 ⊢
  clear hW8 t0 t1 t2 t3 t4 t5 t6 t7 HTX HKX HSX HZX HBX hsX c0 c1 c2 c3 f2
  obtain ⟨t0,t1,t2,t3,t4,t5,t6,t7⟩:=cells8 HT8.out
  repeat (first
   | (go_at_call 186;(with_reducible refine (single52 num _).mono ?_);rintro e w9 ⟨rfl,hg,hb⟩;have HG:=Lib.hid hg;have HB9:=Lib.hid hb;have HZ9:=Lib.hid (row_next HZ8.out hb);have z0:=cell_of_row _ _ 0 _ _ _ HZ9.out;have z1:=cell_of_row _ _ 1 _ _ _ HZ9.out;have f0:=frozen_row (o:=0) HZ9.out;have f1:=frozen_row (o:=1) HZ9.out;clear hg hb)
   | go_values|go_skip|go_guarded|go_step|go_upon|(simp only []))
  (try simp only [Exit.inBlock,Exit.then])
  refine bodyPost_ret (v:=.agg #[.slice (some ⟨W8.heap.size+1,0,none⟩) 1 1,.int .i64 num]) ?_ rfl ?_
  ·rw [results_cell_one rfl]
   go_simp
  ·have hz8:=lt_heap HZ8.out
   exact ⟨((HK8.out.trans (Kept.of HB9.out)).setNew (p:=⟨w.heap.size,0,none⟩) (Nat.le_refl _) _).setNew (p:=⟨w.heap.size,1,none⟩) (Nat.le_refl _) _,[(num,num)],some ⟨W8.heap.size+1,0,none⟩,1,1,one_set hn0 hn1,hK,rfl,one_rds (hz_set (hz_set HG.out (show W8.heap.size+1≠w.heap.size by omega)) (show W8.heap.size+1≠w.heap.size by omega)),((HS8.out.next HB9.out).other hlt 0 _).other hlt 1 _⟩
set_option maxRecDepth 100000 in
set_option maxHeartbeats 8000000 in
theorem one_tok_class {b n c K:Nat} {dp at_:Int} {fo:Bool} {A:Option Addr} {l:List Int} {w:World} {nx num le mo wy fd:Int} {tx:ByteArray} {nt:Bool} {L:List (Int × Int)} (h:BSt b n c 1 fo dp A l at_ w) (hp:ptAt l at_=92) (hin:at_ < n) (h0:0≤nx) (h1:nx≤n) (hK:201≤K) (HC:∀ W,Calls Tryz.prog 187 #[.string tx,.bool nt] W (ClsItm W (clsF L nt)))
  (C:∀ W,Rds W W.heap.size 1 A n (ints l)→Calls Tryz.prog 113 #[.int .i64 1,.slice A n c,.int .i64 at_] W fun e w'=>e=.returned (.tuple #[.agg #[.int .i64 4,.int .i64 num,.string tx,.bool nt,.int .i64 le,.int .i64 mo,.int .i64 wy,.int .i64 fd],.int .i64 nx,.int .i64 0])∧Below W.heap.size W w') :
  Calls Tryz.prog 143 #[.pointer (some ⟨b,0,none⟩)] w (IOut b n c 1 fo dp A l K (.ok ⟨clsF L nt,-1,nx⟩) w):=by
 have hlt:=h.lt
 have hB0:Below w.heap.size w (w.alloc (.cells #[.slice none 0 0,.int .i64 0] 167)):=(Below.refl _ _).alloc (Nat.le_refl _) _
 have HS0:=Lib.hid (h.next hB0)
 obtain ⟨W0,hW0⟩:∃ X,X=w.alloc (.cells #[.slice none 0 0,.int .i64 0] 167):=⟨_,rfl⟩
 have hs0:W0.heap.size=w.heap.size+1:=by rw [hW0];simp
 have HZ0:=Lib.hid (show W0.heap[w.heap.size]?=some (.cells #[.slice none 0 0,.int .i64 0] 167 (0,0)) by rw [hW0];exact heap_alloc_new w _)
 rw [← hW0] at HS0 hB0
 have HB0:=Lib.hid hB0
 have HS00:=Lib.hid hs0
 clear hB0 hs0
 have hnc:saysB l at_ [91,58]=false:=by simp [saysB,hp]
 have N91:=Lib.hid (show saysB l at_ [91]=false by simp [saysB,hp])
 have N92:=Lib.hid (show saysB l at_ [92]=true by simp [saysB,hp])
 have hlo:=h.lo
 have CN:=Lib.hid (named_none HS0.out hnc)
 clear h hnc
 go_enter Tryz.func143,Tryz.ntmps143
 go_upto_region 1 with (fail)
 rw [← hW0]
 clear hW0
 go_upto_region 4 with (first
  | (go_at_call 184;(with_reducible refine CN.out.mono ?_);rintro e w1 ⟨rfl,hb⟩))
 obtain ⟨W2,hW2⟩:∃ X,X=w1.alloc (.cells #[.slice none 0 0,.int .i64 0] 167):=⟨_,rfl⟩
 have hb2:Below W0.heap.size W0 W2:=by rw [hW2];exact hb.alloc hb.size _
 have HS2:=Lib.hid (HS0.out.next hb2)
 have HZ2:=Lib.hid (row_next HZ0.out hb2)
 have HB2:=Lib.hid (HB0.out.trans (hb2.mono (by have:=HS00.out;omega)))
 rw [← hW2]
 clear hW2 hb hb2 CN HS0 HZ0 HB0 HS00
 obtain ⟨c0,c1,c2,c3,f2⟩:=HS2.out.rd.cells
 have e1:(decide ((n:Int)≤at_))=false:=decide_eq_false (by omega)
 go_quiet (fail)
 go_upto_region 7 with (fail)
 obtain ⟨W3,hW3⟩:∃ X,X=W2.drewN nq:=⟨_,rfl⟩
 have hb3:Below W2.heap.size W2 W3:=by rw [hW3];exact below_drewN (Below.refl _ _) _
 have HS3:=Lib.hid (HS2.out.next hb3)
 have HZ3:=Lib.hid (row_next HZ2.out hb3)
 have HB3:=Lib.hid (HB2.out.trans (hb3.mono HB2.out.size))
 rw [← hW3]
 clear hW3 hb3 HS2 HZ2 HB2 c0 c1 c2 c3 f2 e1
 go_upto_region 10 with (first
  | (go_at_call 116;(with_reducible refine (BSt.is_ (cc:=1) (m:=1) (cs:=[91]) (HS3.out.next ((Below.refl _ _).alloc (Nat.le_refl _) _)) false N91.out (runes_new W3 [91] #[.int .i32 91] 1 rfl rfl) (by simp) (by decide)).mono ?_);rintro e w4 ⟨rfl,q4,hq4⟩;have hb4:Below W3.heap.size W3 w4:=(by rw [hq4];exact below_drewN ((Below.refl _ _).alloc (Nat.le_refl _) _) _);have HS4:=Lib.hid (HS3.out.next hb4);have HZ4:=Lib.hid (row_next HZ3.out hb4);have HB4:=Lib.hid (HB3.out.trans (hb4.mono HB3.out.size));clear hq4 hb4)
  | (go_at_call 116;(with_reducible refine (BSt.is_ (cc:=1) (m:=1) (cs:=[92]) (HS4.out.next ((Below.refl _ _).alloc (Nat.le_refl _) _)) true N92.out (runes_new w4 [92] #[.int .i32 92] 1 rfl rfl) (by simp) (by decide)).mono ?_);rintro e w5 ⟨rfl,q5,hq5⟩;have hb5:Below w4.heap.size w4 w5:=(by rw [hq5];exact below_drewN ((Below.refl _ _).alloc (Nat.le_refl _) _) _);have HS5:=Lib.hid (HS4.out.next hb5);have HZ5:=Lib.hid (row_next HZ4.out hb5);have HB5:=Lib.hid (HB4.out.trans (hb5.mono HB4.out.size));clear hq5 hb5))
 clear HS3 HZ3 HB3 HS4 HZ4 HB4
 obtain ⟨c0,c1,c2,c3,f2⟩:=HS5.out.rd.cells
 have hbA:Below w5.heap.size w5 (World.drew (w5.alloc (.cells #[.int .i64 0,.int .i64 0,.string ⟨#[]⟩,.bool false,.int .i64 0,.int .i64 0,.int .i64 0,.int .i64 0] 108))):=((Below.refl _ _).alloc (Nat.le_refl _) _).drew
 have HBA:=Lib.hid hbA
 have CT:=Lib.hid (C _ ((HS5.out.next hbA).row.more (Nat.le_of_lt (HS5.out.next hbA).lt)))
 have CT0:=Lib.hid (C (World.drew w5) (HS5.out.row.more (Nat.le_of_lt HS5.out.lt)))
 have HTA:=Lib.hid (show (World.drew (w5.alloc (.cells #[.int .i64 0,.int .i64 0,.string ⟨#[]⟩,.bool false,.int .i64 0,.int .i64 0,.int .i64 0,.int .i64 0] 108))).heap[w5.heap.size]?=some (.cells #[.int .i64 0,.int .i64 0,.string ⟨#[]⟩,.bool false,.int .i64 0,.int .i64 0,.int .i64 0,.int .i64 0] 108 (0,0)) from heap_alloc_new w5 _)
 obtain ⟨a0,a1,a2,a3,fa⟩:=(HS5.out.next hbA).rd.cells
 have hlA:=(HS5.out.next hbA).lt
 clear C hbA a3 fa
 have d0:(World.drew w5).cell? ⟨b,0,none⟩=some (.int .i64 1):=c0
 have d1:(World.drew w5).cell? ⟨b,1,none⟩=some (.slice A n c):=c1
 have d2:(World.drew w5).cell? ⟨b,2,none⟩=some (.int .i64 at_):=c2
 have lt5:=HS5.out.lt
 have lz5:=lt_heap HZ5.out
 have N50:(⟨b,0,none⟩:Addr).block≠w5.heap.size:=Nat.ne_of_lt lt5
 have N51:(⟨b,1,none⟩:Addr).block≠w5.heap.size:=Nat.ne_of_lt lt5
 have N52:(⟨b,2,none⟩:Addr).block≠w5.heap.size:=Nat.ne_of_lt lt5
 have HC1:=Lib.hid HC
 clear HC
 go_region_held3 (fun w'=>w'.cell? ⟨b,0,none⟩=some (.int .i64 1)∧w'.cell? ⟨b,1,none⟩=some (.slice A n c)∧w'.cell? ⟨b,2,none⟩=some (.int .i64 at_))
  (first
   | with_reducible exact ⟨c0,c1,c2⟩
   | with_reducible exact ⟨d0,d1,d2⟩
   | with_reducible exact ⟨a0,a1,a2⟩
   | with_reducible exact ⟨k0,k1,k2⟩
   | with_reducible exact ⟨(put24_cell N50).trans k0,(put24_cell N51).trans k1,(put24_cell N52).trans k2⟩
   | with_reducible exact ⟨m0 _,m1 _,m2 _⟩
   | (trace_state;fail))
  (first
   | (go_at_call 113;(with_reducible refine CT.out.mono ?_);rintro e w6 ⟨rfl,hb⟩;have HB6:=Lib.hid hb;have k0:=(hb.cell (p:=⟨b,0,none⟩) hlA).trans a0;have k1:=(hb.cell (p:=⟨b,1,none⟩) hlA).trans a1;have k2:=(hb.cell (p:=⟨b,2,none⟩) hlA).trans a2;have HT6:=Lib.hid (row_next HTA.out hb);have g0:=frozen_row (o:=0) HT6.out;have g1:=frozen_row (o:=0+1) HT6.out;have g2:=frozen_row (o:=0+2) HT6.out;have g3:=frozen_row (o:=0+3) HT6.out;have g4:=frozen_row (o:=0+4) HT6.out;have g5:=frozen_row (o:=0+5) HT6.out;have g6:=frozen_row (o:=0+6) HT6.out;have g7:=frozen_row (o:=0+7) HT6.out;obtain ⟨z0,z1,z2,z3,z4,z5,z6,z7⟩:=cells8 HT6.out;clear hb)
   | (go_at_call 113;(with_reducible refine CT0.out.mono ?_);rintro e w6 ⟨rfl,hb⟩;have HB6:=Lib.hid hb;have k0:=(hb.cell (p:=⟨b,0,none⟩) lt5).trans d0;have k1:=(hb.cell (p:=⟨b,1,none⟩) lt5).trans d1;have k2:=(hb.cell (p:=⟨b,2,none⟩) lt5).trans d2;have lt6:b < w6.heap.size:=Nat.lt_of_lt_of_le lt5 hb.size;have m0:=fun o=>(World.cell?_alloc_lt w6 o ⟨b,0,none⟩ lt6).trans k0;have m1:=fun o=>(World.cell?_alloc_lt w6 o ⟨b,1,none⟩ lt6).trans k1;have m2:=fun o=>(World.cell?_alloc_lt w6 o ⟨b,2,none⟩ lt6).trans k2;have HT6:=Lib.hid (heap_alloc_new w6 (.cells #[.int .i64 0,.int .i64 0,.string ⟨#[]⟩,.bool false,.int .i64 0,.int .i64 0,.int .i64 0,.int .i64 0] 108));have g0:=frozen_row (o:=0) HT6.out;have g1:=frozen_row (o:=0+1) HT6.out;have g2:=frozen_row (o:=0+2) HT6.out;have g3:=frozen_row (o:=0+3) HT6.out;have g4:=frozen_row (o:=0+4) HT6.out;have g5:=frozen_row (o:=0+5) HT6.out;have g6:=frozen_row (o:=0+6) HT6.out;have g7:=frozen_row (o:=0+7) HT6.out;obtain ⟨z0,z1,z2,z3,z4,z5,z6,z7⟩:=cells8 HT6.out;clear hb))
 ·obtain ⟨WX,hWX⟩:∃ X,X=w6.alloc (.cells #[.int .i64 4,.int .i64 num,.string tx,.bool nt,.int .i64 le,.int .i64 mo,.int .i64 wy,.int .i64 fd] 108):=⟨_,rfl⟩
  have HBX:=Lib.hid (show Below w5.heap.size w5 WX by rw [hWX];exact ((Below.drew (Below.refl _ _)).trans HB6.out).alloc HB6.out.size _)
  have HTX:=Lib.hid (show WX.heap[w6.heap.size]?=some (.cells #[.int .i64 4,.int .i64 num,.string tx,.bool nt,.int .i64 le,.int .i64 mo,.int .i64 wy,.int .i64 fd] 108 (0,0)) by rw [hWX];exact heap_alloc_new w6 _)
  rw [← hWX]
  clear hWX k0 k1 k2 g0 g1 g2 g3 g4 g5 g6 g7 z0 z1 z2 z3 z4 z5 z6 z7 HT6 HB6 c0 c1 c2 c3 f2 a0 a1 a2 d0 d1 d2 CT CT0
  have HSX:=Lib.hid (HS5.out.next HBX.out)
  have HZX:=Lib.hid (row_next HZ5.out HBX.out)
  have HKX:=Lib.hid ((Kept.of (b:=b) HB5.out).trans (Kept.of HBX.out))
  have hsX:=HBX.out.size
  obtain ⟨c0,c1,c2,c3,f2⟩:=HSX.out.rd.cells
  obtain ⟨t0,t1,t2,t3,t4,t5,t6,t7⟩:=cells8 HTX.out
  have HS8:=Lib.hid (HSX.out.moved nx h0 h1)
  have HZ8:=Lib.hid (hz_set (p:=⟨b,2,none⟩) (v:=.int .i64 nx) HZX.out (show w.heap.size≠b by omega))
  have HK8:=Lib.hid (HKX.out.set 2 (.int .i64 nx))
  have HT8:=Lib.hid (hz_set (p:=⟨b,2,none⟩) (v:=.int .i64 nx) HTX.out (by first|exact Nat.ne_of_gt lt5|(have:=HSX.out.lt;show w6.heap.size≠b;omega)))
  go_upto_region 19 with (fail)
  obtain ⟨W8,hW8⟩:∃ X,X=WX.setCell ⟨b,2,none⟩ (.int .i64 nx):=⟨_,rfl⟩
  rw [← hW8] at HS8 HZ8 HK8 HT8 ⊢
  clear hW8 t0 t1 t2 t3 t4 t5 t6 t7 HTX HKX HSX HZX HBX hsX c0 c1 c2 c3 f2
  obtain ⟨t0,t1,t2,t3,t4,t5,t6,t7⟩:=cells8 HT8.out
  repeat (first
   | (go_at_call 187;(with_reducible refine (HC1.out _).mono ?_);rintro e w9 ⟨out,A9,n9,c9,rfl,hset,hln,hown,hb⟩;have HSET:=Lib.hid hset;have HLN:=Lib.hid hln;have HO9:=Lib.hid hown;have HB9:=Lib.hid hb;have HZ9:=Lib.hid (row_next HZ8.out hb);have z0:=cell_of_row _ _ 0 _ _ _ HZ9.out;have z1:=cell_of_row _ _ 1 _ _ _ HZ9.out;have f0:=frozen_row (o:=0) HZ9.out;have f1:=frozen_row (o:=1) HZ9.out;clear hset hln hown hb)
   | go_values|go_skip|go_guarded|go_step|go_upon|(simp only []))
  (try simp only [Exit.inBlock,Exit.then])
  refine bodyPost_ret (v:=.agg #[.slice A9 n9 c9,.int .i64 (-1)]) ?_ rfl ?_
  ·rw [results_cell_one rfl]
   go_simp
  ·have hz8:=lt_heap HZ8.out
   exact ⟨((HK8.out.trans (Kept.of HB9.out)).setNew (p:=⟨w.heap.size,0,none⟩) (Nat.le_refl _) _).setNew (p:=⟨w.heap.size,1,none⟩) (Nat.le_refl _) _,out,A9,n9,c9,HSET.out,Nat.le_trans HLN.out hK,rfl,Rds.of_own (own_keptb HO9.out (((Kept.refl w.heap.size w9).set 0 _).set 1 _) hz8),((HS8.out.next HB9.out).other hlt 0 _).other hlt 1 _⟩
 ·obtain ⟨WX,hWX⟩:∃ X,X=((((((((w6.setCell ⟨w5.heap.size,0,none⟩ (.int .i64 4)).setCell ⟨w5.heap.size,1,none⟩ (.int .i64 num)).setCell ⟨w5.heap.size,2,none⟩ (.string tx)).setCell ⟨w5.heap.size,3,none⟩ (.bool nt)).setCell ⟨w5.heap.size,4,none⟩ (.int .i64 le)).setCell ⟨w5.heap.size,5,none⟩ (.int .i64 mo)).setCell ⟨w5.heap.size,6,none⟩ (.int .i64 wy)).setCell ⟨w5.heap.size,7,none⟩ (.int .i64 fd)):=⟨_,rfl⟩
  have HBX:=Lib.hid (show Below w5.heap.size w5 WX by rw [hWX];exact put24_below (HBA.out.trans (HB6.out.mono HBA.out.size)) (Nat.le_refl _))
  have HTX:=Lib.hid (show WX.heap[w5.heap.size]?=some (.cells #[.int .i64 4,.int .i64 num,.string tx,.bool nt,.int .i64 le,.int .i64 mo,.int .i64 wy,.int .i64 fd] 108 (0,0)) by rw [hWX];exact put24 HT6.out)
  rw [← hWX]
  clear hWX k0 k1 k2 g0 g1 g2 g3 g4 g5 g6 g7 z0 z1 z2 z3 z4 z5 z6 z7 HT6 HB6 c0 c1 c2 c3 f2 a0 a1 a2 d0 d1 d2 CT CT0
  have HSX:=Lib.hid (HS5.out.next HBX.out)
  have HZX:=Lib.hid (row_next HZ5.out HBX.out)
  have HKX:=Lib.hid ((Kept.of (b:=b) HB5.out).trans (Kept.of HBX.out))
  have hsX:=HBX.out.size
  obtain ⟨c0,c1,c2,c3,f2⟩:=HSX.out.rd.cells
  obtain ⟨t0,t1,t2,t3,t4,t5,t6,t7⟩:=cells8 HTX.out
  have HS8:=Lib.hid (HSX.out.moved nx h0 h1)
  have HZ8:=Lib.hid (hz_set (p:=⟨b,2,none⟩) (v:=.int .i64 nx) HZX.out (show w.heap.size≠b by omega))
  have HK8:=Lib.hid (HKX.out.set 2 (.int .i64 nx))
  have HT8:=Lib.hid (hz_set (p:=⟨b,2,none⟩) (v:=.int .i64 nx) HTX.out (by first|exact Nat.ne_of_gt lt5|(have:=HSX.out.lt;show w6.heap.size≠b;omega)))
  go_upto_region 19 with (fail)
  obtain ⟨W8,hW8⟩:∃ X,X=WX.setCell ⟨b,2,none⟩ (.int .i64 nx):=⟨_,rfl⟩
  rw [← hW8] at HS8 HZ8 HK8 HT8 ⊢
  clear hW8 t0 t1 t2 t3 t4 t5 t6 t7 HTX HKX HSX HZX HBX hsX c0 c1 c2 c3 f2
  obtain ⟨t0,t1,t2,t3,t4,t5,t6,t7⟩:=cells8 HT8.out
  repeat (first
   | (go_at_call 187;(with_reducible refine (HC1.out _).mono ?_);rintro e w9 ⟨out,A9,n9,c9,rfl,hset,hln,hown,hb⟩;have HSET:=Lib.hid hset;have HLN:=Lib.hid hln;have HO9:=Lib.hid hown;have HB9:=Lib.hid hb;have HZ9:=Lib.hid (row_next HZ8.out hb);have z0:=cell_of_row _ _ 0 _ _ _ HZ9.out;have z1:=cell_of_row _ _ 1 _ _ _ HZ9.out;have f0:=frozen_row (o:=0) HZ9.out;have f1:=frozen_row (o:=1) HZ9.out;clear hset hln hown hb)
   | go_values|go_skip|go_guarded|go_step|go_upon|(simp only []))
  (try simp only [Exit.inBlock,Exit.then])
  refine bodyPost_ret (v:=.agg #[.slice A9 n9 c9,.int .i64 (-1)]) ?_ rfl ?_
  ·rw [results_cell_one rfl]
   go_simp
  ·have hz8:=lt_heap HZ8.out
   exact ⟨((HK8.out.trans (Kept.of HB9.out)).setNew (p:=⟨w.heap.size,0,none⟩) (Nat.le_refl _) _).setNew (p:=⟨w.heap.size,1,none⟩) (Nat.le_refl _) _,out,A9,n9,c9,HSET.out,Nat.le_trans HLN.out hK,rfl,Rds.of_own (own_keptb HO9.out (((Kept.refl w.heap.size w9).set 0 _).set 1 _) hz8),((HS8.out.next HB9.out).other hlt 0 _).other hlt 1 _⟩
end Go.Proofs.YtbiahhojnjchnaaGreat
