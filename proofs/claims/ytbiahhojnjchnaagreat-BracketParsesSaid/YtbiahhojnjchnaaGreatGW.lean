/-
  A span of a bracket expression that has a - in it, over the contract of an item: walked. A span of two items: walked. A span of a bracket expression in general, over the contract of an item.
-/
import Derived.Test.YtbiahhojnjchnaaGreatGV
import Derived.Test.YtbiahhojnjchnaaGreatGU
set_option linter.unusedVariables false
set_option linter.unusedSimpArgs false
namespace Go.Proofs.YtbiahhojnjchnaaGreat
open Go.RowKit
theorem span_err {b n c K:Nat} {d dp:Int} {fo:Bool} {A:Option Addr} {l:List Int} {w:World} {q:Int × Int}
  (C:Calls Tryz.prog 143 #[.pointer (some ⟨b,0,none⟩)] w (IOut b n c d fo dp A l K (.error q) w)) :
  Calls Tryz.prog 117 #[.pointer (some ⟨b,0,none⟩)] w (SOut b n c d fo dp A l K (.error q) w):=by
 have C1:=Lib.hid C
 clear C
 go_enter Tryz.func117,Tryz.ntmps117
 go_wp2_with (go_at_call 143;(with_reducible refine C1.out.mono ?_);rintro e w1 ⟨hk,he⟩;obtain rfl:=(show e=_ from he))
 exact ⟨rfl,hk,rfl⟩
set_option maxRecDepth 100000 in
set_option maxHeartbeats 8000000 in
theorem span_end {b n c K:Nat} {d dp at_:Int} {fo:Bool} {A:Option Addr} {l:List Int} {w:World} {f:Int→Prop} {pt nx:Int} (hlt:b < w.heap.size) (hsm:n≤300) (hlen:l.length=n) (hnx:0≤nx)
  (C:Calls Tryz.prog 143 #[.pointer (some ⟨b,0,none⟩)] w (IOut b n c d fo dp A l K (.ok ⟨f,pt,nx⟩) w)) (h1:saysB l nx [45]=true) (h2:saysB l nx [45,93]=false) (h3:0≤pt) (hend:(n:Int)≤nx+1) :
  Calls Tryz.prog 117 #[.pointer (some ⟨b,0,none⟩)] w (SOut b n c d fo dp A l K (.error (1,nx+1)) w):=by
 have C1:=Lib.hid C
 have hp45:ptAt l nx=45:=by simpa [saysB] using h1
 have hx:=pt_hi hlen (show 0≤ptAt l nx by omega)
 obtain ⟨hx0,hx1⟩:=hx
 have N1:=Lib.hid h1
 have N2:=Lib.hid h2
 clear C h1 h2 hp45
 go_enter Tryz.func117,Tryz.ntmps117
 go_upto_region 2 with (first
  | (go_at_call 143;(with_reducible refine C1.out.mono ?_);rintro e w1 ⟨hk,out,A',n',c',hset,hln,rfl,hr,hS⟩))
 obtain ⟨W2,hW2⟩:∃ X,X=w1.alloc (.cells #[.slice A' n' c',.int .i64 pt] 167):=⟨_,rfl⟩
 have hb2:Below w1.heap.size w1 W2:=by rw [hW2];exact (Below.refl _ _).alloc (Nat.le_refl _) _
 have HS2:=Lib.hid (hS.next hb2)
 have HR2:=Lib.hid ((hr.below hb2 (Nat.le_refl _)).more (B':=W2.heap.size) hb2.size)
 have HK2:=Lib.hid (hk.trans (Kept.of hb2))
 have HC2:=Lib.hid (show W2.heap[w1.heap.size]?=some (.cells #[.slice A' n' c',.int .i64 pt] 167 (0,0)) by rw [hW2];exact heap_alloc_new w1 _)
 have HSET:=Lib.hid hset
 rw [← hW2]
 have hs1:b < w1.heap.size:=hS.lt
 clear hW2 hS hr hk hb2 hset C1
 have p0:(decide (pt < 0))=false:=decide_eq_false (by omega)
 have W1:IntKind.i64.wrap (nx+1)=nx+1:=IntWalk.i64_in _ (by omega)
 go_upto_region 4 with (first
  | (go_at_call 116;(with_reducible refine (BSt.is_ (cc:=1) (m:=1) (cs:=[45]) (HS2.out.next ((Below.refl _ _).alloc (Nat.le_refl _) _)) true N1.out (runes_new W2 [45] #[.int .i32 45] 1 rfl rfl) (by simp) (by decide)).mono ?_);rintro e w3 ⟨rfl,q4,hq4⟩;have hb4:Below W2.heap.size W2 w3:=(by rw [hq4];exact below_drewN ((Below.refl _ _).alloc (Nat.le_refl _) _) _);have HS3:=Lib.hid (HS2.out.next hb4);have HC3:=Lib.hid (row_next HC2.out hb4);have HR3:=Lib.hid ((HR2.out.below hb4 (Nat.le_refl _)).more hb4.size);have HK3:=Lib.hid (HK2.out.trans (Kept.of hb4));clear hq4 hb4)
  | (go_at_call 116;(with_reducible refine (BSt.is_ (cc:=2) (m:=2) (cs:=[45,93]) (HS3.out.next ((Below.refl _ _).alloc (Nat.le_refl _) _)) false N2.out (runes_new w3 [45,93] #[.int .i32 45,.int .i32 93] 2 rfl rfl) (by simp) (by decide)).mono ?_);rintro e w4 ⟨rfl,q4,hq4⟩;have hb4:Below w3.heap.size w3 w4:=(by rw [hq4];exact below_drewN ((Below.refl _ _).alloc (Nat.le_refl _) _) _);have HS4:=Lib.hid (HS3.out.next hb4);have HC4:=Lib.hid (row_next HC3.out hb4);have HR4:=Lib.hid ((HR3.out.below hb4 (Nat.le_refl _)).more hb4.size);have HK4:=Lib.hid (HK3.out.trans (Kept.of hb4));clear hq4 hb4;have c1:=cell_of_row _ _ 1 _ _ _ HC4.out))
 obtain ⟨c0,c1',c2,c3,f2⟩:=HS4.out.rd.cells
 have e1:(decide ((n:Int)≤nx+1))=true:=decide_eq_true hend
 go_wp2_with (go_at_call 59;(with_reducible refine (fail21 1 (nx+1) _).mono ?_);rintro e w' ⟨rfl,rfl⟩)
 exact ⟨rfl,HK4.out,rfl⟩
set_option maxRecDepth 100000 in
set_option maxHeartbeats 8000000 in
theorem span_open {b n c K:Nat} {d dp at_:Int} {fo:Bool} {A:Option Addr} {l:List Int} {w:World} {f:Int→Prop} {pt nx:Int} (hlt:b < w.heap.size) (hsm:n≤300) (hlen:l.length=n) (hnx:0≤nx)
  (C:Calls Tryz.prog 143 #[.pointer (some ⟨b,0,none⟩)] w (IOut b n c d fo dp A l K (.ok ⟨f,pt,nx⟩) w)) (h1:saysB l nx [45]=true) (h2:saysB l nx [45,93]=false) (h3:0≤pt) (hin:nx+1 < n) (h4:saysB l (nx+1) [91,58]=true∨(d=1∧ptAt l (nx+1)=91)) :
  Calls Tryz.prog 117 #[.pointer (some ⟨b,0,none⟩)] w (SOut b n c d fo dp A l K (.error (1,nx+1)) w):=by
 have C1:=Lib.hid C
 have hp45:ptAt l nx=45:=by simpa [saysB] using h1
 have hx:=pt_hi hlen (show 0≤ptAt l nx by omega)
 obtain ⟨hx0,hx1⟩:=hx
 have N1:=Lib.hid h1
 have N2:=Lib.hid h2
 clear C h1 h2 hp45
 have h4':saysB l (nx+1) [91,58]=true∨(saysB l (nx+1) [91,58]=false∧d=1∧saysB l (nx+1) [91]=true):=by
  cases h5:saysB l (nx+1) [91,58]
  ·rw [h5] at h4
   simp at h4
   exact .inr ⟨rfl,h4.1,by simp [saysB,h4.2]⟩
  ·exact .inl rfl
 clear h4
 rcases h4' with h4|⟨h4,rfl,h5⟩
 ·have N3:=Lib.hid h4
  clear h4
  go_enter Tryz.func117,Tryz.ntmps117
  go_upto_region 2 with (first
   | (go_at_call 143;(with_reducible refine C1.out.mono ?_);rintro e w1 ⟨hk,out,A',n',c',hset,hln,rfl,hr,hS⟩))
  obtain ⟨W2,hW2⟩:∃ X,X=w1.alloc (.cells #[.slice A' n' c',.int .i64 pt] 167):=⟨_,rfl⟩
  have hb2:Below w1.heap.size w1 W2:=by rw [hW2];exact (Below.refl _ _).alloc (Nat.le_refl _) _
  have HS2:=Lib.hid (hS.next hb2)
  have HR2:=Lib.hid ((hr.below hb2 (Nat.le_refl _)).more (B':=W2.heap.size) hb2.size)
  have HK2:=Lib.hid (hk.trans (Kept.of hb2))
  have HC2:=Lib.hid (show W2.heap[w1.heap.size]?=some (.cells #[.slice A' n' c',.int .i64 pt] 167 (0,0)) by rw [hW2];exact heap_alloc_new w1 _)
  have HSET:=Lib.hid hset
  rw [← hW2]
  have hs1:b < w1.heap.size:=hS.lt
  clear hW2 hS hr hk hb2 hset C1
  have p0:(decide (pt < 0))=false:=decide_eq_false (by omega)
  have W1:IntKind.i64.wrap (nx+1)=nx+1:=IntWalk.i64_in _ (by omega)
  go_upto_region 4 with (first
   | (go_at_call 116;(with_reducible refine (BSt.is_ (cc:=1) (m:=1) (cs:=[45]) (HS2.out.next ((Below.refl _ _).alloc (Nat.le_refl _) _)) true N1.out (runes_new W2 [45] #[.int .i32 45] 1 rfl rfl) (by simp) (by decide)).mono ?_);rintro e w3 ⟨rfl,q4,hq4⟩;have hb4:Below W2.heap.size W2 w3:=(by rw [hq4];exact below_drewN ((Below.refl _ _).alloc (Nat.le_refl _) _) _);have HS3:=Lib.hid (HS2.out.next hb4);have HC3:=Lib.hid (row_next HC2.out hb4);have HR3:=Lib.hid ((HR2.out.below hb4 (Nat.le_refl _)).more hb4.size);have HK3:=Lib.hid (HK2.out.trans (Kept.of hb4));clear hq4 hb4)
   | (go_at_call 116;(with_reducible refine (BSt.is_ (cc:=2) (m:=2) (cs:=[45,93]) (HS3.out.next ((Below.refl _ _).alloc (Nat.le_refl _) _)) false N2.out (runes_new w3 [45,93] #[.int .i32 45,.int .i32 93] 2 rfl rfl) (by simp) (by decide)).mono ?_);rintro e w4 ⟨rfl,q4,hq4⟩;have hb4:Below w3.heap.size w3 w4:=(by rw [hq4];exact below_drewN ((Below.refl _ _).alloc (Nat.le_refl _) _) _);have HS4:=Lib.hid (HS3.out.next hb4);have HC4:=Lib.hid (row_next HC3.out hb4);have HR4:=Lib.hid ((HR3.out.below hb4 (Nat.le_refl _)).more hb4.size);have HK4:=Lib.hid (HK3.out.trans (Kept.of hb4));clear hq4 hb4;have c1:=cell_of_row _ _ 1 _ _ _ HC4.out))
  obtain ⟨c0,c1',c2,c3,f2⟩:=HS4.out.rd.cells
  have e1:(decide ((n:Int)≤nx+1))=false:=decide_eq_false (by omega)
  go_upto_region 8 with (fail)
  obtain ⟨W6,hW6⟩:∃ X,X=w4.setCell ⟨b,2,none⟩ (.int .i64 (nx+1)):=⟨_,rfl⟩
  have HS6:=Lib.hid (show BSt b n c d fo dp A l (nx+1) W6 by rw [hW6];exact HS4.out.moved _ (by omega) (by omega))
  have HC6:=Lib.hid (show W6.heap[w1.heap.size]?=some (.cells #[.slice A' n' c',.int .i64 pt] 167 (0,0)) by rw [hW6];exact hz_set HC4.out (show w1.heap.size≠b by omega))
  have HK6:=Lib.hid (show Kept b w W6 by rw [hW6];exact HK4.out.set 2 _)
  rw [← hW6]
  clear hW6 c0 c1' c2 c3 f2 W1 e1 HS4 HC4 HK4
  obtain ⟨c0,c1',c2,c3,f2⟩:=HS6.out.rd.cells
  go_wp2_with (first
   | (go_at_call 116;(with_reducible refine (BSt.is_ (cc:=2) (m:=2) (cs:=[91,58]) (HS6.out.next ((Below.refl _ _).alloc (Nat.le_refl _) _)) true N3.out (runes_new W6 [91,58] #[.int .i32 91,.int .i32 58] 2 rfl rfl) (by simp) (by decide)).mono ?_);rintro e w7 ⟨rfl,q4,hq4⟩;have hb4:Below W6.heap.size W6 w7:=(by rw [hq4];exact below_drewN ((Below.refl _ _).alloc (Nat.le_refl _) _) _);have HS7:=Lib.hid (HS6.out.next hb4);have HC7:=Lib.hid (row_next HC6.out hb4);have HK7:=Lib.hid (HK6.out.trans (Kept.of hb4));clear hq4 hb4)
   | (go_at_call 59;(with_reducible refine (fail21 1 (nx+1) _).mono ?_);rintro e w' ⟨rfl,rfl⟩))
  exact ⟨rfl,HK7.out,rfl⟩
 ·have N3:=Lib.hid h4
  have N4:=Lib.hid h5
  clear h4 h5
  go_enter Tryz.func117,Tryz.ntmps117
  go_upto_region 2 with (first
   | (go_at_call 143;(with_reducible refine C1.out.mono ?_);rintro e w1 ⟨hk,out,A',n',c',hset,hln,rfl,hr,hS⟩))
  obtain ⟨W2,hW2⟩:∃ X,X=w1.alloc (.cells #[.slice A' n' c',.int .i64 pt] 167):=⟨_,rfl⟩
  have hb2:Below w1.heap.size w1 W2:=by rw [hW2];exact (Below.refl _ _).alloc (Nat.le_refl _) _
  have HS2:=Lib.hid (hS.next hb2)
  have HR2:=Lib.hid ((hr.below hb2 (Nat.le_refl _)).more (B':=W2.heap.size) hb2.size)
  have HK2:=Lib.hid (hk.trans (Kept.of hb2))
  have HC2:=Lib.hid (show W2.heap[w1.heap.size]?=some (.cells #[.slice A' n' c',.int .i64 pt] 167 (0,0)) by rw [hW2];exact heap_alloc_new w1 _)
  have HSET:=Lib.hid hset
  rw [← hW2]
  have hs1:b < w1.heap.size:=hS.lt
  clear hW2 hS hr hk hb2 hset C1
  have p0:(decide (pt < 0))=false:=decide_eq_false (by omega)
  have W1:IntKind.i64.wrap (nx+1)=nx+1:=IntWalk.i64_in _ (by omega)
  go_upto_region 4 with (first
   | (go_at_call 116;(with_reducible refine (BSt.is_ (cc:=1) (m:=1) (cs:=[45]) (HS2.out.next ((Below.refl _ _).alloc (Nat.le_refl _) _)) true N1.out (runes_new W2 [45] #[.int .i32 45] 1 rfl rfl) (by simp) (by decide)).mono ?_);rintro e w3 ⟨rfl,q4,hq4⟩;have hb4:Below W2.heap.size W2 w3:=(by rw [hq4];exact below_drewN ((Below.refl _ _).alloc (Nat.le_refl _) _) _);have HS3:=Lib.hid (HS2.out.next hb4);have HC3:=Lib.hid (row_next HC2.out hb4);have HR3:=Lib.hid ((HR2.out.below hb4 (Nat.le_refl _)).more hb4.size);have HK3:=Lib.hid (HK2.out.trans (Kept.of hb4));clear hq4 hb4)
   | (go_at_call 116;(with_reducible refine (BSt.is_ (cc:=2) (m:=2) (cs:=[45,93]) (HS3.out.next ((Below.refl _ _).alloc (Nat.le_refl _) _)) false N2.out (runes_new w3 [45,93] #[.int .i32 45,.int .i32 93] 2 rfl rfl) (by simp) (by decide)).mono ?_);rintro e w4 ⟨rfl,q4,hq4⟩;have hb4:Below w3.heap.size w3 w4:=(by rw [hq4];exact below_drewN ((Below.refl _ _).alloc (Nat.le_refl _) _) _);have HS4:=Lib.hid (HS3.out.next hb4);have HC4:=Lib.hid (row_next HC3.out hb4);have HR4:=Lib.hid ((HR3.out.below hb4 (Nat.le_refl _)).more hb4.size);have HK4:=Lib.hid (HK3.out.trans (Kept.of hb4));clear hq4 hb4;have c1:=cell_of_row _ _ 1 _ _ _ HC4.out))
  obtain ⟨c0,c1',c2,c3,f2⟩:=HS4.out.rd.cells
  have e1:(decide ((n:Int)≤nx+1))=false:=decide_eq_false (by omega)
  go_upto_region 8 with (fail)
  obtain ⟨W6,hW6⟩:∃ X,X=w4.setCell ⟨b,2,none⟩ (.int .i64 (nx+1)):=⟨_,rfl⟩
  have HS6:=Lib.hid (show BSt b n c 1 fo dp A l (nx+1) W6 by rw [hW6];exact HS4.out.moved _ (by omega) (by omega))
  have HC6:=Lib.hid (show W6.heap[w1.heap.size]?=some (.cells #[.slice A' n' c',.int .i64 pt] 167 (0,0)) by rw [hW6];exact hz_set HC4.out (show w1.heap.size≠b by omega))
  have HK6:=Lib.hid (show Kept b w W6 by rw [hW6];exact HK4.out.set 2 _)
  rw [← hW6]
  clear hW6 c0 c1' c2 c3 f2 W1 e1 HS4 HC4 HK4
  obtain ⟨c0,c1',c2,c3,f2⟩:=HS6.out.rd.cells
  go_wp2_with (first
   | (go_at_call 116;(with_reducible refine (BSt.is_ (cc:=2) (m:=2) (cs:=[91,58]) (HS6.out.next ((Below.refl _ _).alloc (Nat.le_refl _) _)) false N3.out (runes_new W6 [91,58] #[.int .i32 91,.int .i32 58] 2 rfl rfl) (by simp) (by decide)).mono ?_);rintro e w7 ⟨rfl,q4,hq4⟩;have hb4:Below W6.heap.size W6 w7:=(by rw [hq4];exact below_drewN ((Below.refl _ _).alloc (Nat.le_refl _) _) _);have HS7:=Lib.hid (HS6.out.next hb4);have HC7:=Lib.hid (row_next HC6.out hb4);have HK7:=Lib.hid (HK6.out.trans (Kept.of hb4));clear hq4 hb4;clear c0 c1' c2 c3 f2;obtain ⟨c0,c1',c2,c3,f2⟩:=HS7.out.rd.cells)
   | (go_at_call 116;(with_reducible refine (BSt.is_ (cc:=1) (m:=1) (cs:=[91]) (HS7.out.next ((Below.refl _ _).alloc (Nat.le_refl _) _)) true N4.out (runes_new w7 [91] #[.int .i32 91] 1 rfl rfl) (by simp) (by decide)).mono ?_);rintro e w8 ⟨rfl,q4,hq4⟩;have hb4:Below w7.heap.size w7 w8:=(by rw [hq4];exact below_drewN ((Below.refl _ _).alloc (Nat.le_refl _) _) _);have HS8:=Lib.hid (HS7.out.next hb4);have HC8:=Lib.hid (row_next HC7.out hb4);have HK8:=Lib.hid (HK7.out.trans (Kept.of hb4));clear hq4 hb4)
   | (go_at_call 59;(with_reducible refine (fail21 1 (nx+1) _).mono ?_);rintro e w' ⟨rfl,rfl⟩))
  exact ⟨rfl,HK8.out,rfl⟩
end Go.Proofs.YtbiahhojnjchnaaGreat
namespace Go.Proofs.YtbiahhojnjchnaaGreat
open Go.RowKit
/-- what two items with a - between them tell -/
theorem set_one {x y:Int} (h0:0≤x) (h1:x≤y) (h2:y≤1114111):IsSet [(x,y)] (fun p=>x≤p∧p≤y) :=
 ⟨⟨fun r hr=>by obtain rfl:=List.mem_singleton.1 hr;rw [okR_iff];exact ⟨h0,h1,h2⟩,List.pairwise_singleton _ _⟩,fun p=>by simp [mem]⟩
set_option maxRecDepth 100000 in
set_option maxHeartbeats 8000000 in
theorem span_pair {b n c K:Nat} {d dp at_:Int} {fo:Bool} {A:Option Addr} {l:List Int} {w:World} {f:Int→Prop} {pt nx:Int} (hlt:b < w.heap.size) (hsm:n≤300) (hlen:l.length=n) (hnx:0≤nx)
  (C:Calls Tryz.prog 143 #[.pointer (some ⟨b,0,none⟩)] w (IOut b n c d fo dp A l K (.ok ⟨f,pt,nx⟩) w)) (h1:saysB l nx [45]=true) (h2:saysB l nx [45,93]=false) (h3:0≤pt) (hin:nx+1 < n) (h4:saysB l (nx+1) [91,58]=false) (h5:d=1→ptAt l (nx+1)≠91) (hK:1≤K) (r:BR Itm) (hr0:∀ i,r=.ok i→i.pt≤1114111) (CC:∀ W,BSt b n c d fo dp A l (nx+1) W→Calls Tryz.prog 143 #[.pointer (some ⟨b,0,none⟩)] W (IOut b n c d fo dp A l K r W)) :
  Calls Tryz.prog 117 #[.pointer (some ⟨b,0,none⟩)] w (SOut b n c d fo dp A l K (pairP pt (nx+1) r) w):=by
 have C1:=Lib.hid C
 have hp45:ptAt l nx=45:=by simpa [saysB] using h1
 have hx:=pt_hi hlen (show 0≤ptAt l nx by omega)
 obtain ⟨hx0,hx1⟩:=hx
 have N1:=Lib.hid h1
 have N2:=Lib.hid h2
 clear C h1 h2 hp45
 have N3:=Lib.hid h4
 have CC:=Lib.hid CC
 clear h4
 by_cases hd:d=1
 ·subst hd
  have N4:=Lib.hid (show saysB l (nx+1) [91]=false by simp [saysB,h5 rfl])
  clear h5
  cases r with
  | error q =>
   go_enter Tryz.func117,Tryz.ntmps117
   go_upto_region 2 with (first
    | (go_at_call 143;(with_reducible refine C1.out.mono ?_);rintro e w1 ⟨hk,out,A',n',c',hset,hln,rfl,hr,hS⟩))
   obtain ⟨W2,hW2⟩:∃ X,X=w1.alloc (.cells #[.slice A' n' c',.int .i64 pt] 167):=⟨_,rfl⟩
   have hb2:Below w1.heap.size w1 W2:=by rw [hW2];exact (Below.refl _ _).alloc (Nat.le_refl _) _
   have HS2:=Lib.hid (hS.next hb2)
   have HR2:=Lib.hid ((hr.below hb2 (Nat.le_refl _)).more (B':=W2.heap.size) hb2.size)
   have HK2:=Lib.hid (hk.trans (Kept.of hb2))
   have HC2:=Lib.hid (show W2.heap[w1.heap.size]?=some (.cells #[.slice A' n' c',.int .i64 pt] 167 (0,0)) by rw [hW2];exact heap_alloc_new w1 _)
   have HSET:=Lib.hid hset
   rw [← hW2]
   have hs1:b < w1.heap.size:=hS.lt
   clear hW2 hS hr hk hb2 hset C1
   have p0:(decide (pt < 0))=false:=decide_eq_false (by omega)
   have W1:IntKind.i64.wrap (nx+1)=nx+1:=IntWalk.i64_in _ (by omega)
   go_upto_region 4 with (first
    | (go_at_call 116;(with_reducible refine (BSt.is_ (cc:=1) (m:=1) (cs:=[45]) (HS2.out.next ((Below.refl _ _).alloc (Nat.le_refl _) _)) true N1.out (runes_new W2 [45] #[.int .i32 45] 1 rfl rfl) (by simp) (by decide)).mono ?_);rintro e w3 ⟨rfl,q4,hq4⟩;have hb4:Below W2.heap.size W2 w3:=(by rw [hq4];exact below_drewN ((Below.refl _ _).alloc (Nat.le_refl _) _) _);have HS3:=Lib.hid (HS2.out.next hb4);have HC3:=Lib.hid (row_next HC2.out hb4);have HR3:=Lib.hid ((HR2.out.below hb4 (Nat.le_refl _)).more hb4.size);have HK3:=Lib.hid (HK2.out.trans (Kept.of hb4));clear hq4 hb4)
    | (go_at_call 116;(with_reducible refine (BSt.is_ (cc:=2) (m:=2) (cs:=[45,93]) (HS3.out.next ((Below.refl _ _).alloc (Nat.le_refl _) _)) false N2.out (runes_new w3 [45,93] #[.int .i32 45,.int .i32 93] 2 rfl rfl) (by simp) (by decide)).mono ?_);rintro e w4 ⟨rfl,q4,hq4⟩;have hb4:Below w3.heap.size w3 w4:=(by rw [hq4];exact below_drewN ((Below.refl _ _).alloc (Nat.le_refl _) _) _);have HS4:=Lib.hid (HS3.out.next hb4);have HC4:=Lib.hid (row_next HC3.out hb4);have HR4:=Lib.hid ((HR3.out.below hb4 (Nat.le_refl _)).more hb4.size);have HK4:=Lib.hid (HK3.out.trans (Kept.of hb4));clear hq4 hb4;have c1:=cell_of_row _ _ 1 _ _ _ HC4.out))
   obtain ⟨c0,c1',c2,c3,f2⟩:=HS4.out.rd.cells
   have e1:(decide ((n:Int)≤nx+1))=false:=decide_eq_false (by omega)
   go_upto_region 8 with (fail)
   obtain ⟨W6,hW6⟩:∃ X,X=w4.setCell ⟨b,2,none⟩ (.int .i64 (nx+1)):=⟨_,rfl⟩
   have HS6:=Lib.hid (show BSt b n c 1 fo dp A l (nx+1) W6 by rw [hW6];exact HS4.out.moved _ (by omega) (by omega))
   have HC6:=Lib.hid (show W6.heap[w1.heap.size]?=some (.cells #[.slice A' n' c',.int .i64 pt] 167 (0,0)) by rw [hW6];exact hz_set HC4.out (show w1.heap.size≠b by omega))
   have HK6:=Lib.hid (show Kept b w W6 by rw [hW6];exact HK4.out.set 2 _)
   rw [← hW6]
   clear hW6 c0 c1' c2 c3 f2 W1 e1 HS4 HC4 HK4
   obtain ⟨c0,c1',c2,c3,f2⟩:=HS6.out.rd.cells
   go_upto_region 10 with (first
    | (go_at_call 116;(with_reducible refine (BSt.is_ (cc:=2) (m:=2) (cs:=[91,58]) (HS6.out.next ((Below.refl _ _).alloc (Nat.le_refl _) _)) false N3.out (runes_new W6 [91,58] #[.int .i32 91,.int .i32 58] 2 rfl rfl) (by simp) (by decide)).mono ?_);rintro e w7 ⟨rfl,q4,hq4⟩;have hb4:Below W6.heap.size W6 w7:=(by rw [hq4];exact below_drewN ((Below.refl _ _).alloc (Nat.le_refl _) _) _);have HS7:=Lib.hid (HS6.out.next hb4);have HC7:=Lib.hid (row_next HC6.out hb4);have HK7:=Lib.hid (HK6.out.trans (Kept.of hb4));clear hq4 hb4;clear c0 c1' c2 c3 f2;obtain ⟨c0,c1',c2,c3,f2⟩:=HS7.out.rd.cells)
    | (go_at_call 116;(with_reducible refine (BSt.is_ (cc:=1) (m:=1) (cs:=[91]) (HS7.out.next ((Below.refl _ _).alloc (Nat.le_refl _) _)) false N4.out (runes_new w7 [91] #[.int .i32 91] 1 rfl rfl) (by simp) (by decide)).mono ?_);rintro e w8 ⟨rfl,q4,hq4⟩;have hb4:Below w7.heap.size w7 w8:=(by rw [hq4];exact below_drewN ((Below.refl _ _).alloc (Nat.le_refl _) _) _);have HS8:=Lib.hid (HS7.out.next hb4);have HC8:=Lib.hid (row_next HC7.out hb4);have HK8:=Lib.hid (HK7.out.trans (Kept.of hb4));clear hq4 hb4))
   have C9:=Lib.hid (CC.out w8 HS8.out)
   clear c0 c1' c2 c3 f2
   go_wp2_with (go_at_call 143;(with_reducible refine C9.out.mono ?_);rintro e w9 ⟨hk9,he⟩;obtain rfl:=(show e=_ from he))
   exact ⟨rfl,HK8.out.trans hk9,rfl⟩
  | ok i =>
   obtain ⟨g,q,nx2⟩:=i
   have hq:=hr0 _ rfl
   simp only at hq
   clear hr0
   unfold pairP
   simp only
   by_cases q0:q < 0
   ·rw [if_pos q0]
    have q1:(decide (q < 0))=true:=decide_eq_true q0
    go_enter Tryz.func117,Tryz.ntmps117
    go_upto_region 2 with (first
     | (go_at_call 143;(with_reducible refine C1.out.mono ?_);rintro e w1 ⟨hk,out,A',n',c',hset,hln,rfl,hr,hS⟩))
    obtain ⟨W2,hW2⟩:∃ X,X=w1.alloc (.cells #[.slice A' n' c',.int .i64 pt] 167):=⟨_,rfl⟩
    have hb2:Below w1.heap.size w1 W2:=by rw [hW2];exact (Below.refl _ _).alloc (Nat.le_refl _) _
    have HS2:=Lib.hid (hS.next hb2)
    have HR2:=Lib.hid ((hr.below hb2 (Nat.le_refl _)).more (B':=W2.heap.size) hb2.size)
    have HK2:=Lib.hid (hk.trans (Kept.of hb2))
    have HC2:=Lib.hid (show W2.heap[w1.heap.size]?=some (.cells #[.slice A' n' c',.int .i64 pt] 167 (0,0)) by rw [hW2];exact heap_alloc_new w1 _)
    have HSET:=Lib.hid hset
    rw [← hW2]
    have hs1:b < w1.heap.size:=hS.lt
    clear hW2 hS hr hk hb2 hset C1
    have p0:(decide (pt < 0))=false:=decide_eq_false (by omega)
    have W1:IntKind.i64.wrap (nx+1)=nx+1:=IntWalk.i64_in _ (by omega)
    go_upto_region 4 with (first
     | (go_at_call 116;(with_reducible refine (BSt.is_ (cc:=1) (m:=1) (cs:=[45]) (HS2.out.next ((Below.refl _ _).alloc (Nat.le_refl _) _)) true N1.out (runes_new W2 [45] #[.int .i32 45] 1 rfl rfl) (by simp) (by decide)).mono ?_);rintro e w3 ⟨rfl,q4,hq4⟩;have hb4:Below W2.heap.size W2 w3:=(by rw [hq4];exact below_drewN ((Below.refl _ _).alloc (Nat.le_refl _) _) _);have HS3:=Lib.hid (HS2.out.next hb4);have HC3:=Lib.hid (row_next HC2.out hb4);have HR3:=Lib.hid ((HR2.out.below hb4 (Nat.le_refl _)).more hb4.size);have HK3:=Lib.hid (HK2.out.trans (Kept.of hb4));clear hq4 hb4)
     | (go_at_call 116;(with_reducible refine (BSt.is_ (cc:=2) (m:=2) (cs:=[45,93]) (HS3.out.next ((Below.refl _ _).alloc (Nat.le_refl _) _)) false N2.out (runes_new w3 [45,93] #[.int .i32 45,.int .i32 93] 2 rfl rfl) (by simp) (by decide)).mono ?_);rintro e w4 ⟨rfl,q4,hq4⟩;have hb4:Below w3.heap.size w3 w4:=(by rw [hq4];exact below_drewN ((Below.refl _ _).alloc (Nat.le_refl _) _) _);have HS4:=Lib.hid (HS3.out.next hb4);have HC4:=Lib.hid (row_next HC3.out hb4);have HR4:=Lib.hid ((HR3.out.below hb4 (Nat.le_refl _)).more hb4.size);have HK4:=Lib.hid (HK3.out.trans (Kept.of hb4));clear hq4 hb4;have c1:=cell_of_row _ _ 1 _ _ _ HC4.out))
    obtain ⟨c0,c1',c2,c3,f2⟩:=HS4.out.rd.cells
    have e1:(decide ((n:Int)≤nx+1))=false:=decide_eq_false (by omega)
    go_upto_region 8 with (fail)
    obtain ⟨W6,hW6⟩:∃ X,X=w4.setCell ⟨b,2,none⟩ (.int .i64 (nx+1)):=⟨_,rfl⟩
    have HS6:=Lib.hid (show BSt b n c 1 fo dp A l (nx+1) W6 by rw [hW6];exact HS4.out.moved _ (by omega) (by omega))
    have HC6:=Lib.hid (show W6.heap[w1.heap.size]?=some (.cells #[.slice A' n' c',.int .i64 pt] 167 (0,0)) by rw [hW6];exact hz_set HC4.out (show w1.heap.size≠b by omega))
    have HK6:=Lib.hid (show Kept b w W6 by rw [hW6];exact HK4.out.set 2 _)
    rw [← hW6]
    clear hW6 c0 c1' c2 c3 f2 W1 e1 HS4 HC4 HK4
    obtain ⟨c0,c1',c2,c3,f2⟩:=HS6.out.rd.cells
    go_upto_region 10 with (first
     | (go_at_call 116;(with_reducible refine (BSt.is_ (cc:=2) (m:=2) (cs:=[91,58]) (HS6.out.next ((Below.refl _ _).alloc (Nat.le_refl _) _)) false N3.out (runes_new W6 [91,58] #[.int .i32 91,.int .i32 58] 2 rfl rfl) (by simp) (by decide)).mono ?_);rintro e w7 ⟨rfl,q4,hq4⟩;have hb4:Below W6.heap.size W6 w7:=(by rw [hq4];exact below_drewN ((Below.refl _ _).alloc (Nat.le_refl _) _) _);have HS7:=Lib.hid (HS6.out.next hb4);have HC7:=Lib.hid (row_next HC6.out hb4);have HK7:=Lib.hid (HK6.out.trans (Kept.of hb4));clear hq4 hb4;clear c0 c1' c2 c3 f2;obtain ⟨c0,c1',c2,c3,f2⟩:=HS7.out.rd.cells)
     | (go_at_call 116;(with_reducible refine (BSt.is_ (cc:=1) (m:=1) (cs:=[91]) (HS7.out.next ((Below.refl _ _).alloc (Nat.le_refl _) _)) false N4.out (runes_new w7 [91] #[.int .i32 91] 1 rfl rfl) (by simp) (by decide)).mono ?_);rintro e w8 ⟨rfl,q4,hq4⟩;have hb4:Below w7.heap.size w7 w8:=(by rw [hq4];exact below_drewN ((Below.refl _ _).alloc (Nat.le_refl _) _) _);have HS8:=Lib.hid (HS7.out.next hb4);have HC8:=Lib.hid (row_next HC7.out hb4);have HK8:=Lib.hid (HK7.out.trans (Kept.of hb4));clear hq4 hb4))
    have C9:=Lib.hid (CC.out w8 HS8.out)
    clear c0 c1' c2 c3 f2
    go_upto_region 11 with (go_at_call 143;(with_reducible refine C9.out.mono ?_);rintro e w9 ⟨hk9,out2,A2,n2,c2,hset2,hln2,rfl,hr2,hS9⟩)
    obtain ⟨V,hV⟩:∃ X,X=w9.alloc (.cells #[.slice A2 n2 c2,.int .i64 q] 167):=⟨_,rfl⟩
    have hbv:Below w9.heap.size w9 V:=by rw [hV];exact (Below.refl _ _).alloc (Nat.le_refl _) _
    have HSV:=Lib.hid (hS9.next hbv)
    have HKV:=Lib.hid (HK8.out.trans (hk9.trans (Kept.of hbv)))
    have HC9:=Lib.hid (show V.heap[w1.heap.size]?=some (.cells #[.slice A' n' c',.int .i64 pt] 167 (0,0)) from row_next ((hk9.block _ (lt_heap HC8.out) (by omega)).trans HC8.out) hbv)
    have HE9:=Lib.hid (show V.heap[w9.heap.size]?=some (.cells #[.slice A2 n2 c2,.int .i64 q] 167 (0,0)) by rw [hV];exact heap_alloc_new w9 _)
    rw [← hV]
    clear hV hS9 hr2 hk9 hbv C9 hset2
    have y1:=cell_of_row _ _ 1 _ _ _ HC9.out
    have z1:=cell_of_row _ _ 1 _ _ _ HE9.out
    go_wp2_with (go_at_call 59;(with_reducible refine (fail21 1 (nx+1) _).mono ?_);rintro e w' ⟨rfl,rfl⟩)
    exact ⟨rfl,HKV.out,rfl⟩
   ·rw [if_neg q0]
    have q1:(decide (q < 0))=false:=decide_eq_false q0
    by_cases qp:q < pt
    ·rw [if_pos qp]
     have q2:(decide (q < pt))=true:=decide_eq_true qp
     go_enter Tryz.func117,Tryz.ntmps117
     go_upto_region 2 with (first
      | (go_at_call 143;(with_reducible refine C1.out.mono ?_);rintro e w1 ⟨hk,out,A',n',c',hset,hln,rfl,hr,hS⟩))
     obtain ⟨W2,hW2⟩:∃ X,X=w1.alloc (.cells #[.slice A' n' c',.int .i64 pt] 167):=⟨_,rfl⟩
     have hb2:Below w1.heap.size w1 W2:=by rw [hW2];exact (Below.refl _ _).alloc (Nat.le_refl _) _
     have HS2:=Lib.hid (hS.next hb2)
     have HR2:=Lib.hid ((hr.below hb2 (Nat.le_refl _)).more (B':=W2.heap.size) hb2.size)
     have HK2:=Lib.hid (hk.trans (Kept.of hb2))
     have HC2:=Lib.hid (show W2.heap[w1.heap.size]?=some (.cells #[.slice A' n' c',.int .i64 pt] 167 (0,0)) by rw [hW2];exact heap_alloc_new w1 _)
     have HSET:=Lib.hid hset
     rw [← hW2]
     have hs1:b < w1.heap.size:=hS.lt
     clear hW2 hS hr hk hb2 hset C1
     have p0:(decide (pt < 0))=false:=decide_eq_false (by omega)
     have W1:IntKind.i64.wrap (nx+1)=nx+1:=IntWalk.i64_in _ (by omega)
     go_upto_region 4 with (first
      | (go_at_call 116;(with_reducible refine (BSt.is_ (cc:=1) (m:=1) (cs:=[45]) (HS2.out.next ((Below.refl _ _).alloc (Nat.le_refl _) _)) true N1.out (runes_new W2 [45] #[.int .i32 45] 1 rfl rfl) (by simp) (by decide)).mono ?_);rintro e w3 ⟨rfl,q4,hq4⟩;have hb4:Below W2.heap.size W2 w3:=(by rw [hq4];exact below_drewN ((Below.refl _ _).alloc (Nat.le_refl _) _) _);have HS3:=Lib.hid (HS2.out.next hb4);have HC3:=Lib.hid (row_next HC2.out hb4);have HR3:=Lib.hid ((HR2.out.below hb4 (Nat.le_refl _)).more hb4.size);have HK3:=Lib.hid (HK2.out.trans (Kept.of hb4));clear hq4 hb4)
      | (go_at_call 116;(with_reducible refine (BSt.is_ (cc:=2) (m:=2) (cs:=[45,93]) (HS3.out.next ((Below.refl _ _).alloc (Nat.le_refl _) _)) false N2.out (runes_new w3 [45,93] #[.int .i32 45,.int .i32 93] 2 rfl rfl) (by simp) (by decide)).mono ?_);rintro e w4 ⟨rfl,q4,hq4⟩;have hb4:Below w3.heap.size w3 w4:=(by rw [hq4];exact below_drewN ((Below.refl _ _).alloc (Nat.le_refl _) _) _);have HS4:=Lib.hid (HS3.out.next hb4);have HC4:=Lib.hid (row_next HC3.out hb4);have HR4:=Lib.hid ((HR3.out.below hb4 (Nat.le_refl _)).more hb4.size);have HK4:=Lib.hid (HK3.out.trans (Kept.of hb4));clear hq4 hb4;have c1:=cell_of_row _ _ 1 _ _ _ HC4.out))
     obtain ⟨c0,c1',c2,c3,f2⟩:=HS4.out.rd.cells
     have e1:(decide ((n:Int)≤nx+1))=false:=decide_eq_false (by omega)
     go_upto_region 8 with (fail)
     obtain ⟨W6,hW6⟩:∃ X,X=w4.setCell ⟨b,2,none⟩ (.int .i64 (nx+1)):=⟨_,rfl⟩
     have HS6:=Lib.hid (show BSt b n c 1 fo dp A l (nx+1) W6 by rw [hW6];exact HS4.out.moved _ (by omega) (by omega))
     have HC6:=Lib.hid (show W6.heap[w1.heap.size]?=some (.cells #[.slice A' n' c',.int .i64 pt] 167 (0,0)) by rw [hW6];exact hz_set HC4.out (show w1.heap.size≠b by omega))
     have HK6:=Lib.hid (show Kept b w W6 by rw [hW6];exact HK4.out.set 2 _)
     rw [← hW6]
     clear hW6 c0 c1' c2 c3 f2 W1 e1 HS4 HC4 HK4
     obtain ⟨c0,c1',c2,c3,f2⟩:=HS6.out.rd.cells
     go_upto_region 10 with (first
      | (go_at_call 116;(with_reducible refine (BSt.is_ (cc:=2) (m:=2) (cs:=[91,58]) (HS6.out.next ((Below.refl _ _).alloc (Nat.le_refl _) _)) false N3.out (runes_new W6 [91,58] #[.int .i32 91,.int .i32 58] 2 rfl rfl) (by simp) (by decide)).mono ?_);rintro e w7 ⟨rfl,q4,hq4⟩;have hb4:Below W6.heap.size W6 w7:=(by rw [hq4];exact below_drewN ((Below.refl _ _).alloc (Nat.le_refl _) _) _);have HS7:=Lib.hid (HS6.out.next hb4);have HC7:=Lib.hid (row_next HC6.out hb4);have HK7:=Lib.hid (HK6.out.trans (Kept.of hb4));clear hq4 hb4;clear c0 c1' c2 c3 f2;obtain ⟨c0,c1',c2,c3,f2⟩:=HS7.out.rd.cells)
      | (go_at_call 116;(with_reducible refine (BSt.is_ (cc:=1) (m:=1) (cs:=[91]) (HS7.out.next ((Below.refl _ _).alloc (Nat.le_refl _) _)) false N4.out (runes_new w7 [91] #[.int .i32 91] 1 rfl rfl) (by simp) (by decide)).mono ?_);rintro e w8 ⟨rfl,q4,hq4⟩;have hb4:Below w7.heap.size w7 w8:=(by rw [hq4];exact below_drewN ((Below.refl _ _).alloc (Nat.le_refl _) _) _);have HS8:=Lib.hid (HS7.out.next hb4);have HC8:=Lib.hid (row_next HC7.out hb4);have HK8:=Lib.hid (HK7.out.trans (Kept.of hb4));clear hq4 hb4))
     have C9:=Lib.hid (CC.out w8 HS8.out)
     clear c0 c1' c2 c3 f2
     go_upto_region 11 with (go_at_call 143;(with_reducible refine C9.out.mono ?_);rintro e w9 ⟨hk9,out2,A2,n2,c2,hset2,hln2,rfl,hr2,hS9⟩)
     obtain ⟨V,hV⟩:∃ X,X=w9.alloc (.cells #[.slice A2 n2 c2,.int .i64 q] 167):=⟨_,rfl⟩
     have hbv:Below w9.heap.size w9 V:=by rw [hV];exact (Below.refl _ _).alloc (Nat.le_refl _) _
     have HSV:=Lib.hid (hS9.next hbv)
     have HKV:=Lib.hid (HK8.out.trans (hk9.trans (Kept.of hbv)))
     have HC9:=Lib.hid (show V.heap[w1.heap.size]?=some (.cells #[.slice A' n' c',.int .i64 pt] 167 (0,0)) from row_next ((hk9.block _ (lt_heap HC8.out) (by omega)).trans HC8.out) hbv)
     have HE9:=Lib.hid (show V.heap[w9.heap.size]?=some (.cells #[.slice A2 n2 c2,.int .i64 q] 167 (0,0)) by rw [hV];exact heap_alloc_new w9 _)
     rw [← hV]
     clear hV hS9 hr2 hk9 hbv C9 hset2
     have y1:=cell_of_row _ _ 1 _ _ _ HC9.out
     have z1:=cell_of_row _ _ 1 _ _ _ HE9.out
     go_wp2_with (go_at_call 59;(with_reducible refine (fail21 3 (nx+1) _).mono ?_);rintro e w' ⟨rfl,rfl⟩)
     exact ⟨rfl,HKV.out,rfl⟩
    ·rw [if_neg qp]
     have q2:(decide (q < pt))=false:=decide_eq_false qp
     go_enter Tryz.func117,Tryz.ntmps117
     go_upto_region 2 with (first
      | (go_at_call 143;(with_reducible refine C1.out.mono ?_);rintro e w1 ⟨hk,out,A',n',c',hset,hln,rfl,hr,hS⟩))
     obtain ⟨W2,hW2⟩:∃ X,X=w1.alloc (.cells #[.slice A' n' c',.int .i64 pt] 167):=⟨_,rfl⟩
     have hb2:Below w1.heap.size w1 W2:=by rw [hW2];exact (Below.refl _ _).alloc (Nat.le_refl _) _
     have HS2:=Lib.hid (hS.next hb2)
     have HR2:=Lib.hid ((hr.below hb2 (Nat.le_refl _)).more (B':=W2.heap.size) hb2.size)
     have HK2:=Lib.hid (hk.trans (Kept.of hb2))
     have HC2:=Lib.hid (show W2.heap[w1.heap.size]?=some (.cells #[.slice A' n' c',.int .i64 pt] 167 (0,0)) by rw [hW2];exact heap_alloc_new w1 _)
     have HSET:=Lib.hid hset
     rw [← hW2]
     have hs1:b < w1.heap.size:=hS.lt
     clear hW2 hS hr hk hb2 hset C1
     have p0:(decide (pt < 0))=false:=decide_eq_false (by omega)
     have W1:IntKind.i64.wrap (nx+1)=nx+1:=IntWalk.i64_in _ (by omega)
     go_upto_region 4 with (first
      | (go_at_call 116;(with_reducible refine (BSt.is_ (cc:=1) (m:=1) (cs:=[45]) (HS2.out.next ((Below.refl _ _).alloc (Nat.le_refl _) _)) true N1.out (runes_new W2 [45] #[.int .i32 45] 1 rfl rfl) (by simp) (by decide)).mono ?_);rintro e w3 ⟨rfl,q4,hq4⟩;have hb4:Below W2.heap.size W2 w3:=(by rw [hq4];exact below_drewN ((Below.refl _ _).alloc (Nat.le_refl _) _) _);have HS3:=Lib.hid (HS2.out.next hb4);have HC3:=Lib.hid (row_next HC2.out hb4);have HR3:=Lib.hid ((HR2.out.below hb4 (Nat.le_refl _)).more hb4.size);have HK3:=Lib.hid (HK2.out.trans (Kept.of hb4));clear hq4 hb4)
      | (go_at_call 116;(with_reducible refine (BSt.is_ (cc:=2) (m:=2) (cs:=[45,93]) (HS3.out.next ((Below.refl _ _).alloc (Nat.le_refl _) _)) false N2.out (runes_new w3 [45,93] #[.int .i32 45,.int .i32 93] 2 rfl rfl) (by simp) (by decide)).mono ?_);rintro e w4 ⟨rfl,q4,hq4⟩;have hb4:Below w3.heap.size w3 w4:=(by rw [hq4];exact below_drewN ((Below.refl _ _).alloc (Nat.le_refl _) _) _);have HS4:=Lib.hid (HS3.out.next hb4);have HC4:=Lib.hid (row_next HC3.out hb4);have HR4:=Lib.hid ((HR3.out.below hb4 (Nat.le_refl _)).more hb4.size);have HK4:=Lib.hid (HK3.out.trans (Kept.of hb4));clear hq4 hb4;have c1:=cell_of_row _ _ 1 _ _ _ HC4.out))
     obtain ⟨c0,c1',c2,c3,f2⟩:=HS4.out.rd.cells
     have e1:(decide ((n:Int)≤nx+1))=false:=decide_eq_false (by omega)
     go_upto_region 8 with (fail)
     obtain ⟨W6,hW6⟩:∃ X,X=w4.setCell ⟨b,2,none⟩ (.int .i64 (nx+1)):=⟨_,rfl⟩
     have HS6:=Lib.hid (show BSt b n c 1 fo dp A l (nx+1) W6 by rw [hW6];exact HS4.out.moved _ (by omega) (by omega))
     have HC6:=Lib.hid (show W6.heap[w1.heap.size]?=some (.cells #[.slice A' n' c',.int .i64 pt] 167 (0,0)) by rw [hW6];exact hz_set HC4.out (show w1.heap.size≠b by omega))
     have HK6:=Lib.hid (show Kept b w W6 by rw [hW6];exact HK4.out.set 2 _)
     rw [← hW6]
     clear hW6 c0 c1' c2 c3 f2 W1 e1 HS4 HC4 HK4
     obtain ⟨c0,c1',c2,c3,f2⟩:=HS6.out.rd.cells
     go_upto_region 10 with (first
      | (go_at_call 116;(with_reducible refine (BSt.is_ (cc:=2) (m:=2) (cs:=[91,58]) (HS6.out.next ((Below.refl _ _).alloc (Nat.le_refl _) _)) false N3.out (runes_new W6 [91,58] #[.int .i32 91,.int .i32 58] 2 rfl rfl) (by simp) (by decide)).mono ?_);rintro e w7 ⟨rfl,q4,hq4⟩;have hb4:Below W6.heap.size W6 w7:=(by rw [hq4];exact below_drewN ((Below.refl _ _).alloc (Nat.le_refl _) _) _);have HS7:=Lib.hid (HS6.out.next hb4);have HC7:=Lib.hid (row_next HC6.out hb4);have HK7:=Lib.hid (HK6.out.trans (Kept.of hb4));clear hq4 hb4;clear c0 c1' c2 c3 f2;obtain ⟨c0,c1',c2,c3,f2⟩:=HS7.out.rd.cells)
      | (go_at_call 116;(with_reducible refine (BSt.is_ (cc:=1) (m:=1) (cs:=[91]) (HS7.out.next ((Below.refl _ _).alloc (Nat.le_refl _) _)) false N4.out (runes_new w7 [91] #[.int .i32 91] 1 rfl rfl) (by simp) (by decide)).mono ?_);rintro e w8 ⟨rfl,q4,hq4⟩;have hb4:Below w7.heap.size w7 w8:=(by rw [hq4];exact below_drewN ((Below.refl _ _).alloc (Nat.le_refl _) _) _);have HS8:=Lib.hid (HS7.out.next hb4);have HC8:=Lib.hid (row_next HC7.out hb4);have HK8:=Lib.hid (HK7.out.trans (Kept.of hb4));clear hq4 hb4))
     have C9:=Lib.hid (CC.out w8 HS8.out)
     clear c0 c1' c2 c3 f2
     go_upto_region 11 with (go_at_call 143;(with_reducible refine C9.out.mono ?_);rintro e w9 ⟨hk9,out2,A2,n2,c2,hset2,hln2,rfl,hr2,hS9⟩)
     obtain ⟨V,hV⟩:∃ X,X=w9.alloc (.cells #[.slice A2 n2 c2,.int .i64 q] 167):=⟨_,rfl⟩
     have hbv:Below w9.heap.size w9 V:=by rw [hV];exact (Below.refl _ _).alloc (Nat.le_refl _) _
     have HSV:=Lib.hid (hS9.next hbv)
     have HKV:=Lib.hid (HK8.out.trans (hk9.trans (Kept.of hbv)))
     have HC9:=Lib.hid (show V.heap[w1.heap.size]?=some (.cells #[.slice A' n' c',.int .i64 pt] 167 (0,0)) from row_next ((hk9.block _ (lt_heap HC8.out) (by omega)).trans HC8.out) hbv)
     have HE9:=Lib.hid (show V.heap[w9.heap.size]?=some (.cells #[.slice A2 n2 c2,.int .i64 q] 167 (0,0)) by rw [hV];exact heap_alloc_new w9 _)
     rw [← hV]
     clear hV hS9 hr2 hk9 hbv C9 hset2
     have y1:=cell_of_row _ _ 1 _ _ _ HC9.out
     have z1:=cell_of_row _ _ 1 _ _ _ HE9.out
     go_wp2_with fail
     go_ret
     exact ⟨HKV.out.alloc _,[(pt,q)],_,_,_,set_one h3 (by omega) hq,hK,rfl,rds_at (heap_alloc_new V _) rfl rfl (by simp),HSV.out.next ((Below.refl _ _).alloc (Nat.le_refl _) _)⟩
 ·have hdb:(d == 1)=false:=by simpa using hd
  clear h5
  cases r with
  | error q =>
   go_enter Tryz.func117,Tryz.ntmps117
   go_upto_region 2 with (first
    | (go_at_call 143;(with_reducible refine C1.out.mono ?_);rintro e w1 ⟨hk,out,A',n',c',hset,hln,rfl,hr,hS⟩))
   obtain ⟨W2,hW2⟩:∃ X,X=w1.alloc (.cells #[.slice A' n' c',.int .i64 pt] 167):=⟨_,rfl⟩
   have hb2:Below w1.heap.size w1 W2:=by rw [hW2];exact (Below.refl _ _).alloc (Nat.le_refl _) _
   have HS2:=Lib.hid (hS.next hb2)
   have HR2:=Lib.hid ((hr.below hb2 (Nat.le_refl _)).more (B':=W2.heap.size) hb2.size)
   have HK2:=Lib.hid (hk.trans (Kept.of hb2))
   have HC2:=Lib.hid (show W2.heap[w1.heap.size]?=some (.cells #[.slice A' n' c',.int .i64 pt] 167 (0,0)) by rw [hW2];exact heap_alloc_new w1 _)
   have HSET:=Lib.hid hset
   rw [← hW2]
   have hs1:b < w1.heap.size:=hS.lt
   clear hW2 hS hr hk hb2 hset C1
   have p0:(decide (pt < 0))=false:=decide_eq_false (by omega)
   have W1:IntKind.i64.wrap (nx+1)=nx+1:=IntWalk.i64_in _ (by omega)
   go_upto_region 4 with (first
    | (go_at_call 116;(with_reducible refine (BSt.is_ (cc:=1) (m:=1) (cs:=[45]) (HS2.out.next ((Below.refl _ _).alloc (Nat.le_refl _) _)) true N1.out (runes_new W2 [45] #[.int .i32 45] 1 rfl rfl) (by simp) (by decide)).mono ?_);rintro e w3 ⟨rfl,q4,hq4⟩;have hb4:Below W2.heap.size W2 w3:=(by rw [hq4];exact below_drewN ((Below.refl _ _).alloc (Nat.le_refl _) _) _);have HS3:=Lib.hid (HS2.out.next hb4);have HC3:=Lib.hid (row_next HC2.out hb4);have HR3:=Lib.hid ((HR2.out.below hb4 (Nat.le_refl _)).more hb4.size);have HK3:=Lib.hid (HK2.out.trans (Kept.of hb4));clear hq4 hb4)
    | (go_at_call 116;(with_reducible refine (BSt.is_ (cc:=2) (m:=2) (cs:=[45,93]) (HS3.out.next ((Below.refl _ _).alloc (Nat.le_refl _) _)) false N2.out (runes_new w3 [45,93] #[.int .i32 45,.int .i32 93] 2 rfl rfl) (by simp) (by decide)).mono ?_);rintro e w4 ⟨rfl,q4,hq4⟩;have hb4:Below w3.heap.size w3 w4:=(by rw [hq4];exact below_drewN ((Below.refl _ _).alloc (Nat.le_refl _) _) _);have HS4:=Lib.hid (HS3.out.next hb4);have HC4:=Lib.hid (row_next HC3.out hb4);have HR4:=Lib.hid ((HR3.out.below hb4 (Nat.le_refl _)).more hb4.size);have HK4:=Lib.hid (HK3.out.trans (Kept.of hb4));clear hq4 hb4;have c1:=cell_of_row _ _ 1 _ _ _ HC4.out))
   obtain ⟨c0,c1',c2,c3,f2⟩:=HS4.out.rd.cells
   have e1:(decide ((n:Int)≤nx+1))=false:=decide_eq_false (by omega)
   go_upto_region 8 with (fail)
   obtain ⟨W6,hW6⟩:∃ X,X=w4.setCell ⟨b,2,none⟩ (.int .i64 (nx+1)):=⟨_,rfl⟩
   have HS6:=Lib.hid (show BSt b n c d fo dp A l (nx+1) W6 by rw [hW6];exact HS4.out.moved _ (by omega) (by omega))
   have HC6:=Lib.hid (show W6.heap[w1.heap.size]?=some (.cells #[.slice A' n' c',.int .i64 pt] 167 (0,0)) by rw [hW6];exact hz_set HC4.out (show w1.heap.size≠b by omega))
   have HK6:=Lib.hid (show Kept b w W6 by rw [hW6];exact HK4.out.set 2 _)
   rw [← hW6]
   clear hW6 c0 c1' c2 c3 f2 W1 e1 HS4 HC4 HK4
   obtain ⟨c0,c1',c2,c3,f2⟩:=HS6.out.rd.cells
   go_upto_region 10 with (first
    | (go_at_call 116;(with_reducible refine (BSt.is_ (cc:=2) (m:=2) (cs:=[91,58]) (HS6.out.next ((Below.refl _ _).alloc (Nat.le_refl _) _)) false N3.out (runes_new W6 [91,58] #[.int .i32 91,.int .i32 58] 2 rfl rfl) (by simp) (by decide)).mono ?_);rintro e w7 ⟨rfl,q4,hq4⟩;have hb4:Below W6.heap.size W6 w7:=(by rw [hq4];exact below_drewN ((Below.refl _ _).alloc (Nat.le_refl _) _) _);have HS7:=Lib.hid (HS6.out.next hb4);have HC7:=Lib.hid (row_next HC6.out hb4);have HK7:=Lib.hid (HK6.out.trans (Kept.of hb4));clear hq4 hb4;clear c0 c1' c2 c3 f2;obtain ⟨c0,c1',c2,c3,f2⟩:=HS7.out.rd.cells))
   have C9:=Lib.hid (CC.out w7 HS7.out)
   clear c0 c1' c2 c3 f2
   go_wp2_with (go_at_call 143;(with_reducible refine C9.out.mono ?_);rintro e w9 ⟨hk9,he⟩;obtain rfl:=(show e=_ from he))
   exact ⟨rfl,HK7.out.trans hk9,rfl⟩
  | ok i =>
   obtain ⟨g,q,nx2⟩:=i
   have hq:=hr0 _ rfl
   simp only at hq
   clear hr0
   unfold pairP
   simp only
   by_cases q0:q < 0
   ·rw [if_pos q0]
    have q1:(decide (q < 0))=true:=decide_eq_true q0
    go_enter Tryz.func117,Tryz.ntmps117
    go_upto_region 2 with (first
     | (go_at_call 143;(with_reducible refine C1.out.mono ?_);rintro e w1 ⟨hk,out,A',n',c',hset,hln,rfl,hr,hS⟩))
    obtain ⟨W2,hW2⟩:∃ X,X=w1.alloc (.cells #[.slice A' n' c',.int .i64 pt] 167):=⟨_,rfl⟩
    have hb2:Below w1.heap.size w1 W2:=by rw [hW2];exact (Below.refl _ _).alloc (Nat.le_refl _) _
    have HS2:=Lib.hid (hS.next hb2)
    have HR2:=Lib.hid ((hr.below hb2 (Nat.le_refl _)).more (B':=W2.heap.size) hb2.size)
    have HK2:=Lib.hid (hk.trans (Kept.of hb2))
    have HC2:=Lib.hid (show W2.heap[w1.heap.size]?=some (.cells #[.slice A' n' c',.int .i64 pt] 167 (0,0)) by rw [hW2];exact heap_alloc_new w1 _)
    have HSET:=Lib.hid hset
    rw [← hW2]
    have hs1:b < w1.heap.size:=hS.lt
    clear hW2 hS hr hk hb2 hset C1
    have p0:(decide (pt < 0))=false:=decide_eq_false (by omega)
    have W1:IntKind.i64.wrap (nx+1)=nx+1:=IntWalk.i64_in _ (by omega)
    go_upto_region 4 with (first
     | (go_at_call 116;(with_reducible refine (BSt.is_ (cc:=1) (m:=1) (cs:=[45]) (HS2.out.next ((Below.refl _ _).alloc (Nat.le_refl _) _)) true N1.out (runes_new W2 [45] #[.int .i32 45] 1 rfl rfl) (by simp) (by decide)).mono ?_);rintro e w3 ⟨rfl,q4,hq4⟩;have hb4:Below W2.heap.size W2 w3:=(by rw [hq4];exact below_drewN ((Below.refl _ _).alloc (Nat.le_refl _) _) _);have HS3:=Lib.hid (HS2.out.next hb4);have HC3:=Lib.hid (row_next HC2.out hb4);have HR3:=Lib.hid ((HR2.out.below hb4 (Nat.le_refl _)).more hb4.size);have HK3:=Lib.hid (HK2.out.trans (Kept.of hb4));clear hq4 hb4)
     | (go_at_call 116;(with_reducible refine (BSt.is_ (cc:=2) (m:=2) (cs:=[45,93]) (HS3.out.next ((Below.refl _ _).alloc (Nat.le_refl _) _)) false N2.out (runes_new w3 [45,93] #[.int .i32 45,.int .i32 93] 2 rfl rfl) (by simp) (by decide)).mono ?_);rintro e w4 ⟨rfl,q4,hq4⟩;have hb4:Below w3.heap.size w3 w4:=(by rw [hq4];exact below_drewN ((Below.refl _ _).alloc (Nat.le_refl _) _) _);have HS4:=Lib.hid (HS3.out.next hb4);have HC4:=Lib.hid (row_next HC3.out hb4);have HR4:=Lib.hid ((HR3.out.below hb4 (Nat.le_refl _)).more hb4.size);have HK4:=Lib.hid (HK3.out.trans (Kept.of hb4));clear hq4 hb4;have c1:=cell_of_row _ _ 1 _ _ _ HC4.out))
    obtain ⟨c0,c1',c2,c3,f2⟩:=HS4.out.rd.cells
    have e1:(decide ((n:Int)≤nx+1))=false:=decide_eq_false (by omega)
    go_upto_region 8 with (fail)
    obtain ⟨W6,hW6⟩:∃ X,X=w4.setCell ⟨b,2,none⟩ (.int .i64 (nx+1)):=⟨_,rfl⟩
    have HS6:=Lib.hid (show BSt b n c d fo dp A l (nx+1) W6 by rw [hW6];exact HS4.out.moved _ (by omega) (by omega))
    have HC6:=Lib.hid (show W6.heap[w1.heap.size]?=some (.cells #[.slice A' n' c',.int .i64 pt] 167 (0,0)) by rw [hW6];exact hz_set HC4.out (show w1.heap.size≠b by omega))
    have HK6:=Lib.hid (show Kept b w W6 by rw [hW6];exact HK4.out.set 2 _)
    rw [← hW6]
    clear hW6 c0 c1' c2 c3 f2 W1 e1 HS4 HC4 HK4
    obtain ⟨c0,c1',c2,c3,f2⟩:=HS6.out.rd.cells
    go_upto_region 10 with (first
     | (go_at_call 116;(with_reducible refine (BSt.is_ (cc:=2) (m:=2) (cs:=[91,58]) (HS6.out.next ((Below.refl _ _).alloc (Nat.le_refl _) _)) false N3.out (runes_new W6 [91,58] #[.int .i32 91,.int .i32 58] 2 rfl rfl) (by simp) (by decide)).mono ?_);rintro e w7 ⟨rfl,q4,hq4⟩;have hb4:Below W6.heap.size W6 w7:=(by rw [hq4];exact below_drewN ((Below.refl _ _).alloc (Nat.le_refl _) _) _);have HS7:=Lib.hid (HS6.out.next hb4);have HC7:=Lib.hid (row_next HC6.out hb4);have HK7:=Lib.hid (HK6.out.trans (Kept.of hb4));clear hq4 hb4;clear c0 c1' c2 c3 f2;obtain ⟨c0,c1',c2,c3,f2⟩:=HS7.out.rd.cells))
    have C9:=Lib.hid (CC.out w7 HS7.out)
    clear c0 c1' c2 c3 f2
    go_upto_region 11 with (go_at_call 143;(with_reducible refine C9.out.mono ?_);rintro e w9 ⟨hk9,out2,A2,n2,c2,hset2,hln2,rfl,hr2,hS9⟩)
    obtain ⟨V,hV⟩:∃ X,X=w9.alloc (.cells #[.slice A2 n2 c2,.int .i64 q] 167):=⟨_,rfl⟩
    have hbv:Below w9.heap.size w9 V:=by rw [hV];exact (Below.refl _ _).alloc (Nat.le_refl _) _
    have HSV:=Lib.hid (hS9.next hbv)
    have HKV:=Lib.hid (HK7.out.trans (hk9.trans (Kept.of hbv)))
    have HC9:=Lib.hid (show V.heap[w1.heap.size]?=some (.cells #[.slice A' n' c',.int .i64 pt] 167 (0,0)) from row_next ((hk9.block _ (lt_heap HC7.out) (by omega)).trans HC7.out) hbv)
    have HE9:=Lib.hid (show V.heap[w9.heap.size]?=some (.cells #[.slice A2 n2 c2,.int .i64 q] 167 (0,0)) by rw [hV];exact heap_alloc_new w9 _)
    rw [← hV]
    clear hV hS9 hr2 hk9 hbv C9 hset2
    have y1:=cell_of_row _ _ 1 _ _ _ HC9.out
    have z1:=cell_of_row _ _ 1 _ _ _ HE9.out
    go_wp2_with (go_at_call 59;(with_reducible refine (fail21 1 (nx+1) _).mono ?_);rintro e w' ⟨rfl,rfl⟩)
    exact ⟨rfl,HKV.out,rfl⟩
   ·rw [if_neg q0]
    have q1:(decide (q < 0))=false:=decide_eq_false q0
    by_cases qp:q < pt
    ·rw [if_pos qp]
     have q2:(decide (q < pt))=true:=decide_eq_true qp
     go_enter Tryz.func117,Tryz.ntmps117
     go_upto_region 2 with (first
      | (go_at_call 143;(with_reducible refine C1.out.mono ?_);rintro e w1 ⟨hk,out,A',n',c',hset,hln,rfl,hr,hS⟩))
     obtain ⟨W2,hW2⟩:∃ X,X=w1.alloc (.cells #[.slice A' n' c',.int .i64 pt] 167):=⟨_,rfl⟩
     have hb2:Below w1.heap.size w1 W2:=by rw [hW2];exact (Below.refl _ _).alloc (Nat.le_refl _) _
     have HS2:=Lib.hid (hS.next hb2)
     have HR2:=Lib.hid ((hr.below hb2 (Nat.le_refl _)).more (B':=W2.heap.size) hb2.size)
     have HK2:=Lib.hid (hk.trans (Kept.of hb2))
     have HC2:=Lib.hid (show W2.heap[w1.heap.size]?=some (.cells #[.slice A' n' c',.int .i64 pt] 167 (0,0)) by rw [hW2];exact heap_alloc_new w1 _)
     have HSET:=Lib.hid hset
     rw [← hW2]
     have hs1:b < w1.heap.size:=hS.lt
     clear hW2 hS hr hk hb2 hset C1
     have p0:(decide (pt < 0))=false:=decide_eq_false (by omega)
     have W1:IntKind.i64.wrap (nx+1)=nx+1:=IntWalk.i64_in _ (by omega)
     go_upto_region 4 with (first
      | (go_at_call 116;(with_reducible refine (BSt.is_ (cc:=1) (m:=1) (cs:=[45]) (HS2.out.next ((Below.refl _ _).alloc (Nat.le_refl _) _)) true N1.out (runes_new W2 [45] #[.int .i32 45] 1 rfl rfl) (by simp) (by decide)).mono ?_);rintro e w3 ⟨rfl,q4,hq4⟩;have hb4:Below W2.heap.size W2 w3:=(by rw [hq4];exact below_drewN ((Below.refl _ _).alloc (Nat.le_refl _) _) _);have HS3:=Lib.hid (HS2.out.next hb4);have HC3:=Lib.hid (row_next HC2.out hb4);have HR3:=Lib.hid ((HR2.out.below hb4 (Nat.le_refl _)).more hb4.size);have HK3:=Lib.hid (HK2.out.trans (Kept.of hb4));clear hq4 hb4)
      | (go_at_call 116;(with_reducible refine (BSt.is_ (cc:=2) (m:=2) (cs:=[45,93]) (HS3.out.next ((Below.refl _ _).alloc (Nat.le_refl _) _)) false N2.out (runes_new w3 [45,93] #[.int .i32 45,.int .i32 93] 2 rfl rfl) (by simp) (by decide)).mono ?_);rintro e w4 ⟨rfl,q4,hq4⟩;have hb4:Below w3.heap.size w3 w4:=(by rw [hq4];exact below_drewN ((Below.refl _ _).alloc (Nat.le_refl _) _) _);have HS4:=Lib.hid (HS3.out.next hb4);have HC4:=Lib.hid (row_next HC3.out hb4);have HR4:=Lib.hid ((HR3.out.below hb4 (Nat.le_refl _)).more hb4.size);have HK4:=Lib.hid (HK3.out.trans (Kept.of hb4));clear hq4 hb4;have c1:=cell_of_row _ _ 1 _ _ _ HC4.out))
     obtain ⟨c0,c1',c2,c3,f2⟩:=HS4.out.rd.cells
     have e1:(decide ((n:Int)≤nx+1))=false:=decide_eq_false (by omega)
     go_upto_region 8 with (fail)
     obtain ⟨W6,hW6⟩:∃ X,X=w4.setCell ⟨b,2,none⟩ (.int .i64 (nx+1)):=⟨_,rfl⟩
     have HS6:=Lib.hid (show BSt b n c d fo dp A l (nx+1) W6 by rw [hW6];exact HS4.out.moved _ (by omega) (by omega))
     have HC6:=Lib.hid (show W6.heap[w1.heap.size]?=some (.cells #[.slice A' n' c',.int .i64 pt] 167 (0,0)) by rw [hW6];exact hz_set HC4.out (show w1.heap.size≠b by omega))
     have HK6:=Lib.hid (show Kept b w W6 by rw [hW6];exact HK4.out.set 2 _)
     rw [← hW6]
     clear hW6 c0 c1' c2 c3 f2 W1 e1 HS4 HC4 HK4
     obtain ⟨c0,c1',c2,c3,f2⟩:=HS6.out.rd.cells
     go_upto_region 10 with (first
      | (go_at_call 116;(with_reducible refine (BSt.is_ (cc:=2) (m:=2) (cs:=[91,58]) (HS6.out.next ((Below.refl _ _).alloc (Nat.le_refl _) _)) false N3.out (runes_new W6 [91,58] #[.int .i32 91,.int .i32 58] 2 rfl rfl) (by simp) (by decide)).mono ?_);rintro e w7 ⟨rfl,q4,hq4⟩;have hb4:Below W6.heap.size W6 w7:=(by rw [hq4];exact below_drewN ((Below.refl _ _).alloc (Nat.le_refl _) _) _);have HS7:=Lib.hid (HS6.out.next hb4);have HC7:=Lib.hid (row_next HC6.out hb4);have HK7:=Lib.hid (HK6.out.trans (Kept.of hb4));clear hq4 hb4;clear c0 c1' c2 c3 f2;obtain ⟨c0,c1',c2,c3,f2⟩:=HS7.out.rd.cells))
     have C9:=Lib.hid (CC.out w7 HS7.out)
     clear c0 c1' c2 c3 f2
     go_upto_region 11 with (go_at_call 143;(with_reducible refine C9.out.mono ?_);rintro e w9 ⟨hk9,out2,A2,n2,c2,hset2,hln2,rfl,hr2,hS9⟩)
     obtain ⟨V,hV⟩:∃ X,X=w9.alloc (.cells #[.slice A2 n2 c2,.int .i64 q] 167):=⟨_,rfl⟩
     have hbv:Below w9.heap.size w9 V:=by rw [hV];exact (Below.refl _ _).alloc (Nat.le_refl _) _
     have HSV:=Lib.hid (hS9.next hbv)
     have HKV:=Lib.hid (HK7.out.trans (hk9.trans (Kept.of hbv)))
     have HC9:=Lib.hid (show V.heap[w1.heap.size]?=some (.cells #[.slice A' n' c',.int .i64 pt] 167 (0,0)) from row_next ((hk9.block _ (lt_heap HC7.out) (by omega)).trans HC7.out) hbv)
     have HE9:=Lib.hid (show V.heap[w9.heap.size]?=some (.cells #[.slice A2 n2 c2,.int .i64 q] 167 (0,0)) by rw [hV];exact heap_alloc_new w9 _)
     rw [← hV]
     clear hV hS9 hr2 hk9 hbv C9 hset2
     have y1:=cell_of_row _ _ 1 _ _ _ HC9.out
     have z1:=cell_of_row _ _ 1 _ _ _ HE9.out
     go_wp2_with (go_at_call 59;(with_reducible refine (fail21 3 (nx+1) _).mono ?_);rintro e w' ⟨rfl,rfl⟩)
     exact ⟨rfl,HKV.out,rfl⟩
    ·rw [if_neg qp]
     have q2:(decide (q < pt))=false:=decide_eq_false qp
     go_enter Tryz.func117,Tryz.ntmps117
     go_upto_region 2 with (first
      | (go_at_call 143;(with_reducible refine C1.out.mono ?_);rintro e w1 ⟨hk,out,A',n',c',hset,hln,rfl,hr,hS⟩))
     obtain ⟨W2,hW2⟩:∃ X,X=w1.alloc (.cells #[.slice A' n' c',.int .i64 pt] 167):=⟨_,rfl⟩
     have hb2:Below w1.heap.size w1 W2:=by rw [hW2];exact (Below.refl _ _).alloc (Nat.le_refl _) _
     have HS2:=Lib.hid (hS.next hb2)
     have HR2:=Lib.hid ((hr.below hb2 (Nat.le_refl _)).more (B':=W2.heap.size) hb2.size)
     have HK2:=Lib.hid (hk.trans (Kept.of hb2))
     have HC2:=Lib.hid (show W2.heap[w1.heap.size]?=some (.cells #[.slice A' n' c',.int .i64 pt] 167 (0,0)) by rw [hW2];exact heap_alloc_new w1 _)
     have HSET:=Lib.hid hset
     rw [← hW2]
     have hs1:b < w1.heap.size:=hS.lt
     clear hW2 hS hr hk hb2 hset C1
     have p0:(decide (pt < 0))=false:=decide_eq_false (by omega)
     have W1:IntKind.i64.wrap (nx+1)=nx+1:=IntWalk.i64_in _ (by omega)
     go_upto_region 4 with (first
      | (go_at_call 116;(with_reducible refine (BSt.is_ (cc:=1) (m:=1) (cs:=[45]) (HS2.out.next ((Below.refl _ _).alloc (Nat.le_refl _) _)) true N1.out (runes_new W2 [45] #[.int .i32 45] 1 rfl rfl) (by simp) (by decide)).mono ?_);rintro e w3 ⟨rfl,q4,hq4⟩;have hb4:Below W2.heap.size W2 w3:=(by rw [hq4];exact below_drewN ((Below.refl _ _).alloc (Nat.le_refl _) _) _);have HS3:=Lib.hid (HS2.out.next hb4);have HC3:=Lib.hid (row_next HC2.out hb4);have HR3:=Lib.hid ((HR2.out.below hb4 (Nat.le_refl _)).more hb4.size);have HK3:=Lib.hid (HK2.out.trans (Kept.of hb4));clear hq4 hb4)
      | (go_at_call 116;(with_reducible refine (BSt.is_ (cc:=2) (m:=2) (cs:=[45,93]) (HS3.out.next ((Below.refl _ _).alloc (Nat.le_refl _) _)) false N2.out (runes_new w3 [45,93] #[.int .i32 45,.int .i32 93] 2 rfl rfl) (by simp) (by decide)).mono ?_);rintro e w4 ⟨rfl,q4,hq4⟩;have hb4:Below w3.heap.size w3 w4:=(by rw [hq4];exact below_drewN ((Below.refl _ _).alloc (Nat.le_refl _) _) _);have HS4:=Lib.hid (HS3.out.next hb4);have HC4:=Lib.hid (row_next HC3.out hb4);have HR4:=Lib.hid ((HR3.out.below hb4 (Nat.le_refl _)).more hb4.size);have HK4:=Lib.hid (HK3.out.trans (Kept.of hb4));clear hq4 hb4;have c1:=cell_of_row _ _ 1 _ _ _ HC4.out))
     obtain ⟨c0,c1',c2,c3,f2⟩:=HS4.out.rd.cells
     have e1:(decide ((n:Int)≤nx+1))=false:=decide_eq_false (by omega)
     go_upto_region 8 with (fail)
     obtain ⟨W6,hW6⟩:∃ X,X=w4.setCell ⟨b,2,none⟩ (.int .i64 (nx+1)):=⟨_,rfl⟩
     have HS6:=Lib.hid (show BSt b n c d fo dp A l (nx+1) W6 by rw [hW6];exact HS4.out.moved _ (by omega) (by omega))
     have HC6:=Lib.hid (show W6.heap[w1.heap.size]?=some (.cells #[.slice A' n' c',.int .i64 pt] 167 (0,0)) by rw [hW6];exact hz_set HC4.out (show w1.heap.size≠b by omega))
     have HK6:=Lib.hid (show Kept b w W6 by rw [hW6];exact HK4.out.set 2 _)
     rw [← hW6]
     clear hW6 c0 c1' c2 c3 f2 W1 e1 HS4 HC4 HK4
     obtain ⟨c0,c1',c2,c3,f2⟩:=HS6.out.rd.cells
     go_upto_region 10 with (first
      | (go_at_call 116;(with_reducible refine (BSt.is_ (cc:=2) (m:=2) (cs:=[91,58]) (HS6.out.next ((Below.refl _ _).alloc (Nat.le_refl _) _)) false N3.out (runes_new W6 [91,58] #[.int .i32 91,.int .i32 58] 2 rfl rfl) (by simp) (by decide)).mono ?_);rintro e w7 ⟨rfl,q4,hq4⟩;have hb4:Below W6.heap.size W6 w7:=(by rw [hq4];exact below_drewN ((Below.refl _ _).alloc (Nat.le_refl _) _) _);have HS7:=Lib.hid (HS6.out.next hb4);have HC7:=Lib.hid (row_next HC6.out hb4);have HK7:=Lib.hid (HK6.out.trans (Kept.of hb4));clear hq4 hb4;clear c0 c1' c2 c3 f2;obtain ⟨c0,c1',c2,c3,f2⟩:=HS7.out.rd.cells))
     have C9:=Lib.hid (CC.out w7 HS7.out)
     clear c0 c1' c2 c3 f2
     go_upto_region 11 with (go_at_call 143;(with_reducible refine C9.out.mono ?_);rintro e w9 ⟨hk9,out2,A2,n2,c2,hset2,hln2,rfl,hr2,hS9⟩)
     obtain ⟨V,hV⟩:∃ X,X=w9.alloc (.cells #[.slice A2 n2 c2,.int .i64 q] 167):=⟨_,rfl⟩
     have hbv:Below w9.heap.size w9 V:=by rw [hV];exact (Below.refl _ _).alloc (Nat.le_refl _) _
     have HSV:=Lib.hid (hS9.next hbv)
     have HKV:=Lib.hid (HK7.out.trans (hk9.trans (Kept.of hbv)))
     have HC9:=Lib.hid (show V.heap[w1.heap.size]?=some (.cells #[.slice A' n' c',.int .i64 pt] 167 (0,0)) from row_next ((hk9.block _ (lt_heap HC7.out) (by omega)).trans HC7.out) hbv)
     have HE9:=Lib.hid (show V.heap[w9.heap.size]?=some (.cells #[.slice A2 n2 c2,.int .i64 q] 167 (0,0)) by rw [hV];exact heap_alloc_new w9 _)
     rw [← hV]
     clear hV hS9 hr2 hk9 hbv C9 hset2
     have y1:=cell_of_row _ _ 1 _ _ _ HC9.out
     have z1:=cell_of_row _ _ 1 _ _ _ HE9.out
     go_wp2_with fail
     go_ret
     exact ⟨HKV.out.alloc _,[(pt,q)],_,_,_,set_one h3 (by omega) hq,hK,rfl,rds_at (heap_alloc_new V _) rfl rfl (by simp),HSV.out.next ((Below.refl _ _).alloc (Nat.le_refl _) _)⟩
end Go.Proofs.YtbiahhojnjchnaaGreat
namespace Go.Proofs.YtbiahhojnjchnaaGreat
open Go.RowKit
theorem span32_any {b n c K:Nat} {d dp at_:Int} {fo:Bool} {A:Option Addr} {l:List Int} {w:World} {I:Int→BR Itm} (h:BSt b n c d fo dp A l at_ w) (hK:1≤K)
  (hI:∀ p W,BSt b n c d fo dp A l p W→Calls Tryz.prog 143 #[.pointer (some ⟨b,0,none⟩)] W (IOut b n c d fo dp A l K (I p) W)) (hpt:∀ p i,0≤p→I p=.ok i→i.pt≤1114111∧0≤i.nx) :
  Calls Tryz.prog 117 #[.pointer (some ⟨b,0,none⟩)] w (SOut b n c d fo dp A l K (spanP d l I at_) w):=by
 have hlt:=h.lt
 have hsm:=h.small
 have hlen:=h.len
 have C:=hI at_ w h
 cases hr:I at_ with
 | error q =>
  rw [hr] at C
  have:spanP d l I at_=.error q:=by unfold spanP;rw [hr]
  rw [this]
  exact span_err C
 | ok a =>
  rw [hr] at C
  obtain ⟨f,pt,nx⟩:=a
  have hnx:=(hpt _ _ h.lo hr).2
  have hS:spanP d l I at_=(if saysB l nx [45]=false∨saysB l nx [45,93]=true∨pt < 0 then .ok (f,nx)
   else if (l.length:Int)≤nx+1 then .error (1,nx+1)
   else if saysB l (nx+1) [91,58]=true∨(d=1∧ptAt l (nx+1)=91) then .error (1,nx+1)
   else pairP pt (nx+1) (I (nx+1))):=by unfold spanP;rw [hr]
  rw [hS]
  by_cases hc:saysB l nx [45]=false∨saysB l nx [45,93]=true∨pt < 0
  ·rw [if_pos hc]
   exact span_item (at_:=at_) hlt C hc
  ·rw [if_neg hc]
   have h1:saysB l nx [45]=true:=by cases hx:saysB l nx [45];exact absurd (.inl hx) hc;rfl
   have h2:saysB l nx [45,93]=false:=by cases hx:saysB l nx [45,93];rfl;exact absurd (.inr (.inl hx)) hc
   have h3:0≤pt:=by rcases Int.lt_or_le pt 0 with hx|hx;exact absurd (.inr (.inr hx)) hc;exact hx
   by_cases hend:(l.length:Int)≤nx+1
   ·rw [if_pos hend]
    exact span_end (at_:=at_) hlt hsm hlen hnx C h1 h2 h3 (by rw [← hlen];exact hend)
   ·rw [if_neg hend]
    have hin:nx+1 < (n:Int):=by rw [← hlen];omega
    by_cases h4:saysB l (nx+1) [91,58]=true∨(d=1∧ptAt l (nx+1)=91)
    ·rw [if_pos h4]
     exact span_open (at_:=at_) hlt hsm hlen hnx C h1 h2 h3 hin h4
    ·rw [if_neg h4]
     refine span_pair (at_:=at_) hlt hsm hlen hnx C h1 h2 h3 hin ?_ (fun e hx=>h4 (.inr ⟨e,hx⟩)) hK (I (nx+1)) (fun i hi=>(hpt _ _ (by have h9:=hnx;simp only at h9;omega) hi).1) (fun W hW=>hI _ W hW)
     cases hx:saysB l (nx+1) [91,58];rfl;exact absurd (.inl hx) h4
end Go.Proofs.YtbiahhojnjchnaaGreat
