/- Escaped and TokenAt of the reference: their closures, and what they share. -/
import Derived.Test.YtmjlmjlkghpknaaTkAE
import Derived.Test.YtmjlmjlkghpknaaTkX
import Derived.Test.YtmjlmjlkghpknaaTkAB
import Derived.Test.YtmjlmjlkghpknaaTkZ
set_option linter.unusedVariables false
set_option linter.unusedSimpArgs false
namespace Go.Proofs.Ytmjlmjlkghpknaa
open Go.RowKit
set_option maxHeartbeats 1000000 in
theorem is29 {n c bl ba X:Nat} {A:Option Addr} {l:List Int} {w:World} (s:ByteArray) (at_:Int) (v:Bool) (h:Pts X n c A l w) (hl:w.cell? ⟨bl,0,none⟩=some (.slice A n c)) (ha:w.cell? ⟨ba,0,none⟩=some (.int .i64 at_))
  (hs:s.size≤100) (h0:0≤at_∧at_≤2000) (hv:v=saysP l at_ s.data.toList) :
  Calls Try.prog 29 #[.string s,.pointer (some ⟨bl,0,none⟩),.pointer (some ⟨ba,0,none⟩)] w fun e w'=>e=.returned (.bool v)∧Below w.heap.size w w'∧w'.heap.size=w.heap.size:=by
 have C:=Lib.hid (says_p s at_ v h hs h0 hv)
 clear hv
 go_enter Try.func29,Try.ntmps29
 go_wp2_with (go_at_call 18;refine C.out.mono ?_;rintro e w1 ⟨rfl,hb,hs1⟩;have HB:=Lib.hid hb;have HS:=Lib.hid hs1;clear hb hs1)
 go_ret
 exact ⟨rfl,HB.out,HS.out⟩
set_option maxHeartbeats 1000000 in
theorem is17 {n c bl ba X:Nat} {A:Option Addr} {l:List Int} {w:World} (s:ByteArray) (at_:Int) (v:Bool) (h:Pts X n c A l w) (hl:w.cell? ⟨bl,0,none⟩=some (.slice A n c)) (ha:w.cell? ⟨ba,0,none⟩=some (.int .i64 at_))
  (hs:s.size≤100) (h0:0≤at_∧at_≤2000) (hv:v=saysP l at_ s.data.toList) :
  Calls Try.prog 17 #[.string s,.pointer (some ⟨bl,0,none⟩),.pointer (some ⟨ba,0,none⟩)] w fun e w'=>e=.returned (.bool v)∧Below w.heap.size w w'∧w'.heap.size=w.heap.size:=by
 have C:=Lib.hid (says_p s at_ v h hs h0 hv)
 clear hv
 go_enter Try.func17,Try.ntmps17
 go_wp2_with (go_at_call 18;refine C.out.mono ?_;rintro e w1 ⟨rfl,hb,hs1⟩;have HB:=Lib.hid hb;have HS:=Lib.hid hs1;clear hb hs1)
 go_ret
 exact ⟨rfl,HB.out,HS.out⟩
theorem point23 (p:Int) (w:World):Calls Try.prog 23 #[.int .i64 p] w fun e w'=>e=.returned (pointT p).agg∧Below w.heap.size w w':=by
 have HB0:=Lib.hid (show Below w.heap.size w (w.alloc (.cells #[.int .i64 0,.int .i64 0,.string ⟨#[]⟩,.bool false,.int .i64 0,.int .i64 0,.int .i64 0,.int .i64 0] 24)) from (Below.refl _ _).alloc (Nat.le_refl _) _)
 go_enter Try.func23,Try.ntmps23
 go_wp2_with ((with_reducible apply store24 (g:=w.heap.size));rfl;(with_reducible rfl);rfl;rfl;(exact hz_new);rfl;rfl)
 ((try simp only [Exit.inBlock,Exit.then]);refine bodyPost_ret (v:=_) (results24 Try.results23 _ _ w.heap.size _ ?_ (row24 ?_) ?_) rfl ?_;rfl;(exact hz_new);rfl;exact And.intro rfl (Below.setRow HB0.out (Nat.le_refl _) _))
theorem put1 {w:World} {g:Nat} {cs ds:Array Value} {t:TypeId} {i:Nat} {v:Value} (h:w.heap[g]?=some (.cells cs t (0,0))) (hd:cs.setIfInBounds i v=ds):(w.setCell ⟨g,i,none⟩ v).heap[g]?=some (.cells ds t (0,0)):=by
 rw [← hd];exact heap_setCell_same _ _ i _ _ _ h
theorem put24 {w:World} {g:Nat} {a0 a1 a2 a3 a4 a5 a6 a7 b0 b1 b2 b3 b4 b5 b6 b7:Value} {t:TypeId} (h:w.heap[g]?=some (.cells #[a0,a1,a2,a3,a4,a5,a6,a7] t (0,0))) :
  ((((((((w.setCell ⟨g,0,none⟩ b0).setCell ⟨g,1,none⟩ b1).setCell ⟨g,2,none⟩ b2).setCell ⟨g,3,none⟩ b3).setCell ⟨g,4,none⟩ b4).setCell ⟨g,5,none⟩ b5).setCell ⟨g,6,none⟩ b6).setCell ⟨g,7,none⟩ b7).heap[g]?=some (.cells #[b0,b1,b2,b3,b4,b5,b6,b7] t (0,0)):=by
 have h0:=put1 (i:=0) (v:=b0) (ds:=#[b0,a1,a2,a3,a4,a5,a6,a7]) h rfl
 have h1:=put1 (i:=1) (v:=b1) (ds:=#[b0,b1,a2,a3,a4,a5,a6,a7]) h0 rfl
 have h2:=put1 (i:=2) (v:=b2) (ds:=#[b0,b1,b2,a3,a4,a5,a6,a7]) h1 rfl
 have h3:=put1 (i:=3) (v:=b3) (ds:=#[b0,b1,b2,b3,a4,a5,a6,a7]) h2 rfl
 have h4:=put1 (i:=4) (v:=b4) (ds:=#[b0,b1,b2,b3,b4,a5,a6,a7]) h3 rfl
 have h5:=put1 (i:=5) (v:=b5) (ds:=#[b0,b1,b2,b3,b4,b5,a6,a7]) h4 rfl
 have h6:=put1 (i:=6) (v:=b6) (ds:=#[b0,b1,b2,b3,b4,b5,b6,a7]) h5 rfl
 exact put1 (i:=7) (v:=b7) (ds:=#[b0,b1,b2,b3,b4,b5,b6,b7]) h6 rfl
theorem put24_below {B:Nat} {a w:World} {g:Nat} {b0 b1 b2 b3 b4 b5 b6 b7:Value} (h:Below B a w) (hg:B≤g) :
  Below B a ((((((((w.setCell ⟨g,0,none⟩ b0).setCell ⟨g,1,none⟩ b1).setCell ⟨g,2,none⟩ b2).setCell ⟨g,3,none⟩ b3).setCell ⟨g,4,none⟩ b4).setCell ⟨g,5,none⟩ b5).setCell ⟨g,6,none⟩ b6).setCell ⟨g,7,none⟩ b7) :=
 (((((((h.setCell hg _).setCell hg _).setCell hg _).setCell hg _).setCell hg _).setCell hg _).setCell hg _).setCell hg _
theorem put24d {w:World} {g:Nat} {a0 a1 a2 a3 a4 a5 a6 a7 b0 b1 b2 b3 b4 b5 b6 b7:Value} {t:TypeId} (h:w.heap[g]?=some (.cells #[a0,a1,a2,a3,a4,a5,a6,a7] t (0,0))) :
  (((((((((w.setCell ⟨g,0,none⟩ b0).setCell ⟨g,1,none⟩ b1).setCell ⟨g,2,none⟩ b2).setCell ⟨g,3,none⟩ b3).setCell ⟨g,4,none⟩ b4).setCell ⟨g,5,none⟩ b5).setCell ⟨g,6,none⟩ b6).setCell ⟨g,7,none⟩ b7).drew).heap[g]?=some (.cells #[b0,b1,b2,b3,b4,b5,b6,b7] t (0,0)):=by
 rw [heap_drew];exact put24 h
theorem put24d_below {B:Nat} {a w:World} {g:Nat} {b0 b1 b2 b3 b4 b5 b6 b7:Value} (h:Below B a w) (hg:B≤g) :
  Below B a ((((((((w.setCell ⟨g,0,none⟩ b0).setCell ⟨g,1,none⟩ b1).setCell ⟨g,2,none⟩ b2).setCell ⟨g,3,none⟩ b3).setCell ⟨g,4,none⟩ b4).setCell ⟨g,5,none⟩ b5).setCell ⟨g,6,none⟩ b6).setCell ⟨g,7,none⟩ b7).drew:=(put24_below h hg).drew
set_option maxRecDepth 100000 in
set_option maxHeartbeats 1000000 in
theorem look30 (k nx:Int) (bn:Nat) (w:World) (hlt:bn < w.heap.size) (hn:w.cell? ⟨bn,0,none⟩=some (.int .i64 nx)) :
  Calls Try.prog 30 #[.int .i64 k,.pointer (some ⟨bn,0,none⟩)] w fun e w'=>e=.returned (.tuple #[(lookT k).agg,.int .i64 nx,.int .i64 0])∧Below w.heap.size w w':=by
 go_enter Try.func30,Try.ntmps30
 go_wp2_with fail
 go_region
 go_wp2_with fail
 ((try simp only [Exit.inBlock,Exit.then]);refine bodyPost_ret (v:=_) (results24q Try.results30 _ _ w.heap.size (#[.int .i64 3,.int .i64 k,.string ⟨#[]⟩,.bool false,.int .i64 0,.int .i64 0,.int .i64 0,.int .i64 0]) (.int .i64 nx) (.int .i64 0) ?_ ?_ ?_ ?_ ?_) rfl ?_;rfl;rfl;rfl;(rw [heap_drew];exact heap_alloc_new w _);rfl;exact And.intro rfl (Below.drew ((Below.refl _ _).alloc (Nat.le_refl _) _)))
/-- a reader of a pattern, its boxes: the pattern, the place, the token told, the place behind -/
structure Es (w W:World) (n c:Nat) (A:Option Addr) (l:List Int) (at_ nx:Int):Prop where
 bel:Below w.heap.size w W
 size:w.heap.size+4≤W.heap.size
 hl:W.heap[w.heap.size]?=some (.cells #[.slice A n c] 22 (0,0))
 ha:W.heap[w.heap.size+1]?=some (.cells #[.int .i64 at_] 3 (0,0))
 hz:W.heap[w.heap.size+2]?=some Z24
 hn:W.heap[w.heap.size+3]?=some (.cells #[.int .i64 nx] 3 (0,0))
theorem Es.next {w W W':World} {n c:Nat} {A:Option Addr} {l:List Int} {at_ nx:Int} (h:Es w W n c A l at_ nx) (hb:Below W.heap.size W W'):Es w W' n c A l at_ nx:=by
 have h1:=h.size
 have h2:=hb.size
 exact ⟨h.bel.trans (hb.mono h.bel.size),by omega,(hb.block _ (by omega)).trans h.hl,(hb.block _ (by omega)).trans h.ha,(hb.block _ (by omega)).trans h.hz,(hb.block _ (by omega)).trans h.hn⟩
theorem Es.facts {w W:World} {n c:Nat} {A:Option Addr} {l:List Int} {at_ nx:Int} (h:Es w W n c A l at_ nx) :
  W.cell? ⟨w.heap.size,0,none⟩=some (.slice A n c)∧W.cell? ⟨w.heap.size+1,0,none⟩=some (.int .i64 at_)∧W.cell? ⟨w.heap.size+3,0,none⟩=some (.int .i64 nx)∧W.frozen? ⟨w.heap.size+3,0,none⟩=false ∧
  w.heap.size < W.heap.size∧w.heap.size+1 < W.heap.size∧w.heap.size+2 < W.heap.size∧w.heap.size+3 < W.heap.size:=by
 have h1:=h.size
 exact ⟨cell_of_row _ _ 0 _ _ _ h.hl,cell_of_row _ _ 0 _ _ _ h.ha,cell_of_row _ _ 0 _ _ _ h.hn,frozen_of_row _ _ 0 _ _ h.hn,by omega,by omega,by omega,by omega⟩
theorem Es.stored {w W:World} {n c:Nat} {A:Option Addr} {l:List Int} {at_ nx:Int} (h:Es w W n c A l at_ nx) (v:Int):Es w (W.setCell ⟨w.heap.size+3,0,none⟩ (.int .i64 v)) n c A l at_ v :=
 ⟨h.bel.setCell (Nat.le_add_right _ _) _,by simpa using h.size,hz_set h.hl (by simp),hz_set h.ha (by simp),hz_set h.hz (by simp),put1 (i:=0) h.hn rfl⟩
end Go.Proofs.Ytmjlmjlkghpknaa
