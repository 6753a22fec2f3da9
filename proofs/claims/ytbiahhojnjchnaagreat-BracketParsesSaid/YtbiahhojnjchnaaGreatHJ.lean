/-
  Escaped and TokenAt of the reference: their closures, and what they share. Escaped, plain: by cases. Escaped of the reference: walked.
-/
import Derived.Test.YtbiahhojnjchnaaGreatHI
import Derived.Test.YtbiahhojnjchnaaGreatGQ
import Derived.Test.YtbiahhojnjchnaaGreatHE
import Derived.Test.YtbiahhojnjchnaaGreatGR
set_option linter.unusedVariables false
set_option linter.unusedSimpArgs false
namespace Go.Proofs.YtbiahhojnjchnaaGreat
open Go.RowKit
set_option maxHeartbeats 1000000 in
theorem is29 {n c bl ba X:Nat} {A:Option Addr} {l:List Int} {w:World} (s:ByteArray) (at_:Int) (v:Bool) (h:Pts X n c A l w) (hl:w.cell? ⟨bl,0,none⟩=some (.slice A n c)) (ha:w.cell? ⟨ba,0,none⟩=some (.int .i64 at_))
  (hs:s.size≤100) (h0:0≤at_∧at_≤2000) (hv:v=saysP l at_ s.data.toList) :
  Calls Tryz.prog 178 #[.string s,.pointer (some ⟨bl,0,none⟩),.pointer (some ⟨ba,0,none⟩)] w fun e w'=>e=.returned (.bool v)∧Below w.heap.size w w'∧w'.heap.size=w.heap.size:=by
 have C:=Lib.hid (says_p s at_ v h hs h0 hv)
 clear hv
 go_enter Tryz.func178,Tryz.ntmps178
 go_wp2_with (go_at_call 61;refine C.out.mono ?_;rintro e w1 ⟨rfl,hb,hs1⟩;have HB:=Lib.hid hb;have HS:=Lib.hid hs1;clear hb hs1)
 go_ret
 exact ⟨rfl,HB.out,HS.out⟩
set_option maxHeartbeats 1000000 in
theorem is17 {n c bl ba X:Nat} {A:Option Addr} {l:List Int} {w:World} (s:ByteArray) (at_:Int) (v:Bool) (h:Pts X n c A l w) (hl:w.cell? ⟨bl,0,none⟩=some (.slice A n c)) (ha:w.cell? ⟨ba,0,none⟩=some (.int .i64 at_))
  (hs:s.size≤100) (h0:0≤at_∧at_≤2000) (hv:v=saysP l at_ s.data.toList) :
  Calls Tryz.prog 137 #[.string s,.pointer (some ⟨bl,0,none⟩),.pointer (some ⟨ba,0,none⟩)] w fun e w'=>e=.returned (.bool v)∧Below w.heap.size w w'∧w'.heap.size=w.heap.size:=by
 have C:=Lib.hid (says_p s at_ v h hs h0 hv)
 clear hv
 go_enter Tryz.func137,Tryz.ntmps137
 go_wp2_with (go_at_call 61;refine C.out.mono ?_;rintro e w1 ⟨rfl,hb,hs1⟩;have HB:=Lib.hid hb;have HS:=Lib.hid hs1;clear hb hs1)
 go_ret
 exact ⟨rfl,HB.out,HS.out⟩
theorem point23 (p:Int) (w:World):Calls Tryz.prog 142 #[.int .i64 p] w fun e w'=>e=.returned (pointT p).agg∧Below w.heap.size w w':=by
 have HB0:=Lib.hid (show Below w.heap.size w (w.alloc (.cells #[.int .i64 0,.int .i64 0,.string ⟨#[]⟩,.bool false,.int .i64 0,.int .i64 0,.int .i64 0,.int .i64 0] 108)) from (Below.refl _ _).alloc (Nat.le_refl _) _)
 go_enter Tryz.func142,Tryz.ntmps142
 go_wp2_with ((with_reducible apply store24 (g:=w.heap.size));rfl;(with_reducible rfl);rfl;rfl;(exact hz_new);rfl;rfl)
 ((try simp only [Exit.inBlock,Exit.then]);refine bodyPost_ret (v:=_) (results24 Tryz.results142 _ _ w.heap.size _ ?_ (row24 ?_) ?_) rfl ?_;rfl;(exact hz_new);rfl;exact And.intro rfl (Below.setRow HB0.out (Nat.le_refl _) _))
theorem put24d {w:World} {g:Nat} {a0 a1 a2 a3 a4 a5 a6 a7 b0 b1 b2 b3 b4 b5 b6 b7:Value} {t:TypeId} (h:w.heap[g]?=some (.cells #[a0,a1,a2,a3,a4,a5,a6,a7] t (0,0))) :
  (((((((((w.setCell ⟨g,0,none⟩ b0).setCell ⟨g,1,none⟩ b1).setCell ⟨g,2,none⟩ b2).setCell ⟨g,3,none⟩ b3).setCell ⟨g,4,none⟩ b4).setCell ⟨g,5,none⟩ b5).setCell ⟨g,6,none⟩ b6).setCell ⟨g,7,none⟩ b7).drew).heap[g]?=some (.cells #[b0,b1,b2,b3,b4,b5,b6,b7] t (0,0)):=by
 rw [heap_drew];exact put24 h
theorem put24d_below {B:Nat} {a w:World} {g:Nat} {b0 b1 b2 b3 b4 b5 b6 b7:Value} (h:Below B a w) (hg:B≤g) :
  Below B a ((((((((w.setCell ⟨g,0,none⟩ b0).setCell ⟨g,1,none⟩ b1).setCell ⟨g,2,none⟩ b2).setCell ⟨g,3,none⟩ b3).setCell ⟨g,4,none⟩ b4).setCell ⟨g,5,none⟩ b5).setCell ⟨g,6,none⟩ b6).setCell ⟨g,7,none⟩ b7).drew:=(put24_below h hg).drew
set_option maxRecDepth 100000 in
set_option maxHeartbeats 1000000 in
theorem look30 (k nx:Int) (bn:Nat) (w:World) (hlt:bn < w.heap.size) (hn:w.cell? ⟨bn,0,none⟩=some (.int .i64 nx)) :
  Calls Tryz.prog 179 #[.int .i64 k,.pointer (some ⟨bn,0,none⟩)] w fun e w'=>e=.returned (.tuple #[(lookT k).agg,.int .i64 nx,.int .i64 0])∧Below w.heap.size w w':=by
 go_enter Tryz.func179,Tryz.ntmps179
 go_wp2_with fail
 go_region
 go_wp2_with fail
 ((try simp only [Exit.inBlock,Exit.then]);refine bodyPost_ret (v:=_) (results24q Tryz.results179 _ _ w.heap.size (#[.int .i64 3,.int .i64 k,.string ⟨#[]⟩,.bool false,.int .i64 0,.int .i64 0,.int .i64 0,.int .i64 0]) (.int .i64 nx) (.int .i64 0) ?_ ?_ ?_ ?_ ?_) rfl ?_;rfl;rfl;rfl;(rw [heap_drew];exact heap_alloc_new w _);rfl;exact And.intro rfl (Below.drew ((Below.refl _ _).alloc (Nat.le_refl _) _)))
/-- a reader of a pattern, its boxes: the pattern, the place, the token told, the place behind -/
structure Es (w W:World) (n c:Nat) (A:Option Addr) (l:List Int) (at_ nx:Int):Prop where
 bel:Below w.heap.size w W
 size:w.heap.size+4≤W.heap.size
 hl:W.heap[w.heap.size]?=some (.cells #[.slice A n c] 22 (0,0))
 ha:W.heap[w.heap.size+1]?=some (.cells #[.int .i64 at_] 3 (0,0))
 hz:W.heap[w.heap.size+2]?=some Z24
 hn:W.heap[w.heap.size+3]?=some (.cells #[.int .i64 nx] 3 (0,0))
theorem Es.next {w W W':World} {n c:Nat} {A:Option Addr} {l:List Int} {at_ nx:Int} (h:Es w W n c A l at_ nx) (hb:Below W.heap.size W W'):Es w W' n c A l at_ nx:=by
 have h1:=h.size
 have h2:=hb.size
 exact ⟨h.bel.trans (hb.mono h.bel.size),by omega,(hb.block _ (by omega)).trans h.hl,(hb.block _ (by omega)).trans h.ha,(hb.block _ (by omega)).trans h.hz,(hb.block _ (by omega)).trans h.hn⟩
theorem Es.facts {w W:World} {n c:Nat} {A:Option Addr} {l:List Int} {at_ nx:Int} (h:Es w W n c A l at_ nx) :
  W.cell? ⟨w.heap.size,0,none⟩=some (.slice A n c)∧W.cell? ⟨w.heap.size+1,0,none⟩=some (.int .i64 at_)∧W.cell? ⟨w.heap.size+3,0,none⟩=some (.int .i64 nx)∧W.frozen? ⟨w.heap.size+3,0,none⟩=false ∧
  w.heap.size < W.heap.size∧w.heap.size+1 < W.heap.size∧w.heap.size+2 < W.heap.size∧w.heap.size+3 < W.heap.size:=by
 have h1:=h.size
 exact ⟨cell_of_row _ _ 0 _ _ _ h.hl,cell_of_row _ _ 0 _ _ _ h.ha,cell_of_row _ _ 0 _ _ _ h.hn,frozen_of_row _ _ 0 _ _ h.hn,by omega,by omega,by omega,by omega⟩
theorem Es.stored {w W:World} {n c:Nat} {A:Option Addr} {l:List Int} {at_ nx:Int} (h:Es w W n c A l at_ nx) (v:Int):Es w (W.setCell ⟨w.heap.size+3,0,none⟩ (.int .i64 v)) n c A l at_ v :=
 ⟨h.bel.setCell (Nat.le_add_right _ _) _,by simpa using h.size,hz_set h.hl (by simp),hz_set h.ha (by simp),hz_set h.hz (by simp),put1 (i:=0) h.hn rfl⟩
end Go.Proofs.YtbiahhojnjchnaaGreat
namespace Go.Proofs.YtbiahhojnjchnaaGreat
theorem esc_neg {d:Int} {l:List Int} {at_ p:Int} (hp:p=ptAt l at_) (h:p < 0):escapedP d l at_=.error 1:=by
 unfold escapedP;simp only;rw [← hp,if_pos h]
theorem esc_two {l:List Int} {at_ p:Int} (hp:p=ptAt l at_) (h:¬ p < 0):escapedP 2 l at_=.ok (pointT p,at_+1):=by
 unfold escapedP;simp only;rw [← hp,if_neg h,if_pos trivial]
theorem esc_three {l:List Int} {at_ p:Int} (hp:p=ptAt l at_) (h:¬ p < 0):escapedP 3 l at_=emacsP l (at_+1) p:=by
 unfold escapedP;simp only;rw [← hp,if_neg h];simp
/-- behind a backslash, in the first dialect -/
def oneP (l:List Int) (at_ p:Int):TR:=match classT p with
 | some t=>.ok (t,at_+1)
 | none =>
  if p=65 then .ok (lookT 5,at_+1)
  else if p=122 then .ok (lookT 6,at_+1)
  else if p=98 then .ok (lookT 7,at_+1)
  else if p=66 then .ok (lookT 8,at_+1)
  else match ctrlT p with
  | some c=>.ok (pointT c,at_+1)
  | none =>
   if p=120∨p=117 then scalarP l (at_+1) p
   else if p=107 then namedP l (at_+1)
   else if 49≤p∧p≤57 then .ok ({ kind:=10,num:=decN (runPts l at_ (runLen isDig l at_ 2)) },at_+(runLen isDig l at_ 2:Int))
   else if isLet p=true∨p=48 then .error 1
   else .ok (pointT p,at_+1)
theorem esc_one {l:List Int} {at_ p:Int} (hp:p=ptAt l at_) (h:¬ p < 0):escapedP 1 l at_=oneP l at_ p:=by
 unfold escapedP oneP;simp only;rw [← hp,if_neg h,if_neg (by decide),if_neg (by decide)];rfl
theorem one_class {l:List Int} {at_ p:Int} {t:Tk} (h:classT p=some t):oneP l at_ p=.ok (t,at_+1):=by unfold oneP;rw [h]
theorem one_look {l:List Int} {at_ p k:Int} (h:p=65∧k=5∨p=122∧k=6∨p=98∧k=7∨p=66∧k=8):oneP l at_ p=.ok (lookT k,at_+1):=by
 rcases h with ⟨rfl,rfl⟩|⟨rfl,rfl⟩|⟨rfl,rfl⟩|⟨rfl,rfl⟩<;>rfl
theorem one_ctrl {l:List Int} {at_ p c:Int} (h:p=110∧c=10∨p=116∧c=9∨p=114∧c=13∨p=102∧c=12∨p=118∧c=11∨p=97∧c=7∨p=101∧c=27):oneP l at_ p=.ok (pointT c,at_+1):=by
 rcases h with ⟨rfl,rfl⟩|⟨rfl,rfl⟩|⟨rfl,rfl⟩|⟨rfl,rfl⟩|⟨rfl,rfl⟩|⟨rfl,rfl⟩|⟨rfl,rfl⟩<;>rfl
theorem one_scalar {l:List Int} {at_ p:Int} (h:p=120∨p=117):oneP l at_ p=scalarP l (at_+1) p:=by rcases h with rfl|rfl<;>rfl
theorem one_named {l:List Int} {at_:Int}:oneP l at_ 107=namedP l (at_+1):=rfl
/-- no letter that means something -/
def plainQ (p:Int):Prop:=p≠100∧p≠119∧p≠115∧p≠104∧p≠68∧p≠87∧p≠83∧p≠72∧p≠65∧p≠122∧p≠98∧p≠66∧p≠110∧p≠116∧p≠114∧p≠102∧p≠118∧p≠97∧p≠101
theorem one_rest {l:List Int} {at_ p:Int} (h:plainQ p):oneP l at_ p =
  if p=120∨p=117 then scalarP l (at_+1) p
  else if p=107 then namedP l (at_+1)
  else if 49≤p∧p≤57 then .ok ({ kind:=10,num:=decN (runPts l at_ (runLen isDig l at_ 2)) },at_+(runLen isDig l at_ 2:Int))
  else if isLet p=true∨p=48 then .error 1
  else .ok (pointT p,at_+1):=by
 obtain ⟨h1,h2,h3,h4,h5,h6,h7,h8,h9,h10,h11,h12,h13,h14,h15,h16,h17,h18,h19⟩:=h
 have hc:classT p=none:=by unfold classT;simp [h1,h2,h3,h4,h5,h6,h7,h8]
 have ht:ctrlT p=none:=by unfold ctrlT;simp [h13,h14,h15,h16,h17,h18,h19]
 unfold oneP
 rw [hc,ht]
 simp only [if_neg h9,if_neg h10,if_neg h11,if_neg h12]
theorem one_digit {l:List Int} {at_ p:Int} (h:49≤p∧p≤57):oneP l at_ p=.ok ({ kind:=10,num:=decN (runPts l at_ (runLen isDig l at_ 2)) },at_+(runLen isDig l at_ 2:Int)):=by
 rw [one_rest (by unfold plainQ;omega),if_neg (by omega),if_neg (by omega),if_pos h]
theorem one_letter {l:List Int} {at_ p:Int} (h:plainQ p) (h1:p≠120) (h2:p≠117) (h3:p≠107) (h4:isLet p=true∨p=48):oneP l at_ p=.error 1:=by
 rw [one_rest h,if_neg (by omega),if_neg h3,if_neg (by unfold isLet at h4;simp at h4;omega),if_pos h4]
theorem one_point {l:List Int} {at_ p:Int} (h:plainQ p) (h1:p≠120) (h2:p≠117) (h3:p≠107) (h4:¬ (isLet p=true∨p=48)) (h5:¬ (49≤p∧p≤57)):oneP l at_ p=.ok (pointT p,at_+1):=by
 rw [one_rest h,if_neg (by omega),if_neg h3,if_neg h5,if_neg h4]
theorem em_word {l:List Int} {a:Int}:emacsP l a 119=.ok ({ kind:=4,text:=[119,111,114,100] },a):=rfl
theorem em_nword {l:List Int} {a:Int}:emacsP l a 87=.ok ({ kind:=4,text:=[119,111,114,100],not_:=true },a):=rfl
theorem em_look {l:List Int} {a p k:Int} (h:p=98∧k=7∨p=66∧k=8∨p=96∧k=5∨p=39∧k=6):emacsP l a p=.ok (lookT k,a):=by
 rcases h with ⟨rfl,rfl⟩|⟨rfl,rfl⟩|⟨rfl,rfl⟩|⟨rfl,rfl⟩<;>rfl
theorem em_open {l:List Int} {a:Int}:emacsP l a 40=openP 3 l a:=rfl
theorem em_close {l:List Int} {a:Int}:emacsP l a 41=.ok ({ kind:=8 },a):=rfl
theorem em_bar {l:List Int} {a:Int}:emacsP l a 124=.ok ({ kind:=9 },a):=rfl
theorem em_brace {l:List Int} {a:Int}:emacsP l a 123=match intervalP 3 l a with
  | some r=>r
  | none=>.error 1:=rfl
theorem em_digit {l:List Int} {a p:Int} (h:49≤p∧p≤57):emacsP l a p=.ok ({ kind:=10,num:=p - 48 },a):=by
 unfold emacsP
 rw [if_neg (by omega),if_neg (by omega),if_neg (by omega),if_neg (by omega),if_neg (by omega),if_neg (by omega),if_neg (by omega),if_neg (by omega),if_neg (by omega),if_neg (by omega),if_pos h]
theorem em_point {l:List Int} {a p:Int} (h1:p≠40) (h2:p≠41) (h3:p≠124) (h4:p≠123) (h5:p≠119) (h6:p≠87) (h7:p≠98) (h8:p≠66) (h9:p≠96) (h10:p≠39) (h11:¬ (49≤p∧p≤57)):emacsP l a p=.ok (pointT p,a):=by
 unfold emacsP
 simp only [if_neg h1,if_neg h2,if_neg h3,if_neg h4,if_neg h5,if_neg h6,if_neg h7,if_neg h8,if_neg h9,if_neg h10,if_neg h11]
theorem sc_u_few {l:List Int} {a:Int} (h:runLen isHexP l a 4 < 4):scalarP l a 117=.error 1:=by unfold scalarP;rw [if_pos rfl,if_pos h]
theorem sc_u {l:List Int} {a:Int} (h:¬ runLen isHexP l a 4 < 4):scalarP l a 117=scalarEnd (runPts l a (runLen isHexP l a 4)) (a+runLen isHexP l a 4):=by unfold scalarP;rw [if_pos rfl,if_neg h]
theorem sc_x {l:List Int} {a:Int} (h:ptAt l a≠123):scalarP l a 120=scalarEnd (runPts l a (runLen isHexP l a 2)) (a+runLen isHexP l a 2):=by unfold scalarP;rw [if_neg (by decide),if_neg h]
theorem sc_b_bad {l:List Int} {a:Int} (h:ptAt l a=123) (h2:ptAt l (a+1+runLen isHexP l (a+1) 6)≠125):scalarP l a 120=.error 1:=by unfold scalarP;rw [if_neg (by decide),if_pos h,if_pos h2]
theorem sc_b {l:List Int} {a:Int} (h:ptAt l a=123) (h2:ptAt l (a+1+runLen isHexP l (a+1) 6)=125):scalarP l a 120=scalarEnd (runPts l (a+1) (runLen isHexP l (a+1) 6)) (a+1+runLen isHexP l (a+1) 6+1):=by unfold scalarP;rw [if_neg (by decide),if_pos h,if_neg (fun x=>x h2)]
theorem sc_nil {x:List Int} {t:Int} (h:x.length=0):scalarEnd x t=.error 1:=by unfold scalarEnd;rw [if_pos h]
theorem sc_big {x:List Int} {t:Int} (h:x.length≠0) (h2:1114111 < hexN x):scalarEnd x t=.error 3:=by unfold scalarEnd;rw [if_neg h,if_pos h2]
theorem sc_ok {x:List Int} {t:Int} (h:x.length≠0) (h2:¬ 1114111 < hexN x):scalarEnd x t=.ok (pointT (hexN x),t):=by unfold scalarEnd;rw [if_neg h,if_neg h2]
end Go.Proofs.YtbiahhojnjchnaaGreat
namespace Go.Proofs.YtbiahhojnjchnaaGreat
open Go.RowKit
theorem Es.drew {w W:World} {n c:Nat} {A:Option Addr} {l:List Int} {at_ nx:Int} (h:Es w W n c A l at_ nx):Es w W.drew n c A l at_ nx:=h.next (Below.drew (Below.refl _ _))
theorem Es.zs {w W:World} {n c:Nat} {A:Option Addr} {l:List Int} {at_ nx:Int} (h:Es w W n c A l at_ nx) :
  (W.cell? ⟨w.heap.size+2,0,none⟩=some (.int .i64 0)∧W.cell? ⟨w.heap.size+2,0+1,none⟩=some (.int .i64 0)∧W.cell? ⟨w.heap.size+2,0+2,none⟩=some (.string ⟨#[]⟩)∧W.cell? ⟨w.heap.size+2,0+3,none⟩=some (.bool false)∧W.cell? ⟨w.heap.size+2,0+4,none⟩=some (.int .i64 0)∧W.cell? ⟨w.heap.size+2,0+5,none⟩=some (.int .i64 0)∧W.cell? ⟨w.heap.size+2,0+6,none⟩=some (.int .i64 0)∧W.cell? ⟨w.heap.size+2,0+7,none⟩=some (.int .i64 0)) ∧
  (W.frozen? ⟨w.heap.size+2,0,none⟩=false∧W.frozen? ⟨w.heap.size+2,0+1,none⟩=false∧W.frozen? ⟨w.heap.size+2,0+2,none⟩=false∧W.frozen? ⟨w.heap.size+2,0+3,none⟩=false∧W.frozen? ⟨w.heap.size+2,0+4,none⟩=false∧W.frozen? ⟨w.heap.size+2,0+5,none⟩=false∧W.frozen? ⟨w.heap.size+2,0+6,none⟩=false∧W.frozen? ⟨w.heap.size+2,0+7,none⟩=false) :=
 ⟨cells8 h.hz,frozen_of_row _ _ _ _ _ h.hz,frozen_of_row _ _ _ _ _ h.hz,frozen_of_row _ _ _ _ _ h.hz,frozen_of_row _ _ _ _ _ h.hz,frozen_of_row _ _ _ _ _ h.hz,frozen_of_row _ _ _ _ _ h.hz,frozen_of_row _ _ _ _ _ h.hz,frozen_of_row _ _ _ _ _ h.hz⟩
theorem Es.row {w W:World} {n c:Nat} {A:Option Addr} {l:List Int} {at_ nx:Int} (h:Es w W n c A l at_ nx):W.heap[w.heap.size+2]?=some (.cells #[.int .i64 0,.int .i64 0,.string ⟨#[]⟩,.bool false,.int .i64 0,.int .i64 0,.int .i64 0,.int .i64 0] 108 (0,0)):=h.hz
theorem es_is {w W:World} {n c:Nat} {A:Option Addr} {l:List Int} {at_ nx p:Int} (h:Es w W n c A l at_ nx) (hP:∀ w',Below w.heap.size w w'→Pts w.heap.size n c A l w') (hr:0≤at_∧at_≤2000) (hp:p=ptAt l at_) (b:UInt8) (x:Int) (v:Bool) (hx:(b.toNat:Int)=x) (hv:v=decide (p=x)) :
  Calls Tryz.prog 178 #[.string ⟨#[b]⟩,.pointer (some ⟨w.heap.size,0,none⟩),.pointer (some ⟨w.heap.size+1,0,none⟩)] W fun e w'=>e=.returned (.bool v)∧Es w w' n c A l at_ nx∧Below W.heap.size W w' :=
 (is29 ⟨#[b]⟩ at_ v (hP W h.bel) h.facts.1 h.facts.2.1 (by simp [ByteArray.size]) hr (by rw [hv,hp,← hx];exact (saysP_one l at_ b).symm)).mono fun e w' ⟨he,hb,_⟩=>⟨he,h.next hb,hb⟩
/-- none of the first k classes -/
def Q1 (k:Nat) (p:Int):Prop:=(0 < k→p≠100∧p≠68)∧(1 < k→p≠119∧p≠87)∧(2 < k→p≠115∧p≠83)∧(3 < k→p≠104∧p≠72)
def Q3 (k:Nat) (p:Int):Prop:=1 < k→p≠119∧p≠87
theorem step_store24 {ops:Array Oper} {o:Oper} {a:Act} {w:World} {K:Act→World→Prop} {Q:Exit→Act→World→Prop} {E:Prop} {x y:Operand} {g:Nat} {cells:Array Value} (hgd:o.guard=none) (ho:o.op=.store 108 x y)
  (hx:a.eval x=.pointer (some ⟨g,0,none⟩)) (hy:a.eval y=.agg cells) (hz:w.heap[g]?=some Z24) (hs:cells.size=8) (h1:cells.toList.all (·.oneCell')=true)
  (h:K (a.put o.dst undef) (w.setRow g cells)):if Region.wanted o (yielded ops a.tmps)=true then Oper.wp Tryz.prog o a w K Q else E:=by
 have hw:Region.wanted o (yielded ops a.tmps)=true:=by simp [Region.wanted,hgd]
 rw [if_pos hw]
 exact wp_store_row 108 x y ho g cells hx hy 108 _ hz (by rw [hs];exact info24) (by rw [hs];rfl) (by rw [← Array.all_toList];exact h1) h
def ctl:Nat→Int
 | 0=>110
 | 1=>116
 | 2=>114
 | 3=>102
 | 4=>118
 | 5=>97
 | _=>101
theorem Es.other {w W:World} {n c:Nat} {A:Option Addr} {l:List Int} {at_ nx:Int} (h:Es w W n c A l at_ nx) {g:Nat} (hg:w.heap.size+4≤g) (i:Nat) (v:Value):Es w (W.setCell ⟨g,i,none⟩ v) n c A l at_ nx :=
 ⟨h.bel.setCell (show w.heap.size≤g by omega) _,by simpa using h.size,hz_set h.hl (show _≠g by omega),hz_set h.ha (show _≠g by omega),hz_set h.hz (show _≠g by omega),hz_set h.hn (show _≠g by omega)⟩
theorem put24d_cell {w:World} {g:Nat} {p:Addr} {b0 b1 b2 b3 b4 b5 b6 b7:Value} (h:p.block≠g) :
  (((((((((w.setCell ⟨g,0,none⟩ b0).setCell ⟨g,1,none⟩ b1).setCell ⟨g,2,none⟩ b2).setCell ⟨g,3,none⟩ b3).setCell ⟨g,4,none⟩ b4).setCell ⟨g,5,none⟩ b5).setCell ⟨g,6,none⟩ b6).setCell ⟨g,7,none⟩ b7).drew).cell? p=w.cell? p:=by
 have e:∀ (x:World),x.drew.cell? p=x.cell? p:=fun _=>rfl
 rw [e]
 exact put24_cell h
theorem es_is2 {w W:World} {n c:Nat} {A:Option Addr} {l:List Int} {at_ nx:Int} (h:Es w W n c A l at_ nx) (hP:∀ w',Below w.heap.size w w'→Pts w.heap.size n c A l w') (hr:0≤at_∧at_≤2000) (b1 b2:UInt8) (v:Bool) (hv:v=saysP l at_ [b1,b2]) :
  Calls Tryz.prog 178 #[.string ⟨#[b1,b2]⟩,.pointer (some ⟨w.heap.size,0,none⟩),.pointer (some ⟨w.heap.size+1,0,none⟩)] W fun e w'=>e=.returned (.bool v)∧Es w w' n c A l at_ nx∧Below W.heap.size W w' :=
 (is29 ⟨#[b1,b2]⟩ at_ v (hP W h.bel) h.facts.1 h.facts.2.1 (by simp [ByteArray.size]) hr hv).mono fun e w' ⟨he,hb,_⟩=>⟨he,h.next hb,hb⟩
theorem hexV_pos {p:Int} (h:isHexP p=true):0≤hexV p∧hexV p≤15:=by
 rcases isHexP_cases h with h1|h1|h1
 ·unfold hexV isDig;rw [if_pos (by simp;omega)];omega
 ·unfold hexV isDig;rw [if_neg (by simp;omega),if_pos h1];omega
 ·unfold hexV isDig;rw [if_neg (by simp;omega),if_neg (by omega),if_pos h1];omega
theorem hexV_neg {p:Int} (h:isHexP p=false):hexV p < 0:=by
 unfold isHexP at h
 simp at h
 obtain ⟨⟨h1,h2⟩,h3⟩:=h
 unfold hexV
 rw [if_neg (by rw [h1];simp),if_neg (by intro ⟨a,b⟩;have:=h2 a;omega),if_neg (by intro ⟨a,b⟩;have:=h3 a;omega)]
 decide
end Go.Proofs.YtbiahhojnjchnaaGreat
