/- The least of the laws: tokenBegun, choose, and TokenPlain: walked. -/
import Derived.Test.YtmjlmjlkghpknaaTkX
set_option linter.unusedVariables false
set_option linter.unusedSimpArgs false
namespace Go.Proofs.Ytmjlmjlkghpknaa
open Go.RowKit
theorem nextR_begun:nextR 1 [97,123,50,125,63] 1=.ok ({ kind:=6,least:=2,most:=2,way:=2 },5):=rfl
set_option maxRecDepth 100000 in
set_option maxHeartbeats 2000000 in
theorem tokenBegun11 (w:World):Calls Try.prog 11 #[] w fun e w'=>e=.returned (.bool true)∧Below w.heap.size w w':=by
 have C:=Lib.hid (next8 1 1 [97,123,50,125,63] (some ⟨w.heap.size,0,none⟩) 5 5 (w.alloc (.cells #[.int .i64 97,.int .i64 123,.int .i64 50,.int .i64 125,.int .i64 63] 3)) (by unfold maxLen;omega) (by omega) (by rw [show (World.alloc w _).heap.size=w.heap.size+1 from by simp];exact Rds.new w 1 5 #[.int .i64 97,.int .i64 123,.int .i64 50,.int .i64 125,.int .i64 63] 3 _ rfl rfl))
 rw [nextR_begun] at C
 have HB0:=Lib.hid (show Below w.heap.size w (w.alloc (.cells #[.int .i64 97,.int .i64 123,.int .i64 50,.int .i64 125,.int .i64 63] 3)) from (Below.refl _ _).alloc (Nat.le_refl _) _)
 go_enter Try.func11,Try.ntmps11
 go_wp2_with (first
  | (go_at_call 8;refine C.out.mono ?_;rintro e w1 ⟨he,hb⟩;obtain rfl:=(show e=.returned (.tuple #[.agg #[.int .i64 6,.int .i64 0,.string ⟨#[]⟩,.bool false,.int .i64 2,.int .i64 2,.int .i64 2,.int .i64 0],.int .i64 5,.int .i64 0]) from he);have HB1:=Lib.hid (HB0.out.trans (hb.mono (by simp)));clear he hb))
 go_ret
 exact ⟨rfl,HB1.out.alloc (by have:=HB1.out.size;omega) _⟩
theorem tmod62 (x:Int):(0≤x→0≤Int.tmod x 62∧Int.tmod x 62 < 62)∧(x < 0→0≤-(Int.tmod (x+1) 62)∧-(Int.tmod (x+1) 62) < 62):=by
 refine ⟨fun h=>⟨Int.tmod_nonneg _ h,Int.tmod_lt_of_pos _ (by omega)⟩,fun h=>?_⟩
 rw [← Int.neg_tmod]
 exact ⟨Int.tmod_nonneg _ (by omega),Int.tmod_lt_of_pos _ (by omega)⟩
set_option maxRecDepth 100000 in
theorem choose12 (x:Int) (w:World) (h0:-9223372036854775808≤x) (h1:x≤9223372036854775807):Calls Try.prog 12 #[.int .i64 x,.int .i64 62] w fun e w'=>(∃ r:Int,0≤r∧r < 62∧e=.returned (.int .i64 r))∧w=w':=by
 have HT:=Lib.hid (tmod62 x)
 by_cases hx:x < 0
 ·go_enter Try.func12,Try.ntmps12
  go_wp2_with fail
  go_ret
  exact ⟨⟨-(Int.tmod (x+1) 62),(HT.out.2 hx).1,(HT.out.2 hx).2,rfl⟩,rfl⟩
 ·go_enter Try.func12,Try.ntmps12
  go_wp2_with fail
  go_ret
  exact ⟨⟨x % 62,by omega,by omega,rfl⟩,rfl⟩
/-- a letter or a digit -/
def isPlain (q:Int):Prop:=(48≤q∧q≤57)∨(65≤q∧q≤90)∨(97≤q∧q≤122)
theorem nextR_plain {d q:Int} (hq:isPlain q) (h1:1≤d) (h3:d≤3):nextR d [q] 0=.ok (pointT q,1):=by
 unfold isPlain at hq
 have hr:rightE d [q]=0:=by unfold rightE okPt;rw [if_neg (by omega),if_neg (by simp),if_pos (by simp;omega)]
 have hp:ptAt [q] 0=q:=rfl
 unfold nextR
 rw [if_neg (by rw [hr];simp),if_neg (by simp)]
 unfold tokenP
 simp only [hp]
 rw [if_neg (by omega),if_neg (by omega),if_neg (by omega),if_neg (by omega),if_neg (by omega),if_neg (by omega),if_neg (by omega),if_neg (by omega)]
 by_cases h:d=3
 ·rw [if_pos h];rfl
 ·rw [if_neg h,if_neg (by omega),if_neg (by omega),if_neg (by omega),if_neg (by omega)];rfl
theorem nextR_kind {d:Int} (l:List Int) (p:Int) (h:d < 1∨3 < d):nextR d l p=.error 7:=by
 have hr:rightE d l=7:=by unfold rightE;rw [if_pos h]
 unfold nextR
 rw [hr,if_pos (by omega)]
theorem next_one (d q:Int) (w:World) (r:TR) (hr:nextR d [q] 0=r) :
  Calls Try.prog 8 #[.int .i64 d,.slice (some ⟨w.heap.size,0,none⟩) 1 1,.int .i64 0] (w.alloc (.cells #[.int .i64 q] 3)) fun e w'=>ROut r e∧Below w.heap.size w w':=by
 have C:=next8 d 0 [q] (some ⟨w.heap.size,0,none⟩) 1 1 (w.alloc (.cells #[.int .i64 q] 3)) (by unfold maxLen;omega) (by omega) (by rw [show (World.alloc w _).heap.size=w.heap.size+1 from by simp];exact Rds.new w 1 1 #[.int .i64 q] 3 _ rfl rfl)
 rw [hr] at C
 exact C.mono fun e w' ⟨he,hb⟩=>⟨he,((Below.refl _ _).alloc (Nat.le_refl _) _).trans (hb.mono (by simp))⟩
set_option maxRecDepth 100000 in
set_option maxHeartbeats 4000000 in
theorem lawTokenPlain (d p:Int) (w:World) (h0:-9223372036854775808≤p) (h1:p≤9223372036854775807) :
  Calls Try.prog 5 #[.int .i64 d,.int .i64 p] w fun e w'=>e=.returned (.bool true)∧Below w.heap.size w w':=by
 have HN:=Lib.hid (fun (q:Int) (hq:isPlain q) (a:1≤d) (b:d≤3)=>nextR_plain hq a b)
 have HK:=Lib.hid (fun (q:Int) (a:d < 1∨3 < d)=>nextR_kind [q] 0 a)
 have HC:=Lib.hid (fun w=>choose12 p w h0 h1)
 clear h0 h1
 by_cases hd:1≤d∧d≤3
 ·obtain ⟨hd1,hd3⟩:=hd
  go_enter Try.func5,Try.ntmps5
  go_wp2_with (first
   | (go_at_call 11;refine (tokenBegun11 w).mono ?_;rintro e w1 ⟨rfl,hb⟩;have HB1:=Lib.hid hb;clear hb)
   | (go_at_call 12;refine (HC.out w1).mono ?_;rintro e w2 ⟨⟨r,hr0,hr1,rfl⟩,rfl⟩)
   | (go_at_call 8;refine (next_one d _ w1 _ (HN.out _ (by unfold isPlain;omega) hd1 hd3)).mono ?_;rintro e w2 ⟨he,hb⟩;obtain rfl:=(show e=.returned (.tuple #[.agg #[.int .i64 1,.int .i64 _,.string ⟨#[]⟩,.bool false,.int .i64 0,.int .i64 0,.int .i64 0,.int .i64 0],.int .i64 1,.int .i64 0]) from he);have HB2:=Lib.hid (HB1.out.trans (hb.mono HB1.out.size));clear he hb))
  all_goals go_ret
  all_goals exact ⟨rfl,HB2.out.alloc (by have:=HB2.out.size;omega) _⟩
 ·have hd':d < 1∨(¬ d < 1∧3 < d):=by omega
  clear hd
  rcases hd' with hd|⟨hd,hd2⟩
  all_goals
   go_enter Try.func5,Try.ntmps5
   go_wp2_with (first
    | (go_at_call 11;refine (tokenBegun11 w).mono ?_;rintro e w1 ⟨rfl,hb⟩;have HB1:=Lib.hid hb;clear hb)
    | (go_at_call 12;refine (HC.out w1).mono ?_;rintro e w2 ⟨⟨r,hr0,hr1,rfl⟩,rfl⟩)
    | (go_at_call 8;refine (next_one d _ w1 _ (HK.out _ (by omega))).mono ?_;rintro e w2 ⟨he,hb⟩;obtain rfl:=(show e=.returned (.tuple #[.agg #[.int .i64 0,.int .i64 0,.string ⟨#[]⟩,.bool false,.int .i64 0,.int .i64 0,.int .i64 0,.int .i64 0],.int .i64 0,.int .i64 7]) from he);have HB2:=Lib.hid (HB1.out.trans (hb.mono HB1.out.size));clear he hb))
   all_goals go_ret
   all_goals exact ⟨rfl,HB2.out.alloc (by have:=HB2.out.size;omega) _⟩
end Go.Proofs.Ytmjlmjlkghpknaa
