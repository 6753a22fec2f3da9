/-
  beside of the reference: walked.
-/
import Derived.Test.YtbiahhojnjchnaaGreatGO
import Derived.Test.YtbiahhojnjchnaaGreatGK
set_option linter.unusedVariables false
set_option linter.unusedSimpArgs false
namespace Go.Proofs.YtbiahhojnjchnaaGreat
open Go.RowKit
theorem btw (p lo hi:Int) (b:Bool) (w:World) (h:(decide (lo≤p) && decide (p≤hi))=b):Calls Tryz.prog 119 #[.int .i64 p,.int .i64 lo,.int .i64 hi] w fun e w'=>e=.returned (.bool b)∧w=w' :=
 (between_any p lo hi w).mono fun _ _ ⟨h1,h2⟩=>⟨by rw [h1,h],h2.symm⟩
theorem btw_f {p lo hi:Int} (h:¬ (lo≤p∧p≤hi)):(decide (lo≤p) && decide (p≤hi))=false:=by rw [Bool.eq_false_iff];simp;omega
theorem btw_t {p lo hi:Int} (h:lo≤p∧p≤hi):(decide (lo≤p) && decide (p≤hi))=true:=by simp;omega
set_option maxRecDepth 100000 in
set_option maxHeartbeats 2000000 in
theorem fwd_a (p:Int) (w:World) (p0:-20000≤p) (p1:p≤2000000) (h:c1 p=true):Calls Tryz.prog 95 #[.int .i64 p] w (OwnInts w [p+32]):=by
 have h':=of_decide_eq_true h
 have B6:=Lib.hid (btw_f (p:=p) (lo:=256) (hi:=302) (by omega))
 have B7:=Lib.hid (btw_f (p:=p) (lo:=1024) (hi:=1039) (by omega))
 have e962:(p == 962)=false:=beq_eq_false_iff_ne.2 (by omega)
 have e181:(p == 181)=false:=beq_eq_false_iff_ne.2 (by omega)
 have e8490:(p == 8490)=false:=beq_eq_false_iff_ne.2 (by omega)
 have e8491:(p == 8491)=false:=beq_eq_false_iff_ne.2 (by omega)
 have e7838:(p == 7838)=false:=beq_eq_false_iff_ne.2 (by omega)
 have R:=Lib.hid (Rds.new w 1 1 #[.int .i64 (p+32)] 3 (ints [p+32]) rfl rfl)
 go_enter Tryz.func95,Tryz.ntmps95
 have H:=Lib.hid h'
 clear h h'
 go_upto_region 2 with (fail)
 go_cut [25] from 4 to 26 (fun z wc=>z=.bool true∧w=wc)
 case first =>
  go_wp2_with (go_at_call 119;refine (between_any _ _ _ _).mono ?_;rintro e w' ⟨rfl,rfl⟩)
  all_goals (go_meet;refine ⟨congrArg Value.bool ?_,rfl⟩;have:=H.out;simp_all<;>omega)
 case rest =>
  obtain ⟨rfl,rfl⟩:=hcut
  go_wp2_with (first|(go_at_call 119;(with_reducible refine (btw p 256 302 false _ B6.out).mono ?_);rintro e w' ⟨rfl,rfl⟩)|(go_at_call 119;(with_reducible refine (btw p 1024 1039 false _ B7.out).mono ?_);rintro e w' ⟨rfl,rfl⟩)|(at_builtin;refine app_ints (.tmp 26) (.tmp 29) (base:=w.heap.size) (xs:=[]) (World.ownsRow_nil _ _ _ _) R.out (by omega) (by simp) rfl rfl rfl rfl ?_;intro v3 w3 hown3 hg3 hat3))
  go_ret
  exact ownInts_of rfl hown3 ((((Below.refl _ _).alloc (Nat.le_refl _) _)).grown hg3 (by simp) (fun g hg=>by simp [Value.ownBlock] at hg))
set_option maxRecDepth 100000 in
set_option maxHeartbeats 2000000 in
theorem fwd_b (p:Int) (w:World) (p0:-20000≤p) (p1:p≤2000000) (h:256≤p∧p≤302∧p % 2=0):Calls Tryz.prog 95 #[.int .i64 p] w (OwnInts w [p+1]):=by
 have B0:=Lib.hid (btw_f (p:=p) (lo:=65) (hi:=90) (by omega))
 have B1:=Lib.hid (btw_f (p:=p) (lo:=192) (hi:=214) (by omega))
 have B2:=Lib.hid (btw_f (p:=p) (lo:=216) (hi:=222) (by omega))
 have B3:=Lib.hid (btw_f (p:=p) (lo:=913) (hi:=929) (by omega))
 have B4:=Lib.hid (btw_f (p:=p) (lo:=931) (hi:=939) (by omega))
 have B5:=Lib.hid (btw_f (p:=p) (lo:=1040) (hi:=1071) (by omega))
 have B6:=Lib.hid (btw_t (p:=p) (lo:=256) (hi:=302) (by omega))
 have B7:=Lib.hid (btw_f (p:=p) (lo:=1024) (hi:=1039) (by omega))
 have e962:(p == 962)=false:=beq_eq_false_iff_ne.2 (by omega)
 have e181:(p == 181)=false:=beq_eq_false_iff_ne.2 (by omega)
 have e8490:(p == 8490)=false:=beq_eq_false_iff_ne.2 (by omega)
 have e8491:(p == 8491)=false:=beq_eq_false_iff_ne.2 (by omega)
 have e7838:(p == 7838)=false:=beq_eq_false_iff_ne.2 (by omega)
 have em:(p % 2 == 0)=true:=beq_iff_eq.2 h.2.2
 obtain ⟨q0,q1,_⟩:=h
 have R:=Lib.hid (Rds.new w 1 1 #[.int .i64 (p+1)] 3 (ints [p+1]) rfl rfl)
 go_enter Tryz.func95,Tryz.ntmps95
 go_wp2_with (first|(go_at_call 119;(with_reducible refine (btw p 65 90 false _ B0.out).mono ?_);rintro e w' ⟨rfl,rfl⟩)|(go_at_call 119;(with_reducible refine (btw p 192 214 false _ B1.out).mono ?_);rintro e w' ⟨rfl,rfl⟩)|(go_at_call 119;(with_reducible refine (btw p 216 222 false _ B2.out).mono ?_);rintro e w' ⟨rfl,rfl⟩)|(go_at_call 119;(with_reducible refine (btw p 913 929 false _ B3.out).mono ?_);rintro e w' ⟨rfl,rfl⟩)|(go_at_call 119;(with_reducible refine (btw p 931 939 false _ B4.out).mono ?_);rintro e w' ⟨rfl,rfl⟩)|(go_at_call 119;(with_reducible refine (btw p 1040 1071 false _ B5.out).mono ?_);rintro e w' ⟨rfl,rfl⟩)|(go_at_call 119;(with_reducible refine (btw p 256 302 true _ B6.out).mono ?_);rintro e w' ⟨rfl,rfl⟩)|(go_at_call 119;(with_reducible refine (btw p 1024 1039 false _ B7.out).mono ?_);rintro e w' ⟨rfl,rfl⟩)|(at_builtin;refine app_ints (.tmp 42) (.tmp 45) (base:=w.heap.size) (xs:=[]) (World.ownsRow_nil _ _ _ _) R.out (by omega) (by simp) rfl rfl rfl rfl ?_;intro v3 w3 hown3 hg3 hat3))
 go_ret
 exact ownInts_of rfl hown3 ((((Below.refl _ _).alloc (Nat.le_refl _) _)).grown hg3 (by simp) (fun g hg=>by simp [Value.ownBlock] at hg))
set_option maxRecDepth 100000 in
set_option maxHeartbeats 2000000 in
theorem fwd_c (w:World):Calls Tryz.prog 95 #[.int .i64 962] w (OwnInts w [963]):=by
 have R:=Lib.hid (Rds.new w 1 1 #[.int .i64 963] 3 (ints [963]) rfl rfl)
 have B0:=Lib.hid (btw_f (p:=962) (lo:=65) (hi:=90) (by decide))
 have B1:=Lib.hid (btw_f (p:=962) (lo:=192) (hi:=214) (by decide))
 have B2:=Lib.hid (btw_f (p:=962) (lo:=216) (hi:=222) (by decide))
 have B3:=Lib.hid (btw_f (p:=962) (lo:=913) (hi:=929) (by decide))
 have B4:=Lib.hid (btw_f (p:=962) (lo:=931) (hi:=939) (by decide))
 have B5:=Lib.hid (btw_f (p:=962) (lo:=1040) (hi:=1071) (by decide))
 have B6:=Lib.hid (btw_f (p:=962) (lo:=256) (hi:=302) (by decide))
 have B7:=Lib.hid (btw_f (p:=962) (lo:=1024) (hi:=1039) (by decide))
 go_enter Tryz.func95,Tryz.ntmps95
 go_wp2_with (first|(go_at_call 119;(with_reducible refine (btw 962 65 90 false _ B0.out).mono ?_);rintro e w' ⟨rfl,rfl⟩)|(go_at_call 119;(with_reducible refine (btw 962 192 214 false _ B1.out).mono ?_);rintro e w' ⟨rfl,rfl⟩)|(go_at_call 119;(with_reducible refine (btw 962 216 222 false _ B2.out).mono ?_);rintro e w' ⟨rfl,rfl⟩)|(go_at_call 119;(with_reducible refine (btw 962 913 929 false _ B3.out).mono ?_);rintro e w' ⟨rfl,rfl⟩)|(go_at_call 119;(with_reducible refine (btw 962 931 939 false _ B4.out).mono ?_);rintro e w' ⟨rfl,rfl⟩)|(go_at_call 119;(with_reducible refine (btw 962 1040 1071 false _ B5.out).mono ?_);rintro e w' ⟨rfl,rfl⟩)|(go_at_call 119;(with_reducible refine (btw 962 256 302 false _ B6.out).mono ?_);rintro e w' ⟨rfl,rfl⟩)|(go_at_call 119;(with_reducible refine (btw 962 1024 1039 false _ B7.out).mono ?_);rintro e w' ⟨rfl,rfl⟩)|(at_builtin;refine app_ints (.tmp 42) (.tmp 45) (base:=w.heap.size) (xs:=[]) (World.ownsRow_nil _ _ _ _) R.out (by omega) (by simp) rfl rfl rfl rfl ?_;intro v3 w3 hown3 hg3 hat3))
 go_ret
 exact ownInts_of rfl hown3 ((((Below.refl _ _).alloc (Nat.le_refl _) _)).grown hg3 (by simp) (fun g hg=>by simp [Value.ownBlock] at hg))
set_option maxRecDepth 100000 in
set_option maxHeartbeats 2000000 in
theorem fwd_d (p:Int) (w:World) (p0:-20000≤p) (p1:p≤2000000) (h:1024≤p∧p≤1039):Calls Tryz.prog 95 #[.int .i64 p] w (OwnInts w [p+80]):=by
 have B0:=Lib.hid (btw_f (p:=p) (lo:=65) (hi:=90) (by omega))
 have B1:=Lib.hid (btw_f (p:=p) (lo:=192) (hi:=214) (by omega))
 have B2:=Lib.hid (btw_f (p:=p) (lo:=216) (hi:=222) (by omega))
 have B3:=Lib.hid (btw_f (p:=p) (lo:=913) (hi:=929) (by omega))
 have B4:=Lib.hid (btw_f (p:=p) (lo:=931) (hi:=939) (by omega))
 have B5:=Lib.hid (btw_f (p:=p) (lo:=1040) (hi:=1071) (by omega))
 have B6:=Lib.hid (btw_f (p:=p) (lo:=256) (hi:=302) (by omega))
 have B7:=Lib.hid (btw_t (p:=p) (lo:=1024) (hi:=1039) (by omega))
 have e962:(p == 962)=false:=beq_eq_false_iff_ne.2 (by omega)
 have e181:(p == 181)=false:=beq_eq_false_iff_ne.2 (by omega)
 have e8490:(p == 8490)=false:=beq_eq_false_iff_ne.2 (by omega)
 have e8491:(p == 8491)=false:=beq_eq_false_iff_ne.2 (by omega)
 have e7838:(p == 7838)=false:=beq_eq_false_iff_ne.2 (by omega)
 obtain ⟨q0,q1⟩:=h
 have R:=Lib.hid (Rds.new w 1 1 #[.int .i64 (p+80)] 3 (ints [p+80]) rfl rfl)
 go_enter Tryz.func95,Tryz.ntmps95
 go_wp2_with (first|(go_at_call 119;(with_reducible refine (btw p 65 90 false _ B0.out).mono ?_);rintro e w' ⟨rfl,rfl⟩)|(go_at_call 119;(with_reducible refine (btw p 192 214 false _ B1.out).mono ?_);rintro e w' ⟨rfl,rfl⟩)|(go_at_call 119;(with_reducible refine (btw p 216 222 false _ B2.out).mono ?_);rintro e w' ⟨rfl,rfl⟩)|(go_at_call 119;(with_reducible refine (btw p 913 929 false _ B3.out).mono ?_);rintro e w' ⟨rfl,rfl⟩)|(go_at_call 119;(with_reducible refine (btw p 931 939 false _ B4.out).mono ?_);rintro e w' ⟨rfl,rfl⟩)|(go_at_call 119;(with_reducible refine (btw p 1040 1071 false _ B5.out).mono ?_);rintro e w' ⟨rfl,rfl⟩)|(go_at_call 119;(with_reducible refine (btw p 256 302 false _ B6.out).mono ?_);rintro e w' ⟨rfl,rfl⟩)|(go_at_call 119;(with_reducible refine (btw p 1024 1039 true _ B7.out).mono ?_);rintro e w' ⟨rfl,rfl⟩)|(at_builtin;refine app_ints (.tmp 49) (.tmp 52) (base:=w.heap.size) (xs:=[]) (World.ownsRow_nil _ _ _ _) R.out (by omega) (by simp) rfl rfl rfl rfl ?_;intro v3 w3 hown3 hg3 hat3))
 go_ret
 exact ownInts_of rfl hown3 ((((Below.refl _ _).alloc (Nat.le_refl _) _)).grown hg3 (by simp) (fun g hg=>by simp [Value.ownBlock] at hg))
set_option maxRecDepth 100000 in
set_option maxHeartbeats 2000000 in
theorem fwd_e (w:World):Calls Tryz.prog 95 #[.int .i64 181] w (OwnInts w [956]):=by
 have R:=Lib.hid (Rds.new w 1 1 #[.int .i64 956] 3 (ints [956]) rfl rfl)
 have B0:=Lib.hid (btw_f (p:=181) (lo:=65) (hi:=90) (by decide))
 have B1:=Lib.hid (btw_f (p:=181) (lo:=192) (hi:=214) (by decide))
 have B2:=Lib.hid (btw_f (p:=181) (lo:=216) (hi:=222) (by decide))
 have B3:=Lib.hid (btw_f (p:=181) (lo:=913) (hi:=929) (by decide))
 have B4:=Lib.hid (btw_f (p:=181) (lo:=931) (hi:=939) (by decide))
 have B5:=Lib.hid (btw_f (p:=181) (lo:=1040) (hi:=1071) (by decide))
 have B6:=Lib.hid (btw_f (p:=181) (lo:=256) (hi:=302) (by decide))
 have B7:=Lib.hid (btw_f (p:=181) (lo:=1024) (hi:=1039) (by decide))
 go_enter Tryz.func95,Tryz.ntmps95
 go_wp2_with (first|(go_at_call 119;(with_reducible refine (btw 181 65 90 false _ B0.out).mono ?_);rintro e w' ⟨rfl,rfl⟩)|(go_at_call 119;(with_reducible refine (btw 181 192 214 false _ B1.out).mono ?_);rintro e w' ⟨rfl,rfl⟩)|(go_at_call 119;(with_reducible refine (btw 181 216 222 false _ B2.out).mono ?_);rintro e w' ⟨rfl,rfl⟩)|(go_at_call 119;(with_reducible refine (btw 181 913 929 false _ B3.out).mono ?_);rintro e w' ⟨rfl,rfl⟩)|(go_at_call 119;(with_reducible refine (btw 181 931 939 false _ B4.out).mono ?_);rintro e w' ⟨rfl,rfl⟩)|(go_at_call 119;(with_reducible refine (btw 181 1040 1071 false _ B5.out).mono ?_);rintro e w' ⟨rfl,rfl⟩)|(go_at_call 119;(with_reducible refine (btw 181 256 302 false _ B6.out).mono ?_);rintro e w' ⟨rfl,rfl⟩)|(go_at_call 119;(with_reducible refine (btw 181 1024 1039 false _ B7.out).mono ?_);rintro e w' ⟨rfl,rfl⟩)|(at_builtin;refine app_ints (.tmp 57) (.tmp 58) (base:=w.heap.size) (xs:=[]) (World.ownsRow_nil _ _ _ _) R.out (by omega) (by simp) rfl rfl rfl rfl ?_;intro v3 w3 hown3 hg3 hat3))
 go_ret
 exact ownInts_of rfl hown3 ((((Below.refl _ _).alloc (Nat.le_refl _) _)).grown hg3 (by simp) (fun g hg=>by simp [Value.ownBlock] at hg))
set_option maxRecDepth 100000 in
set_option maxHeartbeats 2000000 in
theorem fwd_f (w:World):Calls Tryz.prog 95 #[.int .i64 8490] w (OwnInts w [107]):=by
 have R:=Lib.hid (Rds.new w 1 1 #[.int .i64 107] 3 (ints [107]) rfl rfl)
 have B0:=Lib.hid (btw_f (p:=8490) (lo:=65) (hi:=90) (by decide))
 have B1:=Lib.hid (btw_f (p:=8490) (lo:=192) (hi:=214) (by decide))
 have B2:=Lib.hid (btw_f (p:=8490) (lo:=216) (hi:=222) (by decide))
 have B3:=Lib.hid (btw_f (p:=8490) (lo:=913) (hi:=929) (by decide))
 have B4:=Lib.hid (btw_f (p:=8490) (lo:=931) (hi:=939) (by decide))
 have B5:=Lib.hid (btw_f (p:=8490) (lo:=1040) (hi:=1071) (by decide))
 have B6:=Lib.hid (btw_f (p:=8490) (lo:=256) (hi:=302) (by decide))
 have B7:=Lib.hid (btw_f (p:=8490) (lo:=1024) (hi:=1039) (by decide))
 go_enter Tryz.func95,Tryz.ntmps95
 go_wp2_with (first|(go_at_call 119;(with_reducible refine (btw 8490 65 90 false _ B0.out).mono ?_);rintro e w' ⟨rfl,rfl⟩)|(go_at_call 119;(with_reducible refine (btw 8490 192 214 false _ B1.out).mono ?_);rintro e w' ⟨rfl,rfl⟩)|(go_at_call 119;(with_reducible refine (btw 8490 216 222 false _ B2.out).mono ?_);rintro e w' ⟨rfl,rfl⟩)|(go_at_call 119;(with_reducible refine (btw 8490 913 929 false _ B3.out).mono ?_);rintro e w' ⟨rfl,rfl⟩)|(go_at_call 119;(with_reducible refine (btw 8490 931 939 false _ B4.out).mono ?_);rintro e w' ⟨rfl,rfl⟩)|(go_at_call 119;(with_reducible refine (btw 8490 1040 1071 false _ B5.out).mono ?_);rintro e w' ⟨rfl,rfl⟩)|(go_at_call 119;(with_reducible refine (btw 8490 256 302 false _ B6.out).mono ?_);rintro e w' ⟨rfl,rfl⟩)|(go_at_call 119;(with_reducible refine (btw 8490 1024 1039 false _ B7.out).mono ?_);rintro e w' ⟨rfl,rfl⟩)|(at_builtin;refine app_ints (.tmp 62) (.tmp 63) (base:=w.heap.size) (xs:=[]) (World.ownsRow_nil _ _ _ _) R.out (by omega) (by simp) rfl rfl rfl rfl ?_;intro v3 w3 hown3 hg3 hat3))
 go_ret
 exact ownInts_of rfl hown3 ((((Below.refl _ _).alloc (Nat.le_refl _) _)).grown hg3 (by simp) (fun g hg=>by simp [Value.ownBlock] at hg))
set_option maxRecDepth 100000 in
set_option maxHeartbeats 2000000 in
theorem fwd_g (w:World):Calls Tryz.prog 95 #[.int .i64 8491] w (OwnInts w [229]):=by
 have R:=Lib.hid (Rds.new w 1 1 #[.int .i64 229] 3 (ints [229]) rfl rfl)
 have B0:=Lib.hid (btw_f (p:=8491) (lo:=65) (hi:=90) (by decide))
 have B1:=Lib.hid (btw_f (p:=8491) (lo:=192) (hi:=214) (by decide))
 have B2:=Lib.hid (btw_f (p:=8491) (lo:=216) (hi:=222) (by decide))
 have B3:=Lib.hid (btw_f (p:=8491) (lo:=913) (hi:=929) (by decide))
 have B4:=Lib.hid (btw_f (p:=8491) (lo:=931) (hi:=939) (by decide))
 have B5:=Lib.hid (btw_f (p:=8491) (lo:=1040) (hi:=1071) (by decide))
 have B6:=Lib.hid (btw_f (p:=8491) (lo:=256) (hi:=302) (by decide))
 have B7:=Lib.hid (btw_f (p:=8491) (lo:=1024) (hi:=1039) (by decide))
 go_enter Tryz.func95,Tryz.ntmps95
 go_wp2_with (first|(go_at_call 119;(with_reducible refine (btw 8491 65 90 false _ B0.out).mono ?_);rintro e w' ⟨rfl,rfl⟩)|(go_at_call 119;(with_reducible refine (btw 8491 192 214 false _ B1.out).mono ?_);rintro e w' ⟨rfl,rfl⟩)|(go_at_call 119;(with_reducible refine (btw 8491 216 222 false _ B2.out).mono ?_);rintro e w' ⟨rfl,rfl⟩)|(go_at_call 119;(with_reducible refine (btw 8491 913 929 false _ B3.out).mono ?_);rintro e w' ⟨rfl,rfl⟩)|(go_at_call 119;(with_reducible refine (btw 8491 931 939 false _ B4.out).mono ?_);rintro e w' ⟨rfl,rfl⟩)|(go_at_call 119;(with_reducible refine (btw 8491 1040 1071 false _ B5.out).mono ?_);rintro e w' ⟨rfl,rfl⟩)|(go_at_call 119;(with_reducible refine (btw 8491 256 302 false _ B6.out).mono ?_);rintro e w' ⟨rfl,rfl⟩)|(go_at_call 119;(with_reducible refine (btw 8491 1024 1039 false _ B7.out).mono ?_);rintro e w' ⟨rfl,rfl⟩)|(at_builtin;refine app_ints (.tmp 67) (.tmp 68) (base:=w.heap.size) (xs:=[]) (World.ownsRow_nil _ _ _ _) R.out (by omega) (by simp) rfl rfl rfl rfl ?_;intro v3 w3 hown3 hg3 hat3))
 go_ret
 exact ownInts_of rfl hown3 ((((Below.refl _ _).alloc (Nat.le_refl _) _)).grown hg3 (by simp) (fun g hg=>by simp [Value.ownBlock] at hg))
set_option maxRecDepth 100000 in
set_option maxHeartbeats 2000000 in
theorem fwd_h (w:World):Calls Tryz.prog 95 #[.int .i64 7838] w (OwnInts w [223]):=by
 have R:=Lib.hid (Rds.new w 1 1 #[.int .i64 223] 3 (ints [223]) rfl rfl)
 have B0:=Lib.hid (btw_f (p:=7838) (lo:=65) (hi:=90) (by decide))
 have B1:=Lib.hid (btw_f (p:=7838) (lo:=192) (hi:=214) (by decide))
 have B2:=Lib.hid (btw_f (p:=7838) (lo:=216) (hi:=222) (by decide))
 have B3:=Lib.hid (btw_f (p:=7838) (lo:=913) (hi:=929) (by decide))
 have B4:=Lib.hid (btw_f (p:=7838) (lo:=931) (hi:=939) (by decide))
 have B5:=Lib.hid (btw_f (p:=7838) (lo:=1040) (hi:=1071) (by decide))
 have B6:=Lib.hid (btw_f (p:=7838) (lo:=256) (hi:=302) (by decide))
 have B7:=Lib.hid (btw_f (p:=7838) (lo:=1024) (hi:=1039) (by decide))
 go_enter Tryz.func95,Tryz.ntmps95
 go_wp2_with (first|(go_at_call 119;(with_reducible refine (btw 7838 65 90 false _ B0.out).mono ?_);rintro e w' ⟨rfl,rfl⟩)|(go_at_call 119;(with_reducible refine (btw 7838 192 214 false _ B1.out).mono ?_);rintro e w' ⟨rfl,rfl⟩)|(go_at_call 119;(with_reducible refine (btw 7838 216 222 false _ B2.out).mono ?_);rintro e w' ⟨rfl,rfl⟩)|(go_at_call 119;(with_reducible refine (btw 7838 913 929 false _ B3.out).mono ?_);rintro e w' ⟨rfl,rfl⟩)|(go_at_call 119;(with_reducible refine (btw 7838 931 939 false _ B4.out).mono ?_);rintro e w' ⟨rfl,rfl⟩)|(go_at_call 119;(with_reducible refine (btw 7838 1040 1071 false _ B5.out).mono ?_);rintro e w' ⟨rfl,rfl⟩)|(go_at_call 119;(with_reducible refine (btw 7838 256 302 false _ B6.out).mono ?_);rintro e w' ⟨rfl,rfl⟩)|(go_at_call 119;(with_reducible refine (btw 7838 1024 1039 false _ B7.out).mono ?_);rintro e w' ⟨rfl,rfl⟩)|(at_builtin;refine app_ints (.tmp 72) (.tmp 73) (base:=w.heap.size) (xs:=[]) (World.ownsRow_nil _ _ _ _) R.out (by omega) (by simp) rfl rfl rfl rfl ?_;intro v3 w3 hown3 hg3 hat3))
 go_ret
 exact ownInts_of rfl hown3 ((((Below.refl _ _).alloc (Nat.le_refl _) _)).grown hg3 (by simp) (fun g hg=>by simp [Value.ownBlock] at hg))
set_option maxRecDepth 100000 in
set_option maxHeartbeats 2000000 in
theorem fwd_i (p:Int) (w:World) (p0:-20000≤p) (p1:p≤2000000) (h:256≤p∧p≤302∧p % 2≠0):Calls Tryz.prog 95 #[.int .i64 p] w (OwnInts w []):=by
 have B0:=Lib.hid (btw_f (p:=p) (lo:=65) (hi:=90) (by omega))
 have B1:=Lib.hid (btw_f (p:=p) (lo:=192) (hi:=214) (by omega))
 have B2:=Lib.hid (btw_f (p:=p) (lo:=216) (hi:=222) (by omega))
 have B3:=Lib.hid (btw_f (p:=p) (lo:=913) (hi:=929) (by omega))
 have B4:=Lib.hid (btw_f (p:=p) (lo:=931) (hi:=939) (by omega))
 have B5:=Lib.hid (btw_f (p:=p) (lo:=1040) (hi:=1071) (by omega))
 have B6:=Lib.hid (btw_t (p:=p) (lo:=256) (hi:=302) (by omega))
 have B7:=Lib.hid (btw_f (p:=p) (lo:=1024) (hi:=1039) (by omega))
 have e962:(p == 962)=false:=beq_eq_false_iff_ne.2 (by omega)
 have e181:(p == 181)=false:=beq_eq_false_iff_ne.2 (by omega)
 have e8490:(p == 8490)=false:=beq_eq_false_iff_ne.2 (by omega)
 have e8491:(p == 8491)=false:=beq_eq_false_iff_ne.2 (by omega)
 have e7838:(p == 7838)=false:=beq_eq_false_iff_ne.2 (by omega)
 have em:(p % 2 == 0)=false:=beq_eq_false_iff_ne.2 h.2.2
 obtain ⟨q0,q1,_⟩:=h
 go_enter Tryz.func95,Tryz.ntmps95
 go_wp2_with (first|(go_at_call 119;(with_reducible refine (btw p 65 90 false _ B0.out).mono ?_);rintro e w' ⟨rfl,rfl⟩)|(go_at_call 119;(with_reducible refine (btw p 192 214 false _ B1.out).mono ?_);rintro e w' ⟨rfl,rfl⟩)|(go_at_call 119;(with_reducible refine (btw p 216 222 false _ B2.out).mono ?_);rintro e w' ⟨rfl,rfl⟩)|(go_at_call 119;(with_reducible refine (btw p 913 929 false _ B3.out).mono ?_);rintro e w' ⟨rfl,rfl⟩)|(go_at_call 119;(with_reducible refine (btw p 931 939 false _ B4.out).mono ?_);rintro e w' ⟨rfl,rfl⟩)|(go_at_call 119;(with_reducible refine (btw p 1040 1071 false _ B5.out).mono ?_);rintro e w' ⟨rfl,rfl⟩)|(go_at_call 119;(with_reducible refine (btw p 256 302 true _ B6.out).mono ?_);rintro e w' ⟨rfl,rfl⟩)|(go_at_call 119;(with_reducible refine (btw p 1024 1039 false _ B7.out).mono ?_);rintro e w' ⟨rfl,rfl⟩))
 go_ret
 exact ownInts_of rfl (World.ownsRow_nil _ _ _ _) (Below.refl _ _)
set_option maxRecDepth 100000 in
set_option maxHeartbeats 2000000 in
theorem fwd_j (p:Int) (w:World) (p0:-20000≤p) (p1:p≤2000000) (h1:c1 p=false) (h2:¬ (256≤p∧p≤302)) (h3:p≠962) (h4:¬ (1024≤p∧p≤1039)) (h5:p≠181) (h6:p≠8490) (h7:p≠8491) (h8:p≠7838):Calls Tryz.prog 95 #[.int .i64 p] w (OwnInts w []):=by
 have h':=of_decide_eq_false h1
 have B0:=Lib.hid (btw_f (p:=p) (lo:=65) (hi:=90) (by omega))
 have B1:=Lib.hid (btw_f (p:=p) (lo:=192) (hi:=214) (by omega))
 have B2:=Lib.hid (btw_f (p:=p) (lo:=216) (hi:=222) (by omega))
 have B3:=Lib.hid (btw_f (p:=p) (lo:=913) (hi:=929) (by omega))
 have B4:=Lib.hid (btw_f (p:=p) (lo:=931) (hi:=939) (by omega))
 have B5:=Lib.hid (btw_f (p:=p) (lo:=1040) (hi:=1071) (by omega))
 have B6:=Lib.hid (btw_f (p:=p) (lo:=256) (hi:=302) (by omega))
 have B7:=Lib.hid (btw_f (p:=p) (lo:=1024) (hi:=1039) (by omega))
 have e962:(p == 962)=false:=beq_eq_false_iff_ne.2 (by omega)
 have e181:(p == 181)=false:=beq_eq_false_iff_ne.2 (by omega)
 have e8490:(p == 8490)=false:=beq_eq_false_iff_ne.2 (by omega)
 have e8491:(p == 8491)=false:=beq_eq_false_iff_ne.2 (by omega)
 have e7838:(p == 7838)=false:=beq_eq_false_iff_ne.2 (by omega)
 clear h1 h' h2 h3 h4 h5 h6 h7 h8
 go_enter Tryz.func95,Tryz.ntmps95
 go_wp2_with (first|(go_at_call 119;(with_reducible refine (btw p 65 90 false _ B0.out).mono ?_);rintro e w' ⟨rfl,rfl⟩)|(go_at_call 119;(with_reducible refine (btw p 192 214 false _ B1.out).mono ?_);rintro e w' ⟨rfl,rfl⟩)|(go_at_call 119;(with_reducible refine (btw p 216 222 false _ B2.out).mono ?_);rintro e w' ⟨rfl,rfl⟩)|(go_at_call 119;(with_reducible refine (btw p 913 929 false _ B3.out).mono ?_);rintro e w' ⟨rfl,rfl⟩)|(go_at_call 119;(with_reducible refine (btw p 931 939 false _ B4.out).mono ?_);rintro e w' ⟨rfl,rfl⟩)|(go_at_call 119;(with_reducible refine (btw p 1040 1071 false _ B5.out).mono ?_);rintro e w' ⟨rfl,rfl⟩)|(go_at_call 119;(with_reducible refine (btw p 256 302 false _ B6.out).mono ?_);rintro e w' ⟨rfl,rfl⟩)|(go_at_call 119;(with_reducible refine (btw p 1024 1039 false _ B7.out).mono ?_);rintro e w' ⟨rfl,rfl⟩))
 go_ret
 exact ownInts_of rfl (World.ownsRow_nil _ _ _ _) (Below.refl _ _)
theorem beside109 (p:Int) (w:World) (hp:-20000≤p∧p≤2000000):Calls Tryz.prog 95 #[.int .i64 p] w (OwnInts w (fwd p)):=by
 obtain ⟨p0,p1⟩:=hp
 unfold fwd
 by_cases h1:c1 p=true
 ·rw [if_pos h1];exact fwd_a p w p0 p1 h1
 rw [if_neg h1]
 have h1':c1 p=false:=by simpa using h1
 by_cases h3:p=962
 ·subst h3;rw [if_pos (.inr rfl)];exact fwd_c w
 by_cases h2:256≤p∧p≤302
 ·by_cases h:p % 2=0
  ·rw [if_pos (.inl ⟨h2.1,h2.2,h⟩)];exact fwd_b p w p0 p1 ⟨h2.1,h2.2,h⟩
  ·rw [if_neg (by omega),if_neg (by omega),if_neg (by omega),if_neg (by omega),if_neg (by omega),if_neg (by omega)];exact fwd_i p w p0 p1 ⟨h2.1,h2.2,h⟩
 rw [if_neg (by omega)]
 by_cases h4:1024≤p∧p≤1039
 ·rw [if_pos h4];exact fwd_d p w p0 p1 h4
 rw [if_neg h4]
 by_cases h5:p=181
 ·subst h5;rw [if_pos rfl];exact fwd_e w
 rw [if_neg h5]
 by_cases h6:p=8490
 ·subst h6;rw [if_pos rfl];exact fwd_f w
 rw [if_neg h6]
 by_cases h7:p=8491
 ·subst h7;rw [if_pos rfl];exact fwd_g w
 rw [if_neg h7]
 by_cases h8:p=7838
 ·subst h8;rw [if_pos rfl];exact fwd_h w
 rw [if_neg h8]
 exact fwd_j p w p0 p1 h1' h2 h3 h4 h5 h6 h7 h8
end Go.Proofs.YtbiahhojnjchnaaGreat
