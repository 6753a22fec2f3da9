/- class of the program at each of its names: walked. -/
import Derived.Test.YtehlijnhhbdbhaaFoldM
namespace Go.Proofs.Ytehlijnhhbdbhaa
open Go.RowKit
set_option linter.unusedVariables false
theorem can_of {l : List (Int × Int)} (h : (l.all okR && gapB l) = true) : Can l := by
  rw [Bool.and_eq_true, List.all_eq_true] at h
  exact ⟨h.1, gap_pairwise l h.1 h.2⟩
/-- a class handed back -/
def ClsOut (w : World) (l : List (Int × Int)) (e : Ending) (w' : World) : Prop :=
  ∃ out A n c, e = .returned (.tuple #[.slice A n c, .bool true]) ∧ IsSet out (mem l) ∧ out.length ≤ 200 ∧ w'.ownsRow w.heap.size 44 2 (.slice A n c) n (rngs out) ∧ Below w.heap.size w w'
def SetOut (w : World) (l : List (Int × Int)) (e : Ending) (w' : World) : Prop :=
  ∃ out A n c, e = .returned (.slice A n c) ∧ IsSet out (mem l) ∧ out.length ≤ 200 ∧ w'.ownsRow w.heap.size 44 2 (.slice A n c) n (rngs out) ∧ Below w.heap.size w w'
theorem okR_all2 {a b : List (Int × Int)} (ha : a.all okR = true) (hb : b.all okR = true) : ∀ r ∈ [a, b].flatten, okR r = true := fun r hr => by
  rcases List.mem_append.1 (by simpa using hr : r ∈ a ++ b) with h | h
  · exact List.all_eq_true.1 ha r h
  · exact List.all_eq_true.1 hb r h
/-- join of two sets that read -/
theorem join_two (a b : List (Int × Int)) (A B : Option Addr) (n c m d : Nat) (w : World) (hnc : n ≤ c) (hc : c ≤ maxLen) (hmd : m ≤ d) (hd : d ≤ maxLen) (hl : a.length + b.length ≤ 200) (hoa : a.all okR = true) (hob : b.all okR = true)
    (ha : Rds w w.heap.size 2 A n (rngs a)) (hb : Rds w w.heap.size 2 B m (rngs b)) :
    Calls Try.prog 134 #[.slice (some ⟨w.heap.size, 0, none⟩) 2 2] (w.alloc (.cells #[.slice A n c, .slice B m d] 22)) (SetOut w (a ++ b)) := by
  have hb0 : Below w.heap.size w (w.alloc (.cells #[.slice A n c, .slice B m d] 22)) := by go_grown
  refine (join134 (Lib.hid sortC2) [a, b] [.slice A n c, .slice B m d] _ 2 2 _ (by decide) ((Rds.new w 1 2 #[.slice A n c, .slice B m d] 22 [.slice A n c, .slice B m d] rfl rfl).more (by simp)) ((sls_two hnc hc ha hmd hd hb).below hb0 (Nat.le_refl _) |>.more (by simp)) (by simp [total]; omega) (okR_all2 hoa hob)).mono ?_
  rintro e w1 ⟨out, hs, hlen, A1, n1, c1, rfl, hown, hb1⟩
  exact ⟨out, A1, n1, c1, rfl, by simpa using hs, by simp [total] at hlen; omega, own_mono hown (by simp), hb0.trans (hb1.mono (by simp))⟩
def l_any : List (Int × Int) := [(0, 1114111)]
set_option maxRecDepth 100000 in
set_option maxHeartbeats 2000000 in
theorem class_any (w : World) : Calls Try.prog 103 #[.string ⟨#[97, 110, 121]⟩] w (ClsOut w l_any) := by
  have hb0 : Below w.heap.size w (w.alloc (.cells #[.int .i64 0, .int .i64 1114111] 3)) := by go_grown
  have C := Lib.hid (span133 [(0, 1114111)] _ 2 2 (w.alloc (.cells #[.int .i64 0, .int .i64 1114111] 3)) (by decide) ((Rds.new w 1 2 #[.int .i64 0, .int .i64 1114111] 3 (rngs [(0, 1114111)]) rfl rfl).more (by simp)))
  go_enter Try.func103, Try.ntmps103
  go_wp2_with fail
  refine C.out.mono ?_
  rintro e w1 ⟨A, n, c, rfl, hown, hb⟩
  go_wp2
  go_ret2
  exact ⟨_, A, n, c, rfl, ⟨can_of (by decide), fun p => Iff.rfl⟩, by decide, own_mono hown (by simp), hb0.trans (hb.mono (by simp))⟩
def l_ascii : List (Int × Int) := [(0, 127)]
set_option maxRecDepth 100000 in
set_option maxHeartbeats 2000000 in
theorem class_ascii (w : World) : Calls Try.prog 103 #[.string ⟨#[97, 115, 99, 105, 105]⟩] w (ClsOut w l_ascii) := by
  have hb0 : Below w.heap.size w (w.alloc (.cells #[.int .i64 0, .int .i64 127] 3)) := by go_grown
  have C := Lib.hid (span133 [(0, 127)] _ 2 2 (w.alloc (.cells #[.int .i64 0, .int .i64 127] 3)) (by decide) ((Rds.new w 1 2 #[.int .i64 0, .int .i64 127] 3 (rngs [(0, 127)]) rfl rfl).more (by simp)))
  go_enter Try.func103, Try.ntmps103
  go_wp2_with fail
  refine C.out.mono ?_
  rintro e w1 ⟨A, n, c, rfl, hown, hb⟩
  go_wp2
  go_ret2
  exact ⟨_, A, n, c, rfl, ⟨can_of (by decide), fun p => Iff.rfl⟩, by decide, own_mono hown (by simp), hb0.trans (hb.mono (by simp))⟩
def l_cntrl : List (Int × Int) := [(0, 31), (127, 159)]
set_option maxRecDepth 100000 in
set_option maxHeartbeats 2000000 in
theorem class_cntrl (w : World) : Calls Try.prog 103 #[.string ⟨#[99, 110, 116, 114, 108]⟩] w (ClsOut w l_cntrl) := by
  have hb0 : Below w.heap.size w (w.alloc (.cells #[.int .i64 0, .int .i64 31, .int .i64 127, .int .i64 159] 3)) := by go_grown
  have C := Lib.hid (span133 [(0, 31), (127, 159)] _ 4 4 (w.alloc (.cells #[.int .i64 0, .int .i64 31, .int .i64 127, .int .i64 159] 3)) (by decide) ((Rds.new w 1 4 #[.int .i64 0, .int .i64 31, .int .i64 127, .int .i64 159] 3 (rngs [(0, 31), (127, 159)]) rfl rfl).more (by simp)))
  go_enter Try.func103, Try.ntmps103
  go_wp2_with fail
  refine C.out.mono ?_
  rintro e w1 ⟨A, n, c, rfl, hown, hb⟩
  go_wp2
  go_ret2
  exact ⟨_, A, n, c, rfl, ⟨can_of (by decide), fun p => Iff.rfl⟩, by decide, own_mono hown (by simp), hb0.trans (hb.mono (by simp))⟩
def l_digit : List (Int × Int) := [(48, 57), (1632, 1641)]
set_option maxRecDepth 100000 in
set_option maxHeartbeats 2000000 in
theorem class_digit (w : World) : Calls Try.prog 103 #[.string ⟨#[100, 105, 103, 105, 116]⟩] w (ClsOut w l_digit) := by
  have hb0 : Below w.heap.size w (w.alloc (.cells #[.int .i64 48, .int .i64 57, .int .i64 1632, .int .i64 1641] 3)) := by go_grown
  have C := Lib.hid (span133 [(48, 57), (1632, 1641)] _ 4 4 (w.alloc (.cells #[.int .i64 48, .int .i64 57, .int .i64 1632, .int .i64 1641] 3)) (by decide) ((Rds.new w 1 4 #[.int .i64 48, .int .i64 57, .int .i64 1632, .int .i64 1641] 3 (rngs [(48, 57), (1632, 1641)]) rfl rfl).more (by simp)))
  go_enter Try.func103, Try.ntmps103
  go_wp2_with fail
  refine C.out.mono ?_
  rintro e w1 ⟨A, n, c, rfl, hown, hb⟩
  go_wp2
  go_ret2
  exact ⟨_, A, n, c, rfl, ⟨can_of (by decide), fun p => Iff.rfl⟩, by decide, own_mono hown (by simp), hb0.trans (hb.mono (by simp))⟩
def l_xdigit : List (Int × Int) := [(48, 57), (65, 70), (97, 102)]
set_option maxRecDepth 100000 in
set_option maxHeartbeats 2000000 in
theorem class_xdigit (w : World) : Calls Try.prog 103 #[.string ⟨#[120, 100, 105, 103, 105, 116]⟩] w (ClsOut w l_xdigit) := by
  have hb0 : Below w.heap.size w (w.alloc (.cells #[.int .i64 48, .int .i64 57, .int .i64 65, .int .i64 70, .int .i64 97, .int .i64 102] 3)) := by go_grown
  have C := Lib.hid (span133 [(48, 57), (65, 70), (97, 102)] _ 6 6 (w.alloc (.cells #[.int .i64 48, .int .i64 57, .int .i64 65, .int .i64 70, .int .i64 97, .int .i64 102] 3)) (by decide) ((Rds.new w 1 6 #[.int .i64 48, .int .i64 57, .int .i64 65, .int .i64 70, .int .i64 97, .int .i64 102] 3 (rngs [(48, 57), (65, 70), (97, 102)]) rfl rfl).more (by simp)))
  go_enter Try.func103, Try.ntmps103
  go_wp2_with fail
  refine C.out.mono ?_
  rintro e w1 ⟨A, n, c, rfl, hown, hb⟩
  go_wp2
  go_ret2
  exact ⟨_, A, n, c, rfl, ⟨can_of (by decide), fun p => Iff.rfl⟩, by decide, own_mono hown (by simp), hb0.trans (hb.mono (by simp))⟩
def l_blank : List (Int × Int) := [(9, 9), (32, 32)]
set_option maxRecDepth 100000 in
set_option maxHeartbeats 2000000 in
theorem class_blank (w : World) : Calls Try.prog 103 #[.string ⟨#[98, 108, 97, 110, 107]⟩] w (ClsOut w l_blank) := by
  have hb0 : Below w.heap.size w (w.alloc (.cells #[.int .i64 9, .int .i64 9, .int .i64 32, .int .i64 32] 3)) := by go_grown
  have C := Lib.hid (span133 [(9, 9), (32, 32)] _ 4 4 (w.alloc (.cells #[.int .i64 9, .int .i64 9, .int .i64 32, .int .i64 32] 3)) (by decide) ((Rds.new w 1 4 #[.int .i64 9, .int .i64 9, .int .i64 32, .int .i64 32] 3 (rngs [(9, 9), (32, 32)]) rfl rfl).more (by simp)))
  go_enter Try.func103, Try.ntmps103
  go_wp2_with fail
  refine C.out.mono ?_
  rintro e w1 ⟨A, n, c, rfl, hown, hb⟩
  go_wp2
  go_ret2
  exact ⟨_, A, n, c, rfl, ⟨can_of (by decide), fun p => Iff.rfl⟩, by decide, own_mono hown (by simp), hb0.trans (hb.mono (by simp))⟩
def l_space : List (Int × Int) := [(9, 13), (32, 32), (133, 133), (160, 160), (8192, 8202), (8232, 8233), (12288, 12288)]
set_option maxRecDepth 100000 in
set_option maxHeartbeats 2000000 in
theorem class_space (w : World) : Calls Try.prog 103 #[.string ⟨#[115, 112, 97, 99, 101]⟩] w (ClsOut w l_space) := by
  have hb0 : Below w.heap.size w (w.alloc (.cells #[.int .i64 9, .int .i64 13, .int .i64 32, .int .i64 32, .int .i64 133, .int .i64 133, .int .i64 160, .int .i64 160, .int .i64 8192, .int .i64 8202, .int .i64 8232, .int .i64 8233, .int .i64 12288, .int .i64 12288] 3)) := by go_grown
  have C := Lib.hid (span133 [(9, 13), (32, 32), (133, 133), (160, 160), (8192, 8202), (8232, 8233), (12288, 12288)] _ 14 14 (w.alloc (.cells #[.int .i64 9, .int .i64 13, .int .i64 32, .int .i64 32, .int .i64 133, .int .i64 133, .int .i64 160, .int .i64 160, .int .i64 8192, .int .i64 8202, .int .i64 8232, .int .i64 8233, .int .i64 12288, .int .i64 12288] 3)) (by decide) ((Rds.new w 1 14 #[.int .i64 9, .int .i64 13, .int .i64 32, .int .i64 32, .int .i64 133, .int .i64 133, .int .i64 160, .int .i64 160, .int .i64 8192, .int .i64 8202, .int .i64 8232, .int .i64 8233, .int .i64 12288, .int .i64 12288] 3 (rngs [(9, 13), (32, 32), (133, 133), (160, 160), (8192, 8202), (8232, 8233), (12288, 12288)]) rfl rfl).more (by simp)))
  go_enter Try.func103, Try.ntmps103
  go_wp2_with fail
  refine C.out.mono ?_
  rintro e w1 ⟨A, n, c, rfl, hown, hb⟩
  go_wp2
  go_ret2
  exact ⟨_, A, n, c, rfl, ⟨can_of (by decide), fun p => Iff.rfl⟩, by decide, own_mono hown (by simp), hb0.trans (hb.mono (by simp))⟩
def l_punct : List (Int × Int) := [(33, 47), (58, 64), (91, 96), (123, 126), (161, 169), (171, 180), (182, 185), (187, 191), (215, 215), (247, 247)]
set_option maxRecDepth 100000 in
set_option maxHeartbeats 2000000 in
theorem class_punct (w : World) : Calls Try.prog 103 #[.string ⟨#[112, 117, 110, 99, 116]⟩] w (ClsOut w l_punct) := by
  have hb0 : Below w.heap.size w (w.alloc (.cells #[.int .i64 33, .int .i64 47, .int .i64 58, .int .i64 64, .int .i64 91, .int .i64 96, .int .i64 123, .int .i64 126, .int .i64 161, .int .i64 169, .int .i64 171, .int .i64 180, .int .i64 182, .int .i64 185, .int .i64 187, .int .i64 191, .int .i64 215, .int .i64 215, .int .i64 247, .int .i64 247] 3)) := by go_grown
  have C := Lib.hid (span133 [(33, 47), (58, 64), (91, 96), (123, 126), (161, 169), (171, 180), (182, 185), (187, 191), (215, 215), (247, 247)] _ 20 20 (w.alloc (.cells #[.int .i64 33, .int .i64 47, .int .i64 58, .int .i64 64, .int .i64 91, .int .i64 96, .int .i64 123, .int .i64 126, .int .i64 161, .int .i64 169, .int .i64 171, .int .i64 180, .int .i64 182, .int .i64 185, .int .i64 187, .int .i64 191, .int .i64 215, .int .i64 215, .int .i64 247, .int .i64 247] 3)) (by decide) ((Rds.new w 1 20 #[.int .i64 33, .int .i64 47, .int .i64 58, .int .i64 64, .int .i64 91, .int .i64 96, .int .i64 123, .int .i64 126, .int .i64 161, .int .i64 169, .int .i64 171, .int .i64 180, .int .i64 182, .int .i64 185, .int .i64 187, .int .i64 191, .int .i64 215, .int .i64 215, .int .i64 247, .int .i64 247] 3 (rngs [(33, 47), (58, 64), (91, 96), (123, 126), (161, 169), (171, 180), (182, 185), (187, 191), (215, 215), (247, 247)]) rfl rfl).more (by simp)))
  go_enter Try.func103, Try.ntmps103
  go_wp2_with fail
  refine C.out.mono ?_
  rintro e w1 ⟨A, n, c, rfl, hown, hb⟩
  go_wp2
  go_ret2
  exact ⟨_, A, n, c, rfl, ⟨can_of (by decide), fun p => Iff.rfl⟩, by decide, own_mono hown (by simp), hb0.trans (hb.mono (by simp))⟩
def l_alpha : List (Int × Int) := [(65, 90), (97, 122), (170, 170), (181, 181), (186, 186), (192, 214), (216, 246), (248, 591), (913, 929), (931, 974), (1024, 1153), (7838, 7838), (8490, 8491)]
set_option maxRecDepth 100000 in
set_option maxHeartbeats 2000000 in
theorem class_alpha (w : World) : Calls Try.prog 103 #[.string ⟨#[97, 108, 112, 104, 97]⟩] w (ClsOut w l_alpha) := by
  have hb0 : Below w.heap.size w (w.alloc (.cells #[.int .i64 65, .int .i64 90, .int .i64 97, .int .i64 122, .int .i64 170, .int .i64 170, .int .i64 181, .int .i64 181, .int .i64 186, .int .i64 186, .int .i64 192, .int .i64 214, .int .i64 216, .int .i64 246, .int .i64 248, .int .i64 591, .int .i64 913, .int .i64 929, .int .i64 931, .int .i64 974, .int .i64 1024, .int .i64 1153, .int .i64 7838, .int .i64 7838, .int .i64 8490, .int .i64 8491] 3)) := by go_grown
  have C := Lib.hid (span133 [(65, 90), (97, 122), (170, 170), (181, 181), (186, 186), (192, 214), (216, 246), (248, 591), (913, 929), (931, 974), (1024, 1153), (7838, 7838), (8490, 8491)] _ 26 26 (w.alloc (.cells #[.int .i64 65, .int .i64 90, .int .i64 97, .int .i64 122, .int .i64 170, .int .i64 170, .int .i64 181, .int .i64 181, .int .i64 186, .int .i64 186, .int .i64 192, .int .i64 214, .int .i64 216, .int .i64 246, .int .i64 248, .int .i64 591, .int .i64 913, .int .i64 929, .int .i64 931, .int .i64 974, .int .i64 1024, .int .i64 1153, .int .i64 7838, .int .i64 7838, .int .i64 8490, .int .i64 8491] 3)) (by decide) ((Rds.new w 1 26 #[.int .i64 65, .int .i64 90, .int .i64 97, .int .i64 122, .int .i64 170, .int .i64 170, .int .i64 181, .int .i64 181, .int .i64 186, .int .i64 186, .int .i64 192, .int .i64 214, .int .i64 216, .int .i64 246, .int .i64 248, .int .i64 591, .int .i64 913, .int .i64 929, .int .i64 931, .int .i64 974, .int .i64 1024, .int .i64 1153, .int .i64 7838, .int .i64 7838, .int .i64 8490, .int .i64 8491] 3 (rngs [(65, 90), (97, 122), (170, 170), (181, 181), (186, 186), (192, 214), (216, 246), (248, 591), (913, 929), (931, 974), (1024, 1153), (7838, 7838), (8490, 8491)]) rfl rfl).more (by simp)))
  go_enter Try.func103, Try.ntmps103
  go_wp2_with fail
  refine C.out.mono ?_
  rintro e w1 ⟨A, n, c, rfl, hown, hb⟩
  go_wp2
  go_ret2
  exact ⟨_, A, n, c, rfl, ⟨can_of (by decide), fun p => Iff.rfl⟩, by decide, own_mono hown (by simp), hb0.trans (hb.mono (by simp))⟩
def l_upper : List (Int × Int) := [(65, 90), (192, 214), (216, 222), (913, 929), (931, 939), (1024, 1071), (7838, 7838), (8490, 8491)] ++ evens 256 24
set_option maxRecDepth 100000 in
set_option maxHeartbeats 2000000 in
theorem class_upper (w : World) : Calls Try.prog 103 #[.string ⟨#[117, 112, 112, 101, 114]⟩] w (ClsOut w l_upper) := by
  have hb0 : Below w.heap.size w (w.alloc (.cells #[.int .i64 65, .int .i64 90, .int .i64 192, .int .i64 214, .int .i64 216, .int .i64 222, .int .i64 913, .int .i64 929, .int .i64 931, .int .i64 939, .int .i64 1024, .int .i64 1071, .int .i64 7838, .int .i64 7838, .int .i64 8490, .int .i64 8491] 3)) := by go_grown
  have C := Lib.hid (span133 [(65, 90), (192, 214), (216, 222), (913, 929), (931, 939), (1024, 1071), (7838, 7838), (8490, 8491)] _ 16 16 (w.alloc (.cells #[.int .i64 65, .int .i64 90, .int .i64 192, .int .i64 214, .int .i64 216, .int .i64 222, .int .i64 913, .int .i64 929, .int .i64 931, .int .i64 939, .int .i64 1024, .int .i64 1071, .int .i64 7838, .int .i64 7838, .int .i64 8490, .int .i64 8491] 3)) (by decide) ((Rds.new w 1 16 #[.int .i64 65, .int .i64 90, .int .i64 192, .int .i64 214, .int .i64 216, .int .i64 222, .int .i64 913, .int .i64 929, .int .i64 931, .int .i64 939, .int .i64 1024, .int .i64 1071, .int .i64 7838, .int .i64 7838, .int .i64 8490, .int .i64 8491] 3 (rngs [(65, 90), (192, 214), (216, 222), (913, 929), (931, 939), (1024, 1071), (7838, 7838), (8490, 8491)]) rfl rfl).more (by simp)))
  go_enter Try.func103, Try.ntmps103
  go_wp2_with fail
  refine C.out.mono ?_
  rintro e w1 ⟨A, n, c, rfl, hown, hb⟩
  have R1 := Lib.hid (Rds.of_own hown)
  obtain ⟨_, _, hv, q1, q2⟩ := own_slice hown
  injection hv with e1 e2 e3
  subst e1 e3
  clear e2 hown
  have b1 := hb0.trans (hb.mono (by simp))
  have hz1 := b1.size
  clear hb hb0
  go_wp2_with fail
  refine (second135 256 23 w1 (by decide) (by decide) (by decide)).mono ?_
  rintro e w2 ⟨A2, n2, c2, rfl, hown, hb⟩
  have R2 := Lib.hid (R1.out.next hb)
  have R3 := Lib.hid (Rds.of_own hown)
  obtain ⟨_, _, hv, q3, q4⟩ := own_slice hown
  injection hv with e1 e2 e3
  subst e1 e3
  clear e2 hown
  have b2 := below_next b1 hb
  clear hb b1
  go_wp2_with fail
  refine (join_two [(65, 90), (192, 214), (216, 222), (913, 929), (931, 939), (1024, 1071), (7838, 7838), (8490, 8491)] (evens 256 24) A A2 n c n2 c2 w2 q1 q2 q3 q4 (by decide) (by decide) (by decide) R2.out R3.out).mono ?_
  rintro e w3 ⟨out, A3, n3, c3, rfl, hs, hl, hown, hb⟩
  have HS := Lib.hid hs
  have HL := Lib.hid hl
  clear hs hl
  go_wp2
  go_ret2
  exact ⟨out, A3, n3, c3, rfl, HS.out, HL.out, own_mono hown b2.size, below_next b2 hb⟩
def l_lower : List (Int × Int) := [(97, 122), (181, 181), (223, 246), (248, 255), (945, 971), (1072, 1119)] ++ evens 257 24
set_option maxRecDepth 100000 in
set_option maxHeartbeats 2000000 in
theorem class_lower (w : World) : Calls Try.prog 103 #[.string ⟨#[108, 111, 119, 101, 114]⟩] w (ClsOut w l_lower) := by
  have hb0 : Below w.heap.size w (w.alloc (.cells #[.int .i64 97, .int .i64 122, .int .i64 181, .int .i64 181, .int .i64 223, .int .i64 246, .int .i64 248, .int .i64 255, .int .i64 945, .int .i64 971, .int .i64 1072, .int .i64 1119] 3)) := by go_grown
  have C := Lib.hid (span133 [(97, 122), (181, 181), (223, 246), (248, 255), (945, 971), (1072, 1119)] _ 12 12 (w.alloc (.cells #[.int .i64 97, .int .i64 122, .int .i64 181, .int .i64 181, .int .i64 223, .int .i64 246, .int .i64 248, .int .i64 255, .int .i64 945, .int .i64 971, .int .i64 1072, .int .i64 1119] 3)) (by decide) ((Rds.new w 1 12 #[.int .i64 97, .int .i64 122, .int .i64 181, .int .i64 181, .int .i64 223, .int .i64 246, .int .i64 248, .int .i64 255, .int .i64 945, .int .i64 971, .int .i64 1072, .int .i64 1119] 3 (rngs [(97, 122), (181, 181), (223, 246), (248, 255), (945, 971), (1072, 1119)]) rfl rfl).more (by simp)))
  go_enter Try.func103, Try.ntmps103
  go_wp2_with fail
  refine C.out.mono ?_
  rintro e w1 ⟨A, n, c, rfl, hown, hb⟩
  have R1 := Lib.hid (Rds.of_own hown)
  obtain ⟨_, _, hv, q1, q2⟩ := own_slice hown
  injection hv with e1 e2 e3
  subst e1 e3
  clear e2 hown
  have b1 := hb0.trans (hb.mono (by simp))
  have hz1 := b1.size
  clear hb hb0
  go_wp2_with fail
  refine (second135 257 23 w1 (by decide) (by decide) (by decide)).mono ?_
  rintro e w2 ⟨A2, n2, c2, rfl, hown, hb⟩
  have R2 := Lib.hid (R1.out.next hb)
  have R3 := Lib.hid (Rds.of_own hown)
  obtain ⟨_, _, hv, q3, q4⟩ := own_slice hown
  injection hv with e1 e2 e3
  subst e1 e3
  clear e2 hown
  have b2 := below_next b1 hb
  clear hb b1
  go_wp2_with fail
  refine (join_two [(97, 122), (181, 181), (223, 246), (248, 255), (945, 971), (1072, 1119)] (evens 257 24) A A2 n c n2 c2 w2 q1 q2 q3 q4 (by decide) (by decide) (by decide) R2.out R3.out).mono ?_
  rintro e w3 ⟨out, A3, n3, c3, rfl, hs, hl, hown, hb⟩
  have HS := Lib.hid hs
  have HL := Lib.hid hl
  clear hs hl
  go_wp2
  go_ret2
  exact ⟨out, A3, n3, c3, rfl, HS.out, HL.out, own_mono hown b2.size, below_next b2 hb⟩
set_option maxRecDepth 100000 in
set_option maxHeartbeats 2000000 in
theorem both136 (s1 s2 : ByteArray) (l1 l2 : List (Int × Int)) (w : World) (h1 : ∀ w, Calls Try.prog 103 #[.string s1] w (ClsOut w l1)) (h2 : ∀ w, Calls Try.prog 103 #[.string s2] w (ClsOut w l2)) (hk : ∀ a b : List (Int × Int), IsSet a (mem l1) → IsSet b (mem l2) → a.length + b.length ≤ 200) :
    Calls Try.prog 136 #[.string s1, .string s2] w (SetOut w (l1 ++ l2)) := by
  have H1 := Lib.hid h1
  have H2 := Lib.hid h2
  have HK := Lib.hid hk
  clear h1 h2 hk
  go_enter Try.func136, Try.ntmps136
  go_wp2_with fail
  refine (H1.out _).mono ?_
  rintro e w1 ⟨out1, A, n, c, rfl, hs1, _, hown, hb⟩
  have R1 := Lib.hid (Rds.of_own hown)
  have S1 := Lib.hid hs1
  obtain ⟨_, _, hv, q1, q2⟩ := own_slice hown
  injection hv with e1 e2 e3
  subst e1 e3
  clear e2 hown hs1
  have b1 := hb
  clear hb
  go_wp2_with fail
  refine (H2.out _).mono ?_
  rintro e w2 ⟨out2, A2, n2, c2, rfl, hs2, _, hown, hb⟩
  have R2 := Lib.hid (R1.out.next hb)
  have R3 := Lib.hid (Rds.of_own hown)
  have S2 := Lib.hid hs2
  obtain ⟨_, _, hv, q3, q4⟩ := own_slice hown
  injection hv with e1 e2 e3
  subst e1 e3
  clear e2 hown hs2
  have b2 := below_next b1 hb
  clear hb b1
  go_wp2_with fail
  refine (join_two out1 out2 A A2 n c n2 c2 w2 q1 q2 q3 q4 (HK.out _ _ S1.out S2.out) (List.all_eq_true.2 S1.out.1.1) (List.all_eq_true.2 S2.out.1.1) R2.out R3.out).mono ?_
  rintro e w3 ⟨out, A3, n3, c3, rfl, hs, hl, hown, hb⟩
  have HS := Lib.hid hs
  have HL := Lib.hid hl
  clear hs hl
  go_wp2
  go_ret
  exact ⟨out, A3, n3, c3, rfl, ⟨HS.out.1, fun p => (HS.out.2 p).trans (by rw [mem_append, mem_append, S1.out.2 p, S2.out.2 p])⟩, HL.out, own_mono hown b2.size, below_next b2 hb⟩
theorem len_of {l a : List (Int × Int)} (hc : (l.all okR && gapB l) = true) (ha : IsSet a (mem l)) : a.length = l.length := by
  rw [ha.eq ⟨can_of hc, fun p => Iff.rfl⟩ (fun p => Iff.rfl)]
theorem l2_len {l1 l2 : List (Int × Int)} (h1 : (l1.all okR && gapB l1) = true) (h2 : (l2.all okR && gapB l2) = true) (h : l1.length + l2.length ≤ 200) : ∀ a b : List (Int × Int), IsSet a (mem l1) → IsSet b (mem l2) → a.length + b.length ≤ 200 := fun a b ha hb => by
  rw [len_of h1 ha, len_of h2 hb]; exact h
theorem both_ad (w : World) : Calls Try.prog 136 #[.string ⟨#[97, 108, 112, 104, 97]⟩, .string ⟨#[100, 105, 103, 105, 116]⟩] w (SetOut w (l_alpha ++ l_digit)) := both136 _ _ _ _ w class_alpha class_digit (l2_len (by decide) (by decide) (by decide))
theorem both_pp (w : World) : Calls Try.prog 136 #[.string ⟨#[112, 117, 110, 99, 116]⟩, .string ⟨#[112, 117, 110, 99, 116]⟩] w (SetOut w (l_punct ++ l_punct)) := both136 _ _ _ _ w class_punct class_punct (l2_len (by decide) (by decide) (by decide))
def l_alnum : List (Int × Int) := l_alpha ++ l_digit
def l_word : List (Int × Int) := l_alnum ++ [(95, 95)]
def l_graph : List (Int × Int) := l_alnum ++ (l_punct ++ l_punct)
set_option maxRecDepth 100000 in
set_option maxHeartbeats 2000000 in
theorem class_alnum (w : World) : Calls Try.prog 103 #[.string ⟨#[97, 108, 110, 117, 109]⟩] w (ClsOut w l_alnum) := by
  go_enter Try.func103, Try.ntmps103
  go_wp2_with fail
  refine (both_ad _).mono ?_
  rintro e w1 ⟨out, A, n, c, rfl, hs, hl, hown, hb⟩
  have HS := Lib.hid hs
  have HL := Lib.hid hl
  clear hs hl
  go_wp2
  go_ret2
  exact ⟨out, A, n, c, rfl, HS.out, HL.out, hown, hb⟩
def ad_set : List (Int × Int) := [(48, 57), (65, 90), (97, 122), (170, 170), (181, 181), (186, 186), (192, 214), (216, 246), (248, 591), (913, 929), (931, 974), (1024, 1153), (1632, 1641), (7838, 7838), (8490, 8491)]
theorem ad_len {a : List (Int × Int)} (h : IsSet a (mem (l_alpha ++ l_digit))) : a.length ≤ 15 := by
  have : a = ad_set := h.eq (g := mem ad_set) ⟨can_of (by decide), fun p => Iff.rfl⟩ fun p => by
    simp only [l_alpha, l_digit, ad_set, List.cons_append, List.nil_append, mem_cons]
    have := mem_nil p
    constructor
    · intro h; simp only [this, or_false] at *; omega
    · intro h; simp only [this, or_false] at *; omega
  rw [this]; decide
theorem pp_len {a : List (Int × Int)} (h : IsSet a (mem (l_punct ++ l_punct))) : a.length ≤ 15 := by
  have : a = l_punct := h.eq (g := mem l_punct) ⟨can_of (by decide), fun p => Iff.rfl⟩ fun p => by rw [mem_append, or_self]
  rw [this]; decide
set_option maxRecDepth 100000 in
set_option maxHeartbeats 2000000 in
theorem class_word (w : World) : Calls Try.prog 103 #[.string ⟨#[119, 111, 114, 100]⟩] w (ClsOut w l_word) := by
  go_enter Try.func103, Try.ntmps103
  go_wp2_with fail
  refine (both_ad _).mono ?_
  rintro e w1 ⟨out, A, n, c, rfl, hs, hl, hown, hb⟩
  have S1 := Lib.hid hs
  have L1 := Lib.hid hl
  have R1 := Lib.hid (Rds.of_own hown)
  obtain ⟨_, _, hv, q1, q2⟩ := own_slice hown
  injection hv with e1 e2 e3
  subst e1 e3
  clear e2 hown hs hl
  have b1 := hb
  clear hb
  have hb9 : Below w1.heap.size w1 (w1.alloc (.cells #[.int .i64 95, .int .i64 95] 3)) := by go_grown
  have R9 := Lib.hid (R1.out.next hb9)
  have b9 := below_next b1 hb9
  have C := Lib.hid (span133 [(95, 95)] _ 2 2 (w1.alloc (.cells #[.int .i64 95, .int .i64 95] 3)) (by decide) ((Rds.new w1 1 2 #[.int .i64 95, .int .i64 95] 3 (rngs [(95, 95)]) rfl rfl).more (by simp)))
  clear b1 hb9
  have b1 := b9
  clear b9
  go_wp2_with fail
  refine C.out.mono ?_
  rintro e w2 ⟨A2, n2, c2, rfl, hown, hb⟩
  have R2 := Lib.hid (R9.out.next hb)
  have R3 := Lib.hid (Rds.of_own hown)
  obtain ⟨_, _, hv, q3, q4⟩ := own_slice hown
  injection hv with e1 e2 e3
  subst e1 e3
  clear e2 hown
  have b2 := below_next b1 hb
  clear hb b1
  have HT := Lib.hid (ad_len S1.out)
  go_wp2_with fail
  refine (join_two out [(95, 95)] A A2 n c n2 c2 w2 q1 q2 q3 q4 (by have := HT.out; simp; omega) (List.all_eq_true.2 S1.out.1.1) (by decide) R2.out R3.out).mono ?_
  rintro e w3 ⟨out3, A3, n3, c3, rfl, hs, hl, hown, hb⟩
  have HS := Lib.hid hs
  have HL := Lib.hid hl
  clear hs hl
  go_wp2
  go_ret2
  exact ⟨out3, A3, n3, c3, rfl, ⟨HS.out.1, fun p => (HS.out.2 p).trans (by rw [mem_append, S1.out.2 p]; exact (mem_append _ _ _).symm)⟩, HL.out, own_mono hown b2.size, below_next b2 hb⟩
set_option maxRecDepth 100000 in
set_option maxHeartbeats 2000000 in
theorem class_graph (w : World) : Calls Try.prog 103 #[.string ⟨#[103, 114, 97, 112, 104]⟩] w (ClsOut w l_graph) := by
  go_enter Try.func103, Try.ntmps103
  go_wp2_with fail
  refine (both_ad _).mono ?_
  rintro e w1 ⟨out, A, n, c, rfl, hs, hl, hown, hb⟩
  have S1 := Lib.hid hs
  have L1 := Lib.hid hl
  have R1 := Lib.hid (Rds.of_own hown)
  obtain ⟨_, _, hv, q1, q2⟩ := own_slice hown
  injection hv with e1 e2 e3
  subst e1 e3
  clear e2 hown hs hl
  have b1 := hb
  clear hb
  go_wp2_with fail
  refine (both_pp _).mono ?_
  rintro e w2 ⟨out2, A2, n2, c2, rfl, hs2, hl2, hown, hb⟩
  have S2 := Lib.hid hs2
  have L2 := Lib.hid (pp_len hs2)
  have R2 := Lib.hid (R1.out.next hb)
  clear hs2 hl2
  have R3 := Lib.hid (Rds.of_own hown)
  obtain ⟨_, _, hv, q3, q4⟩ := own_slice hown
  injection hv with e1 e2 e3
  subst e1 e3
  clear e2 hown
  have b2 := below_next b1 hb
  clear hb b1
  have HT := Lib.hid (ad_len S1.out)
  go_wp2_with fail
  refine (join_two out out2 A A2 n c n2 c2 w2 q1 q2 q3 q4 (by have := HT.out; have := L2.out; omega) (List.all_eq_true.2 S1.out.1.1) (List.all_eq_true.2 S2.out.1.1) R2.out R3.out).mono ?_
  rintro e w3 ⟨out3, A3, n3, c3, rfl, hs, hl, hown, hb⟩
  have HS := Lib.hid hs
  have HL := Lib.hid hl
  clear hs hl
  go_wp2
  go_ret2
  exact ⟨out3, A3, n3, c3, rfl, ⟨HS.out.1, fun p => (HS.out.2 p).trans (by rw [mem_append, S1.out.2 p, S2.out.2 p]; exact (mem_append _ _ _).symm)⟩, HL.out, own_mono hown b2.size, below_next b2 hb⟩
end Go.Proofs.Ytehlijnhhbdbhaa
