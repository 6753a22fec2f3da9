/- The reference: what is a scalar, its bytes, the text of points: walked. No condition. -/
import Derived.Test.YtihodjfnhkihiaaSplV
import Derived.Test.YtihodjfnhkihiaaSetB
import Derived.Test.YtihodjfnhkihiaaSpU
namespace Go.Proofs.Ytihodjfnhkihiaa
open Go.RowKit
set_option linter.unusedVariables false
def unitB (enc u : Int) : List Int := if enc = 2 then [u % 256, u / 256] else [u / 256, u % 256]
def bytesOf (enc p : Int) : List Int :=
  if enc = 4 then [p]
  else if enc = 1 then
    if p < 128 then [p] else if p < 2048 then [192 + p / 64, 128 + p % 64]
    else if p < 65536 then [224 + p / 4096, 128 + p / 64 % 64, 128 + p % 64]
    else [240 + p / 262144, 128 + p / 4096 % 64, 128 + p / 64 % 64, 128 + p % 64]
  else if p < 65536 then unitB enc p else unitB enc (55296 + (p - 65536) / 1024) ++ unitB enc (56320 + (p - 65536) % 1024)

set_option maxHeartbeats 400000 in
theorem unit_any (u enc : Int) (b off : Nat) (w : World) (hc : w.cell? ⟨b, off, none⟩ = some (.int .i64 enc)) (h0 : 0 ≤ u) (h1 : u ≤ 65535) :
    Calls Try.prog 49 #[.int .i64 u, .pointer (some ⟨b, off, none⟩)] w (OwnInts w (unitB enc u)) := by
  by_cases he : enc = 2
  · subst he
    go_enter Try.func49, Try.ntmps49
    go_wp2
    go_ret
    exact ownInts_new rfl rfl rfl rfl (Below.refl _ _) rfl rfl
  · have he' : (enc == 2) = false := by simpa using he
    have hu : unitB enc u = [u / 256, u % 256] := by simp [unitB, he]
    rw [hu]
    clear hu he
    go_enter Try.func49, Try.ntmps49
    go_wp2
    go_ret
    exact ownInts_new rfl rfl rfl rfl (Below.refl _ _) rfl rfl

set_option maxHeartbeats 400000 in
theorem bytesOf4 (p : Int) (w : World) (h0 : 0 ≤ p) (h1 : p ≤ 255) :
    Calls Try.prog 27 #[.int .i64 4, .int .i64 p] w (OwnInts w (bytesOf 4 p)) := by
  have hu : bytesOf 4 p = [p] := by simp [bytesOf]
  rw [hu]
  clear hu
  go_enter Try.func27, Try.ntmps27
  go_wp2
  go_ret
  exact ownInts_new rfl rfl (by simp) rfl ((Below.refl _ _).alloc (Nat.le_refl _) _) rfl rfl

set_option maxHeartbeats 400000 in
theorem bytesOf1 (p : Int) (w : World) (h0 : 0 ≤ p) (h1 : p ≤ 1114111) :
    Calls Try.prog 27 #[.int .i64 1, .int .i64 p] w (OwnInts w (bytesOf 1 p)) := by
  by_cases a : p < 128
  · have hu : bytesOf 1 p = [p] := by simp [bytesOf, a]
    rw [hu]
    clear hu
    go_enter Try.func27, Try.ntmps27
    go_wp2
    go_ret
    exact ownInts_new rfl rfl (by simp) rfl ((Below.refl _ _).alloc (Nat.le_refl _) _) rfl rfl
  · by_cases b : p < 2048
    · have hu : bytesOf 1 p = [192 + p / 64, 128 + p % 64] := by simp [bytesOf, a, b]
      rw [hu]
      clear hu
      go_enter Try.func27, Try.ntmps27
      go_wp2
      go_ret
      exact ownInts_new rfl rfl (by simp) rfl ((Below.refl _ _).alloc (Nat.le_refl _) _) rfl rfl
    · by_cases c : p < 65536
      · have hu : bytesOf 1 p = [224 + p / 4096, 128 + p / 64 % 64, 128 + p % 64] := by simp [bytesOf, a, b, c]
        rw [hu]
        clear hu
        go_enter Try.func27, Try.ntmps27
        go_wp2
        go_ret
        exact ownInts_new rfl rfl (by simp) rfl ((Below.refl _ _).alloc (Nat.le_refl _) _) rfl rfl
      · have hu : bytesOf 1 p = [240 + p / 262144, 128 + p / 4096 % 64, 128 + p / 64 % 64, 128 + p % 64] := by simp [bytesOf, a, b, c]
        rw [hu]
        clear hu
        go_enter Try.func27, Try.ntmps27
        go_wp2
        go_ret
        exact ownInts_new rfl rfl (by simp) rfl ((Below.refl _ _).alloc (Nat.le_refl _) _) rfl rfl
theorem unitB_len (enc u : Int) : (unitB enc u).length = 2 := by unfold unitB; split <;> rfl

set_option maxHeartbeats 400000 in
theorem bytesOf23 (enc p : Int) (w : World) (he : enc = 2 ∨ enc = 3) (h0 : 0 ≤ p) (h1 : p ≤ 1114111) :
    Calls Try.prog 27 #[.int .i64 enc, .int .i64 p] w (OwnInts w (bytesOf enc p)) := by
  have e4 : (enc == 4) = false := by rw [beq_eq_false_iff_ne]; omega
  have e1 : (enc == 1) = false := by rw [beq_eq_false_iff_ne]; omega
  by_cases a : p < 65536
  · have hu : bytesOf enc p = unitB enc p := by simp [bytesOf, a, show ¬ enc = 4 from by omega, show ¬ enc = 1 from by omega]
    rw [hu]
    clear hu he
    go_enter Try.func27, Try.ntmps27
    go_wp2_with fail
    refine (unit_any p enc _ _ _ (by simp) h0 (by omega)).mono ?_
    rintro e w1 ⟨A, n, c, rfl, hown, hb⟩
    go_wp2
    go_ret
    exact ⟨A, n, c, rfl, own_mono hown (by simp), ((Below.refl _ _).alloc (Nat.le_refl _) _).trans (hb.mono (by simp))⟩
  · have hu : bytesOf enc p = unitB enc (55296 + (p - 65536) / 1024) ++ unitB enc (56320 + (p - 65536) % 1024) := by simp [bytesOf, a, show ¬ enc = 4 from by omega, show ¬ enc = 1 from by omega]
    rw [hu]
    clear hu he
    go_enter Try.func27, Try.ntmps27
    go_wp2_with fail
    refine (unit_any _ enc _ _ _ (by simp) (by omega) (by omega)).mono ?_
    rintro e w1 ⟨A, n, c, rfl, hown, hb⟩
    have hc1 : w1.cell? ⟨w.heap.size, 0, none⟩ = some (.int .i64 enc) := by rw [hb.cell (p := ⟨w.heap.size, 0, none⟩) (by simp)]; simp
    have hz1 : w.heap.size + 1 ≤ w1.heap.size := by have := hb.size; simpa using this
    go_wp2_with fail
    refine (unit_any _ enc _ _ _ hc1 (by omega) (by omega)).mono ?_
    rintro e w2 ⟨A2, n2, c2, rfl, hown2, hb2⟩
    have hz2 : w1.heap.size ≤ w2.heap.size := hb2.size
    have L1 : n ≤ 2 := by rw [own_ints_len hown, unitB_len]; omega
    have L2 : n2 ≤ 2 := by rw [own_ints_len hown2, unitB_len]; omega
    have hown1' := own_mono (own_below hown hb2 (by omega)) (base' := w.heap.size) (by simp)
    clear hown hc1
    go_wp2_with (at_builtin; refine app_ints (.tmp 82) (.tmp 88) hown1' (Rds.of_own hown2) (by omega) (by omega) rfl rfl rfl rfl ?_; intro v3 w3 hown3 hg3 hat3)
    go_ret
    have B1 : Below w.heap.size w w2 := (((Below.refl _ _).alloc (Nat.le_refl _) _).trans (hb.mono (by simp))).trans (hb2.mono (by omega))
    exact ownInts_of rfl hown3 (grown_own B1 hown1' hg3 (Nat.le_refl _) (by omega))

theorem bytesOf_any (enc p : Int) (w : World) (he : enc = 1 ∨ enc = 2 ∨ enc = 3 ∨ enc = 4) (h0 : 0 ≤ p) (h1 : p ≤ 1114111) (h4 : enc = 4 → p ≤ 255) :
    Calls Try.prog 27 #[.int .i64 enc, .int .i64 p] w (OwnInts w (bytesOf enc p)) := by
  rcases he with rfl | rfl | rfl | rfl
  · exact bytesOf1 p w h0 h1
  · exact bytesOf23 2 p w (by omega) h0 h1
  · exact bytesOf23 3 p w (by omega) h0 h1
  · exact bytesOf4 p w h0 (h4 rfl)
theorem own_nil_bytes (w : World) (B : Nat) : w.ownsRow B 5 1 (.slice none 0 0) 0 (byts []) := World.ownsRow_nil w B 5 1
def strOf (l : List Int) : ByteArray := (l.foldl (fun r n => r.push (UInt8.ofNat n.toNat)) ByteArray.empty)
theorem run_str {w : World} {B n c : Nat} {A : Option Addr} {l : List Int} (h : Rds w B 1 A n (byts l)) :
    (convert 53 9 (.slice A n c)).run Try.prog w = .ok (.string (strOf l)) w := by
  rw [run_convert_bytes_string w 53 9 5 A n c Try.underlying53 Try.underlying5 Try.underlying9]
  have hl : l.length = n := by have := h.1; rw [byts_length] at this; omega
  rcases Nat.eq_zero_or_pos n with h0 | h0
  · subst h0
    obtain rfl : l = [] := List.eq_nil_of_length_eq_zero hl
    cases A with
    | none => simp [Conv.bytesToString, strOf]
    | some a => exact run_bytesToString w a 0 c [] (by simpa using run_loadCells_list (P := Try.prog) w a [] (by simp))
  · obtain ⟨b, off, rfl, _, hc⟩ := h.2 h0
    refine run_bytesToString w _ n c l ?_
    have := run_loadCells_list (P := Try.prog) w ⟨b, off, none⟩ (byts l) (fun j v hj => by
      have := hc j v hj
      by_cases hj0 : j = 0
      · subst hj0; simpa [Addr.add] using this
      · simpa [Addr.add, hj0] using this)
    rw [byts_length, hl] at this
    exact this
def scalarB (enc p : Int) : Bool := if enc = 4 then decide (0 ≤ p) && decide (p < 256) else decide (0 ≤ p) && decide (p ≤ 1114111) && (decide (p < 55296) || decide (57343 < p))
def isEncB (enc : Int) : Bool := decide (1 ≤ enc) && decide (enc ≤ 4)
theorem bytesOf_len (enc p : Int) : (bytesOf enc p).length ≤ 4 := by
  unfold bytesOf
  split
  · simp
  · split
    · split
      · simp
      · split
        · simp
        · split <;> simp
    · split
      · rw [unitB_len]; omega
      · rw [List.length_append, unitB_len, unitB_len]; omega
def EncPost (w : World) (r : ByteArray × Int) (e : Ending) (w' : World) : Prop := e = .returned (.tuple #[.string r.1, .int .i64 r.2]) ∧ Below w.heap.size w w'

theorem encRet {w w' : World} {r : ByteArray × Int} {s : ByteArray} {n : Int} (h : r = (s, n)) (hb : Below w.heap.size w w') : EncPost w r (.returned (.tuple #[.string s, .int .i64 n])) w' := ⟨by rw [h], hb⟩
theorem scalar_bounds {enc p : Int} (h : scalarB enc p = true) : 0 ≤ p ∧ p ≤ 1114111 ∧ (enc = 4 → p ≤ 255) ∧ (enc ≠ 4 → p < 55296 ∨ 57343 < p) := by
  unfold scalarB at h
  split at h
  · simp at h; exact ⟨h.1, by omega, fun _ => by omega, fun hh => by contradiction⟩
  · simp at h; exact ⟨h.1.1, h.1.2, fun hh => by contradiction, fun _ => h.2⟩

theorem enc_cases {enc : Int} (h : isEncB enc = true) : enc = 1 ∨ enc = 2 ∨ enc = 3 ∨ enc = 4 := by simp [isEncB] at h; omega
set_option maxHeartbeats 400000 in
theorem isEnc_any (p : Int) (w : World)  : Calls Try.prog 6 #[.int .i64 p] w fun e w' => e = .returned (.bool (isEncB p)) ∧ w = w' := by
  have hs : isEncB p = (decide (1 ≤ p) && decide (p ≤ 4)) := rfl
  rw [hs]
  clear hs
  go_enter Try.func6, Try.ntmps6
  go_wp2
  all_goals (go_ret; refine ⟨ret_bool ?_, rfl⟩; simp_all; try omega)
set_option maxHeartbeats 400000 in
theorem isScalar_any (enc p : Int) (w : World) : Calls Try.prog 10 #[.int .i64 enc, .int .i64 p] w fun e w' => e = .returned (.bool (scalarB enc p)) ∧ w = w' := by
  by_cases h : enc = 4
  · subst h
    have hs : scalarB 4 p = (decide (0 ≤ p) && decide (p < 256)) := by simp [scalarB]
    rw [hs]
    clear hs
    go_enter Try.func10, Try.ntmps10
    go_wp2
    all_goals (go_ret; refine ⟨ret_bool ?_, rfl⟩; simp_all; try omega)
  · have hs : scalarB enc p = (decide (0 ≤ p) && decide (p ≤ 1114111) && (decide (p < 55296) || decide (57343 < p))) := by simp [scalarB, h]
    rw [hs]
    have h' : (enc == 4) = false := by simpa using h
    clear hs h
    go_enter Try.func10, Try.ntmps10
    go_wp2
    all_goals (go_ret; refine ⟨ret_bool ?_, rfl⟩; simp_all; try omega)
def flatB (enc : Int) (l : List Int) : List Int := l.flatMap (bytesOf enc)
theorem flatB_snoc (enc : Int) (l : List Int) (p : Int) : flatB enc (l ++ [p]) = flatB enc l ++ bytesOf enc p := by simp [flatB]
theorem flatB_take (enc : Int) (l : List Int) (k : Nat) : (flatB enc (l.take k)).length ≤ (flatB enc l).length := by
  have : flatB enc l = flatB enc (l.take k) ++ flatB enc (l.drop k) := by
    unfold flatB; rw [← List.flatMap_append, List.take_append_drop]
  rw [this, List.length_append]; omega
def textE (enc : Int) (l : List Int) : ByteArray × Int :=
  if isEncB enc = false then (⟨#[]⟩, 7) else if l.all (scalarB enc) = false then (⟨#[]⟩, 3) else if 4000 < (flatB enc l).length then (⟨#[]⟩, 2) else (strOf (flatB enc l), 0)
theorem unitB_range {enc u : Int} (h0 : 0 ≤ u) (h1 : u ≤ 65535) : ∀ b ∈ unitB enc u, 0 ≤ b ∧ b ≤ 255 := by
  intro b hb
  unfold unitB at hb
  split at hb <;> simp at hb <;> omega
theorem bytesOf_range {enc p : Int} (h : scalarB enc p = true) : ∀ b ∈ bytesOf enc p, 0 ≤ b ∧ b ≤ 255 := by
  obtain ⟨h0, h1, h4, _⟩ := scalar_bounds h
  intro b hb
  unfold bytesOf at hb
  split at hb
  · have := h4 (by assumption); simp at hb; omega
  · split at hb
    · split at hb
      · simp at hb; omega
      · split at hb
        · simp at hb; omega
        · split at hb <;> simp at hb <;> omega
    · split at hb
      · exact unitB_range h0 (by omega) b hb
      · rcases List.mem_append.1 hb with hb | hb
        · exact unitB_range (by omega) (by omega) b hb
        · exact unitB_range (by omega) (by omega) b hb
theorem textE_no (enc : Int) (l : List Int) (h : isEncB enc = false) : textE enc l = (⟨#[]⟩, 7) := by simp [textE, h]
theorem textE_range (enc : Int) (l : List Int) (h : isEncB enc = true) (k : Nat) (hk : k < l.length) (hs : scalarB enc l[k] = false) : textE enc l = (⟨#[]⟩, 3) := by
  have : l.all (scalarB enc) = false := by
    rw [List.all_eq_false]
    exact ⟨l[k], List.getElem_mem hk, by simp [hs]⟩
  simp [textE, h, this]
theorem textE_many (enc : Int) (l : List Int) (h : isEncB enc = true) (ha : l.all (scalarB enc) = true) (k : Nat) (hm : 4000 < (flatB enc (l.take k)).length) : textE enc l = (⟨#[]⟩, 2) := by
  have := flatB_take enc l k
  simp [textE, h, ha]; omega
theorem textE_ok (enc : Int) (l : List Int) (h : isEncB enc = true) (ha : l.all (scalarB enc) = true) (hm : (flatB enc l).length ≤ 4000) : textE enc l = (strOf (flatB enc l), 0) := by
  simp [textE, h, ha]; omega
set_option maxHeartbeats 2000000 in
theorem text_yes (enc : Int) (l : List Int) (A : Option Addr) (n c : Nat) (w : World) (he : isEncB enc = true) (hn : n ≤ c) (hc : c ≤ maxLen) (hl : Rds w w.heap.size 1 A n (ints l)) :
    Calls Try.prog 11 #[.int .i64 enc, .slice A n c] w (EncPost w (textE enc l)) := by
  have HL := Lib.hid hl.ints_len
  have HEN := Lib.hid he
  have HE4 := Lib.hid (enc_cases he)
  clear he
  unfold maxLen at hc
  go_enter Try.func11, Try.ntmps11
  go_wp2_with (go_at_call 6; refine (isEnc_any _ _).mono ?_; rintro e w' ⟨rfl, rfl⟩; rw [HEN.out])
  go_loop [7] (fun i => ∃ k : Nat, k ≤ n ∧ i = .int .i64 k ∧ (l.take k).all (scalarB enc) = true) (fun i => n - (intOf i).toNat)
  case atStart => exact ⟨0, Nat.zero_le _, rfl, by simp⟩
  case round =>
    obtain ⟨k, hk, rfl, hall⟩ := hrel
    have HALL := Lib.hid hall
    clear hall
    by_cases hlt : k < n
    · obtain ⟨b, off, hkl, hA, hb, hcell⟩ := hl.int_at hlt
      subst hA
      have HT := Lib.hid (take_snoc' l k hkl)
      have HN := Lib.hid (fun hh => textE_range enc l HEN.out k hkl hh)
      obtain ⟨p, hp⟩ : ∃ p, p = l[k] := ⟨_, rfl⟩
      rw [← hp] at hcell HT HN
      clear hp
      cases hs : scalarB enc p
      · have HS := Lib.hid hs
        clear hs
        go_wp2_with (go_at_call 10; refine (isScalar_any _ _ _).mono ?_; rintro e w' ⟨rfl, rfl⟩; rw [HS.out])
        go_ret2
        exact encRet (HN.out HS.out) (Below.refl _ _)
      · have HS := Lib.hid hs
        clear hs
        go_wp2_with (go_at_call 10; refine (isScalar_any _ _ _).mono ?_; rintro e w' ⟨rfl, rfl⟩; rw [HS.out])
        go_round
        case rel => exact ⟨k + 1, by omega, by go_num, by rw [HT.out, List.all_append, HALL.out]; simp [HS.out]⟩
        case measure => simp [intOf]; omega
    · obtain rfl : k = n := by omega
      have HT := Lib.hid (show l.take k = l from List.take_of_length_le (by rw [HL.out]; exact Nat.le_refl _))
      rw [HT.out] at HALL
      clear HT
      go_wp2_with fail
      go_loopw [6, 8] (fun v i wr => ∃ j m : Nat, j ≤ k ∧ i = .int .i64 j ∧ m ≤ 4000 ∧ wr.ownsRow w.heap.size 5 1 v m (byts (flatB enc (l.take j))) ∧ Below w.heap.size w wr) (fun _ i _ => k - (intOf i).toNat)
      case atStart => exact ⟨0, 0, Nat.zero_le _, rfl, by omega, own_nil_bytes _ _, Below.refl _ _⟩
      case round =>
        obtain ⟨j, m, hj, rfl, hm, hown, hB⟩ := hrel
        obtain ⟨Av, cv, rfl, hmc, hcv⟩ := own_slice hown
        unfold maxLen at hcv
        by_cases hjk : j < k
        · obtain ⟨b, off, hkl, hA, hb, hcell⟩ := (hl.below hB (Nat.le_refl _)).int_at hjk
          subst hA
          have HT := Lib.hid (take_snoc' l j hkl)
          have hs : scalarB enc l[j] = true := List.all_eq_true.1 HALL.out _ (List.getElem_mem hkl)
          obtain ⟨p, hp⟩ : ∃ p, p = l[j] := ⟨_, rfl⟩
          rw [← hp] at hcell HT hs
          clear hp
          obtain ⟨q1, q2, q3, _⟩ := scalar_bounds hs
          have HS := Lib.hid hs
          have Q3 := Lib.hid q3
          clear hs q3
          have HSN := Lib.hid (flatB_snoc enc (l.take j) p)
          go_wp2_with (go_at_call 27; refine (bytesOf_any enc p _ HE4.out q1 q2 Q3.out).mono ?_; rintro e w1 ⟨A1, n1, c1, rfl, hown1, hb1⟩)
          have hlen1 := Lib.hid (own_ints_len hown1)
          have hle : n1 ≤ 4 := by rw [hlen1.out]; exact bytesOf_len _ _
          have hsz := hB.size
          have hsz1 := hb1.size
          have hne : ∀ g, (Value.slice Av m cv).ownBlock = some g → (Value.slice A1 n1 c1).ownBlock ≠ some g := fun g hg he => by
            have h1 := hown.lt g hg
            have h2 := hown1.lt g he
            omega
          have hownA := own_below hown hb1 (Nat.le_refl _)
          have hB1 := hB.trans (hb1.mono hsz)
          have HNE := Lib.hid hne
          clear hown hB hb1 hne
          obtain ⟨L, hL⟩ : ∃ L, L = bytesOf enc p := ⟨_, rfl⟩
          obtain ⟨F, hF⟩ : ∃ F, F = flatB enc (l.take j) := ⟨_, rfl⟩
          rw [← hL] at hown1
          rw [← hF] at hownA
          have hLr := bytesOf_range HS.out
          rw [← hL] at hLr
          have HL0 := Lib.hid hL
          have HF0 := Lib.hid hF
          clear hL hF
          have HLR := Lib.hid hLr
          clear hLr
          obtain ⟨wo, hwo⟩ : ∃ wo : Nat, wo = wr.heap.size := ⟨_, rfl⟩
          rw [← hwo] at hown1
          have HWO := Lib.hid hwo
          clear hwo
          go_loopw [6, 10] (fun v i wx => ∃ t m2 : Nat, t ≤ n1 ∧ i = .int .i64 t ∧ m2 ≤ m + t ∧ wx.ownsRow w.heap.size 5 1 v m2 (byts (F ++ L.take t)) ∧ wx.ownsRow wo 3 1 (.slice A1 n1 c1) n1 (ints L) ∧ (∀ g, v.ownBlock = some g → (Value.slice A1 n1 c1).ownBlock ≠ some g) ∧ Below w.heap.size w wx) (fun _ i _ => n1 - (intOf i).toNat)
          case atStart => exact ⟨0, m, Nat.zero_le _, rfl, by omega, by simpa using hownA, hown1, HNE.out, hB1⟩
          case round =>
            obtain ⟨t, m2, ht, rfl, hm2, hv, hr, hne, hBx⟩ := hrel
            obtain ⟨Ax, cx, rfl, hmx, hcx⟩ := own_slice hv
            unfold maxLen at hcx
            have HNE2 := Lib.hid hne
            clear hne
            have hlenL := Lib.hid (own_ints_len hr)
            by_cases htn : t < n1
            · obtain ⟨b2, off2, htl, hA2, hb2, hcell2⟩ := (Rds.of_own hr).int_at htn
              subst hA2
              have HT2 := Lib.hid (take_snoc' L t htl)
              have hq := HLR.out _ (List.getElem_mem htl)
              obtain ⟨q, hq0⟩ : ∃ q, q = L[t] := ⟨_, rfl⟩
              rw [← hq0] at hcell2 HT2 hq
              clear hq0
              obtain ⟨y1, y2⟩ := hq
              have R := Lib.hid (Rds.new wr 1 1 #[.int .u8 q] 5 (byts [q]) rfl rfl)
              have hsx := hBx.size
              go_wp2_with (at_builtin; refine app_bytes (.tmp 45) (.tmp 51) (hv.alloc _) R.out (by omega) (by simp; omega) rfl rfl rfl rfl ?_; intro v3 w3 hown3 hg3 hat3)
              go_roundw
              case rel =>
                refine ⟨t + 1, m2 + 1, by omega, by go_num, by omega, by rw [HT2.out, ← List.append_assoc]; exact hown3, own_kept (hr.alloc _) hg3 HNE2.out, ?_, ?_⟩
                · intro g hg he
                  rcases hat3 with e | e
                  · exact HNE2.out g (by rw [← e]; exact hg) he
                  · rw [hg] at e
                    have := hr.lt g he
                    injection e with e
                    simp at e; omega
                · exact grown_own (hBx.alloc (by omega) _) (hv.alloc _) hg3 (Nat.le_refl _) (by simp; omega)
              case measure => simp [intOf]; omega
            · obtain rfl : t = n1 := by omega
              have hfin : F ++ L.take t = flatB enc (l.take (j + 1)) := by rw [HT.out, HSN.out, ← HF0.out, ← HL0.out, List.take_of_length_le (by rw [hlenL.out]; exact Nat.le_refl _)]
              rw [hfin] at hv
              have hlv := Lib.hid (own_byts_len hv)
              clear hfin
              by_cases hbig : m2 ≤ 4000
              · go_wp2
                go_roundw
                case rel => exact ⟨j + 1, m2, by omega, by go_num, hbig, hv, hBx⟩
                case measure => simp [intOf]; omega
              · go_wp2
                go_ret2
                exact encRet (textE_many enc l HEN.out HALL.out (j + 1) (by rw [← hlv.out]; omega)) hBx
        · obtain rfl : j = k := by omega
          have HT := Lib.hid (show l.take j = l from List.take_of_length_le (by rw [HL.out]; exact Nat.le_refl _))
          rw [HT.out] at hown
          have hstr := run_str (c := cv) (Rds.of_own hown)
          have HE := Lib.hid (textE_ok enc l HEN.out HALL.out (by rw [← own_byts_len hown]; exact hm))
          go_wp2
          go_ret2
          exact encRet HE.out hB
theorem text_any (enc : Int) (l : List Int) (A : Option Addr) (n c : Nat) (w : World) (hn : n ≤ c) (hc : c ≤ maxLen) (hl : Rds w w.heap.size 1 A n (ints l)) :
    Calls Try.prog 11 #[.int .i64 enc, .slice A n c] w (EncPost w (textE enc l)) := by
  cases he : isEncB enc
  · have HE := Lib.hid (textE_no enc l he)
    have HN := Lib.hid he
    clear he
    go_enter Try.func11, Try.ntmps11
    go_wp2_with (go_at_call 6; refine (isEnc_any _ _).mono ?_; rintro e w' ⟨rfl, rfl⟩; rw [HN.out])
    go_ret2
    exact encRet HE.out (Below.refl _ _)
  · exact text_yes enc l A n c w he hn hc hl
end Go.Proofs.Ytihodjfnhkihiaa
