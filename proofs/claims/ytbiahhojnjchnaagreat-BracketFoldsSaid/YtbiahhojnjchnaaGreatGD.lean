/-
  The plain law of RawMeet. RawMeet of the program, walked: a right set of just the points that both have.
-/
import Derived.Test.YtbiahhojnjchnaaGreatSetF
import Derived.Test.YtbiahhojnjchnaaGreatGC
import Derived.StillTailTactics
set_option linter.unusedVariables false
set_option linter.unusedSimpArgs false
namespace Go.Proofs.YtbiahhojnjchnaaGreat
open Go.RowKit
theorem mem_take_lt {a : List (Int × Int)} (hc : Can a) {i : Nat} (hi : i < a.length) {p : Int} (h : mem (a.take i) p) : p + 2 ≤ (a[i]).1 := by
  obtain ⟨s, hs, h1, h2⟩ := h
  obtain ⟨j, hj, rfl⟩ := List.mem_iff_getElem.1 hs
  rw [List.getElem_take] at h1 h2
  rw [List.length_take] at hj
  have := List.pairwise_iff_getElem.1 hc.2 j i (by omega) hi (by omega)
  omega
theorem mem_of_take {a : List (Int × Int)} {i : Nat} {p : Int} (h : mem (a.take i) p) : mem a p := by
  obtain ⟨s, hs, h1⟩ := h; exact ⟨s, List.mem_of_mem_take hs, h1⟩
theorem mem_split {a : List (Int × Int)} (hc : Can a) {i : Nat} (hi : i < a.length) {p : Int} (h : mem a p) : mem (a.take i) p ∨ ((a[i]).1 ≤ p ∧ p ≤ (a[i]).2) ∨ (a[i]).2 + 2 ≤ p := by
  obtain ⟨s, hs, h1, h2⟩ := h
  obtain ⟨j, hj, rfl⟩ := List.mem_iff_getElem.1 hs
  rcases Nat.lt_trichotomy j i with k | k | k
  · exact .inl ⟨a[j], List.mem_iff_getElem.2 ⟨j, by rw [List.length_take]; omega, by rw [List.getElem_take]⟩, h1, h2⟩
  · subst k; exact .inr (.inl ⟨h1, h2⟩)
  · have := List.pairwise_iff_getElem.1 hc.2 i j hi hj k
    exact .inr (.inr (by omega))
theorem mem_take_succ {a : List (Int × Int)} {i : Nat} (hi : i < a.length) (p : Int) : mem (a.take (i + 1)) p ↔ mem (a.take i) p ∨ ((a[i]).1 ≤ p ∧ p ≤ (a[i]).2) := by
  rw [take_snoc' a i hi, mem_append, mem_cons]
  have := mem_nil p
  simp only [this, or_false]
theorem mem_getElem {a : List (Int × Int)} {i : Nat} (hi : i < a.length) {p : Int} (h : (a[i]).1 ≤ p ∧ p ≤ (a[i]).2) : mem a p := ⟨a[i], List.getElem_mem hi, h.1, h.2⟩
def MeetInv (a b : List (Int × Int)) (i k : Nat) (out : List (Int × Int)) : Prop := IsSet out fun p => (mem (a.take i) p ∨ mem (b.take k) p) ∧ mem a p ∧ mem b p
theorem MeetInv.start (a b : List (Int × Int)) : MeetInv a b 0 0 [] := ⟨Can.nil, fun p => ⟨fun h => absurd h (mem_nil p), fun h => by rcases h.1 with k | k <;> exact absurd k (mem_nil p)⟩⟩
theorem MeetInv.fin {a b : List (Int × Int)} {i k : Nat} {out : List (Int × Int)} (h : MeetInv a b i k out) (hik : a.length ≤ i ∨ b.length ≤ k) : IsSet out fun p => mem a p ∧ mem b p :=
  ⟨h.1, fun p => by
    refine (h.2 p).trans ⟨fun h => h.2, fun hh => ⟨?_, hh⟩⟩
    rcases hik with e | e
    · exact .inl (by rw [List.take_of_length_le e]; exact hh.1)
    · exact .inr (by rw [List.take_of_length_le e]; exact hh.2)⟩
theorem meet_put {a b : List (Int × Int)} (ha : Can a) (hb : Can b) {i k : Nat} (hi : i < a.length) (hk : k < b.length) {out : List (Int × Int)} (h : MeetInv a b i k out) (F : Int → Prop)
    (hF : ∀ p, F p ↔ ((mem (a.take i) p ∨ mem (b.take k) p) ∧ mem a p ∧ mem b p) ∨ (((a[i]).1 ≤ p ∧ p ≤ (a[i]).2) ∧ ((b[k]).1 ≤ p ∧ p ≤ (b[k]).2))) :
    IsSet (if max (a[i]).1 (b[k]).1 ≤ min (a[i]).2 (b[k]).2 then out ++ [(max (a[i]).1 (b[k]).1, min (a[i]).2 (b[k]).2)] else out) F := by
  have ra := (okR_iff _).1 (ha.1 _ (List.getElem_mem hi))
  have rb := (okR_iff _).1 (hb.1 _ (List.getElem_mem hk))
  by_cases hr : max (a[i]).1 (b[k]).1 ≤ min (a[i]).2 (b[k]).2
  · rw [if_pos hr]
    refine ⟨h.1.snoc (by rw [okR_iff]; simp only; omega) fun s hs => ?_, fun p => ?_⟩
    · have rs := (okR_iff s).1 (h.1.1 s hs)
      have hm := ((h.2 s.2).1 ⟨s, hs, by omega, Int.le_refl _⟩).1
      simp only
      rcases hm with k1 | k1
      · have := mem_take_lt ha hi k1; omega
      · have := mem_take_lt hb hk k1; omega
    · rw [hF, mem_append, mem_cons, h.2 p]
      have := mem_nil p
      simp only [this, or_false]
      refine or_congr Iff.rfl ?_
      omega
  · rw [if_neg hr]
    refine ⟨h.1, fun p => ?_⟩
    rw [hF, h.2 p]
    constructor
    · exact .inl
    · rintro (k1 | k1)
      · exact k1
      · exact absurd (by omega) hr
theorem MeetInv.left {a b : List (Int × Int)} (ha : Can a) (hb : Can b) {i k : Nat} (hi : i < a.length) (hk : k < b.length) {out : List (Int × Int)} (h : MeetInv a b i k out) (hlt : (a[i]).2 < (b[k]).2) :
    MeetInv a b (i + 1) k (if max (a[i]).1 (b[k]).1 ≤ min (a[i]).2 (b[k]).2 then out ++ [(max (a[i]).1 (b[k]).1, min (a[i]).2 (b[k]).2)] else out) := by
  refine meet_put ha hb hi hk h _ fun p => ?_
  rw [mem_take_succ hi]
  constructor
  · rintro ⟨(k1 | k1) | k1, h1, h2⟩
    · exact .inl ⟨.inl k1, h1, h2⟩
    · rcases mem_split hb hk h2 with k2 | k2 | k2
      · exact .inl ⟨.inr k2, h1, h2⟩
      · exact .inr ⟨k1, k2⟩
      · omega
    · exact .inl ⟨.inr k1, h1, h2⟩
  · rintro (⟨k1 | k1, h1, h2⟩ | ⟨k1, k2⟩)
    · exact ⟨.inl (.inl k1), h1, h2⟩
    · exact ⟨.inr k1, h1, h2⟩
    · exact ⟨.inl (.inr k1), mem_getElem hi k1, mem_getElem hk k2⟩
theorem MeetInv.right {a b : List (Int × Int)} (ha : Can a) (hb : Can b) {i k : Nat} (hi : i < a.length) (hk : k < b.length) {out : List (Int × Int)} (h : MeetInv a b i k out) (hlt : ¬ (a[i]).2 < (b[k]).2) :
    MeetInv a b i (k + 1) (if max (a[i]).1 (b[k]).1 ≤ min (a[i]).2 (b[k]).2 then out ++ [(max (a[i]).1 (b[k]).1, min (a[i]).2 (b[k]).2)] else out) := by
  refine meet_put ha hb hi hk h _ fun p => ?_
  rw [mem_take_succ hk]
  constructor
  · rintro ⟨k1 | k1 | k1, h1, h2⟩
    · exact .inl ⟨.inl k1, h1, h2⟩
    · exact .inl ⟨.inr k1, h1, h2⟩
    · rcases mem_split ha hi h1 with k2 | k2 | k2
      · exact .inl ⟨.inl k2, h1, h2⟩
      · exact .inr ⟨k2, k1⟩
      · omega
  · rintro (⟨k1 | k1, h1, h2⟩ | ⟨k1, k2⟩)
    · exact ⟨.inl k1, h1, h2⟩
    · exact ⟨.inr (.inl k1), h1, h2⟩
    · exact ⟨.inr (.inr k2), mem_getElem hi k1, mem_getElem hk k2⟩
end Go.Proofs.YtbiahhojnjchnaaGreat
namespace Go.Proofs.YtbiahhojnjchnaaGreat
open Go.RowKit
set_option maxRecDepth 100000 in
set_option maxHeartbeats 2000000 in
theorem rawMeet82 (a b : List (Int × Int)) (A B : Option Addr) (n c m d : Nat) (w : World) (hn : n + m ≤ 100000) (hca : Can a) (hcb : Can b) (ha : Rds w w.heap.size 2 A n (rngs a)) (hb : Rds w w.heap.size 2 B m (rngs b)) :
    Calls Tryz.prog 91 #[.slice A n c, .slice B m d] w fun e w' => ∃ out, (IsSet out fun p => mem a p ∧ mem b p) ∧ out.length ≤ n + m ∧ OwnRngs w out e w' := by
  have HA := Lib.hid ha.rngs_len
  have HB := Lib.hid hb.rngs_len
  have HCA := Lib.hid hca
  have HCB := Lib.hid hcb
  clear hca hcb
  go_enter Tryz.func91, Tryz.ntmps91
  go_wp2_with fail
  go_loopw [5, 6, 7] (fun v x y wr => ∃ (i k t : Nat) (out : List (Int × Int)), i ≤ n ∧ k ≤ m ∧ x = .int .i64 i ∧ y = .int .i64 k ∧ t ≤ i + k ∧ MeetInv a b i k out ∧ wr.ownsRow w.heap.size 67 2 v t (rngs out) ∧ Below w.heap.size w wr) (fun _ x y _ => n + m - ((intOf x).toNat + (intOf y).toNat))
  case atStart => exact ⟨0, 0, 0, [], Nat.zero_le _, Nat.zero_le _, rfl, rfl, Nat.le_refl _, MeetInv.start a b, World.ownsRow_nil _ _ _ _, Below.refl _ _⟩
  case round =>
    obtain ⟨i, k, t, out, hi, hk, rfl, rfl, ht, hinv, hout, hBl⟩ := hrel
    obtain ⟨Ao, co, rfl, hoc, hco⟩ := own_slice hout
    unfold maxLen at hco
    have hsz := hBl.size
    have HI := Lib.hid hinv
    clear hinv
    have i1 : (0 : Int) ≤ (i : Int) := by omega
    have k1 : (0 : Int) ≤ (k : Int) := by omega
    by_cases hin : i < n
    · by_cases hkm : k < m
      · obtain ⟨b1, o1, hl1, hA, hb1, hc1, hd1⟩ := (ha.below hBl (Nat.le_refl _)).rng_at hin
        obtain ⟨b2, o2, hl2, hB2, hb2, hc2, hd2⟩ := (hb.below hBl (Nat.le_refl _)).rng_at hkm
        subst hA hB2
        have HLE := Lib.hid (HI.out.left HCA.out HCB.out hl1 hl2)
        have HRI := Lib.hid (HI.out.right HCA.out HCB.out hl1 hl2)
        obtain ⟨p, hp⟩ : ∃ p, p = a[i] := ⟨_, rfl⟩
        obtain ⟨q, hq⟩ : ∃ q, q = b[k] := ⟨_, rfl⟩
        rw [← hp, ← hq] at HLE HRI
        rw [← hp] at hc1 hd1
        rw [← hq] at hc2 hd2
        clear hp hq
        obtain ⟨x, y⟩ := p
        obtain ⟨u, v⟩ := q
        simp only at hc1 hd1 hc2 hd2 HLE HRI
        have i2 : (i : Int) < (n : Int) := by omega
        have k2 : (k : Int) < (m : Int) := by omega
        have n1 := World.new_ne wr
        have HNB := Lib.hid (show (some wr.heap.size : Option Nat) ≠ (Value.slice Ao t co).ownBlock from fun e => by have := hout.lt _ e.symm; omega)
        go_upto_region 4 with (fail)
        go_cut [8] from 9 to 65 (fun s wc => s = .pointer (some ⟨wr.heap.size, 0, none⟩) ∧ wc = (wr.alloc (.cells #[.int .i64 (max x u), .int .i64 (min y v)] 67)).drew)
        case first =>
          by_cases hxu : x < u
          · by_cases hyv : v < y
            · have HX := Lib.hid (show max x u = u by omega)
              have HY := Lib.hid (show min y v = v by omega)
              go_region_held3 (fun w' => w'.cell? ⟨b1, o1 + i * 2, none⟩ = some (.int .i64 x) ∧ w'.cell? ⟨b1, o1 + i * 2 + 1, none⟩ = some (.int .i64 y) ∧ w'.cell? ⟨b2, o2 + k * 2, none⟩ = some (.int .i64 u) ∧ w'.cell? ⟨b2, o2 + k * 2 + 1, none⟩ = some (.int .i64 v))
                (first
                  | (exact ⟨hc1, hd1, hc2, hd2⟩)
                  | go_keep)
                (fail)
              all_goals (go_wp2_with fail; go_meet; exact ⟨rfl, by rw [HX.out, HY.out]⟩)
            · have HX := Lib.hid (show max x u = u by omega)
              have HY := Lib.hid (show min y v = y by omega)
              go_region_held3 (fun w' => w'.cell? ⟨b1, o1 + i * 2, none⟩ = some (.int .i64 x) ∧ w'.cell? ⟨b1, o1 + i * 2 + 1, none⟩ = some (.int .i64 y) ∧ w'.cell? ⟨b2, o2 + k * 2, none⟩ = some (.int .i64 u) ∧ w'.cell? ⟨b2, o2 + k * 2 + 1, none⟩ = some (.int .i64 v))
                (first
                  | (exact ⟨hc1, hd1, hc2, hd2⟩)
                  | go_keep)
                (fail)
              all_goals (go_wp2_with fail; go_meet; exact ⟨rfl, by rw [HX.out, HY.out]⟩)
          · by_cases hyv : v < y
            · have HX := Lib.hid (show max x u = x by omega)
              have HY := Lib.hid (show min y v = v by omega)
              go_region_held3 (fun w' => w'.cell? ⟨b1, o1 + i * 2, none⟩ = some (.int .i64 x) ∧ w'.cell? ⟨b1, o1 + i * 2 + 1, none⟩ = some (.int .i64 y) ∧ w'.cell? ⟨b2, o2 + k * 2, none⟩ = some (.int .i64 u) ∧ w'.cell? ⟨b2, o2 + k * 2 + 1, none⟩ = some (.int .i64 v))
                (first
                  | (exact ⟨hc1, hd1, hc2, hd2⟩)
                  | go_keep)
                (fail)
              all_goals (go_wp2_with fail; go_meet; exact ⟨rfl, by rw [HX.out, HY.out]⟩)
            · have HX := Lib.hid (show max x u = x by omega)
              have HY := Lib.hid (show min y v = y by omega)
              go_region_held3 (fun w' => w'.cell? ⟨b1, o1 + i * 2, none⟩ = some (.int .i64 x) ∧ w'.cell? ⟨b1, o1 + i * 2 + 1, none⟩ = some (.int .i64 y) ∧ w'.cell? ⟨b2, o2 + k * 2, none⟩ = some (.int .i64 u) ∧ w'.cell? ⟨b2, o2 + k * 2 + 1, none⟩ = some (.int .i64 v))
                (first
                  | (exact ⟨hc1, hd1, hc2, hd2⟩)
                  | go_keep)
                (fail)
              all_goals (go_wp2_with fail; go_meet; exact ⟨rfl, by rw [HX.out, HY.out]⟩)
        case rest =>
          obtain ⟨rfl, rfl⟩ := hcut
          generalize max x u = M at *
          generalize min y v = N at *
          by_cases hr : M ≤ N
          · rw [if_pos hr] at HLE HRI
            have R0 := Rds.new (wr.alloc (.cells #[.int .i64 M, .int .i64 N] 67)) 2 1 #[.int .i64 M, .int .i64 N] 67 (rngs [(M, N)]) rfl rfl
            rw [show (wr.alloc (.cells #[.int .i64 M, .int .i64 N] 67)).heap.size = wr.heap.size + 1 by simp] at R0
            have R := Lib.hid R0
            clear R0
            have HNE1 := Lib.hid (show (some b1 : Option Nat) ≠ (Value.slice Ao t co).ownBlock from fun e => by have := hout.lt _ e.symm; omega)
            have HNE2 := Lib.hid (show (some b2 : Option Nat) ≠ (Value.slice Ao t co).ownBlock from fun e => by have := hout.lt _ e.symm; omega)
            have hd1' : ((wr.alloc (.cells #[.int .i64 M, .int .i64 N] 67)).alloc (.cells #[.int .i64 M, .int .i64 N] 67)).cell? ⟨b1, o1 + i * 2 + 1, none⟩ = some (.int .i64 y) := by rw [World.cell?_alloc_lt _ _ _ (by simp; omega), World.cell?_alloc_lt _ _ _ (by simp; omega)]; exact hd1
            have hd2' : ((wr.alloc (.cells #[.int .i64 M, .int .i64 N] 67)).alloc (.cells #[.int .i64 M, .int .i64 N] 67)).cell? ⟨b2, o2 + k * 2 + 1, none⟩ = some (.int .i64 v) := by rw [World.cell?_alloc_lt _ _ _ (by simp; omega), World.cell?_alloc_lt _ _ _ (by simp; omega)]; exact hd2
            have HD1 := Lib.hid hd1'
            have HD2 := Lib.hid hd2'
            clear hd1' hd2'
            by_cases hyv : y < v
            · go_wp2_with (at_builtin; refine app_rngs (.tmp 47) (.tmp 49) (base := w.heap.size) (by exact (hout.alloc _).alloc _) R.out (by omega) (by simp; omega) rfl rfl rfl rfl ?_; intro v3 w3 hown3 hg3 hat3; have e1 := hg3.cell (by exact HD1.out) HNE1.out; have e2 := hg3.cell (by exact HD2.out) HNE2.out)
              go_quiet (fail)
              go_wp2
              go_roundw
              case rel => exact ⟨i + 1, k, t + 1, _, by omega, by omega, by go_num, by go_num, by omega, HLE.out hyv, hown3, (by first | exact below_drewN ((((hBl.alloc hsz _).drew.alloc (by simp; omega) _).grown hg3 (by simp; omega) (fun g hg => (hout.lt g hg).1))) _)⟩
              case measure => simp [intOf]; omega
            · go_wp2_with (at_builtin; refine app_rngs (.tmp 47) (.tmp 49) (base := w.heap.size) (by exact (hout.alloc _).alloc _) R.out (by omega) (by simp; omega) rfl rfl rfl rfl ?_; intro v3 w3 hown3 hg3 hat3; have e1 := hg3.cell (by exact HD1.out) HNE1.out; have e2 := hg3.cell (by exact HD2.out) HNE2.out)
              go_quiet (fail)
              go_wp2
              go_roundw
              case rel => exact ⟨i, k + 1, t + 1, _, by omega, by omega, by go_num, by go_num, by omega, HRI.out (by omega), hown3, (by first | exact below_drewN ((((hBl.alloc hsz _).drew.alloc (by simp; omega) _).grown hg3 (by simp; omega) (fun g hg => (hout.lt g hg).1))) _)⟩
              case measure => simp [intOf]; omega
          · rw [if_neg hr] at HLE HRI
            have hbw1 : b1 < wr.heap.size := by omega
            have hbw2 : b2 < wr.heap.size := by omega
            have hd1' : (wr.alloc (.cells #[.int .i64 M, .int .i64 N] 67)).cell? ⟨b1, o1 + i * 2 + 1, none⟩ = some (.int .i64 y) := by rw [World.cell?_alloc_lt _ _ _ (by simpa using hbw1)]; exact hd1
            have hd2' : (wr.alloc (.cells #[.int .i64 M, .int .i64 N] 67)).cell? ⟨b2, o2 + k * 2 + 1, none⟩ = some (.int .i64 v) := by rw [World.cell?_alloc_lt _ _ _ (by simpa using hbw2)]; exact hd2
            by_cases hyv : y < v
            · go_wp2_with fail
              go_quiet (fail)
              go_wp2
              go_roundw
              case rel => exact ⟨i + 1, k, t, _, by omega, by omega, by go_num, by go_num, by omega, HLE.out hyv, hout.alloc _, below_drewN (hBl.alloc hsz _) _⟩
              case measure => simp [intOf]; omega
            · go_wp2_with fail
              go_quiet (fail)
              go_wp2
              go_roundw
              case rel => exact ⟨i, k + 1, t, _, by omega, by omega, by go_num, by go_num, by omega, HRI.out (by omega), hout.alloc _, below_drewN (hBl.alloc hsz _) _⟩
              case measure => simp [intOf]; omega
      · go_wp2
        go_ret
        exact ⟨out, HI.out.fin (.inr (by rw [HB.out]; omega)), by rw [← own_rngs_len hout]; omega, ownRngs_of rfl hout hBl⟩
    · go_wp2
      go_ret
      exact ⟨out, HI.out.fin (.inl (by rw [HA.out]; omega)), by rw [← own_rngs_len hout]; omega, ownRngs_of rfl hout hBl⟩
end Go.Proofs.YtbiahhojnjchnaaGreat
