/-
  SameInts of the reference and what Decode does with each point, walked.
-/
import Derived.Test.YtlgpnofkfpeacaaEncG
namespace Go.Proofs.Ytlgpnofkfpeacaa
open Go.RowKit
set_option linter.unusedVariables false
def sameB (a b : List Int) : Bool := decide (a = b)
theorem same_len {a b : List Int} (h : a.length ≠ b.length) : sameB a b = false := by simp [sameB]; intro e; exact h (by rw [e])
theorem same_at {a b : List Int} (k : Nat) (h1 : k < a.length) (h2 : k < b.length) (h : a[k] ≠ b[k]) : sameB a b = false := by
  simp [sameB]; intro e; subst e; exact h rfl
theorem same_all {a b : List Int} (hl : a.length = b.length) (h : a.take a.length = b.take a.length) : sameB a b = true := by
  have : a = b := by
    rw [List.take_length, hl, List.take_length] at h; exact h
  simp [sameB, this]
set_option maxHeartbeats 1000000 in
theorem sameInts_any (a b : List Int) (A B : Option Addr) (n m c d : Nat) (w : World) (X : Nat) (hX : X ≤ w.heap.size) (hn : n ≤ maxLen) (hm : m ≤ maxLen) (ha : Rds w w.heap.size 1 A n (ints a)) (hb : Rds w w.heap.size 1 B m (ints b)) :
    Calls Try.prog 14 #[.slice A n c, .slice B m d] w fun e w' => e = .returned (.bool (sameB a b)) ∧ Below w.heap.size w w' := by
  have HA := Lib.hid ha.ints_len
  have HB := Lib.hid hb.ints_len
  unfold maxLen at hn hm
  by_cases h : n = m
  · subst h
    go_enter Try.func14, Try.ntmps14
    go_wp2_with fail
    go_loopw [5] (fun i wr => ∃ k : Nat, k ≤ n ∧ i = .int .i64 k ∧ a.take k = b.take k ∧ Below w.heap.size w wr) (fun i _ => n - (intOf i).toNat)
    case atStart => exact ⟨0, Nat.zero_le _, rfl, by simp, Below.refl _ _⟩
    case round =>
      obtain ⟨k, hk, rfl, hall, hBl⟩ := hrel
      have HALL := Lib.hid hall
      clear hall
      by_cases hlt : k < n
      · obtain ⟨b1, off1, hl1, hA, hb1, hc1⟩ := (ha.below hBl (Nat.le_refl _)).int_at hlt
        obtain ⟨b2, off2, hl2, hB, hb2, hc2⟩ := (hb.below hBl (Nat.le_refl _)).int_at hlt
        subst hA hB
        have HT1 := Lib.hid (take_snoc' a k hl1)
        have HT2 := Lib.hid (take_snoc' b k hl2)
        have HS := Lib.hid (same_at k hl1 hl2)
        obtain ⟨p, hp⟩ : ∃ p, p = a[k] := ⟨_, rfl⟩
        obtain ⟨q, hq⟩ : ∃ q, q = b[k] := ⟨_, rfl⟩
        rw [← hp] at hc1 HT1 HS
        rw [← hq] at hc2 HT2 HS
        clear hp hq
        have i1 : (0 : Int) ≤ (k : Int) := by omega
        have i2 : (k : Int) < (n : Int) := by omega
        by_cases hpq : p = q
        · subst hpq
          go_wp2_with fail
          go_quiet (fail)
          go_wp2
          go_roundw
          case rel => exact ⟨k + 1, by omega, by go_num, by rw [HT1.out, HT2.out, HALL.out], below_drewN hBl _⟩
          case measure => simp [intOf]; omega
        · have hpq' : (p != q) = true := by simpa using hpq
          have HPQ := Lib.hid hpq
          clear hpq
          go_wp2_with fail
          go_quiet (fail)
          go_wp2
          go_ret
          exact ⟨ret_bool (HS.out HPQ.out).symm, below_drewN hBl _⟩
      · obtain rfl : k = n := by omega
        go_wp2
        go_ret
        exact ⟨ret_bool (same_all (by rw [HA.out, HB.out]) (by rw [HA.out]; exact HALL.out)).symm, hBl⟩
  · have h' : ((n : Int) != (m : Int)) = true := by rw [bne_iff_ne]; omega
    have hs := Lib.hid (same_len (a := a) (b := b) (by rw [HA.out, HB.out]; exact h))
    clear h
    go_enter Try.func14, Try.ntmps14
    go_wp2
    go_ret
    exact ⟨ret_bool hs.out.symm, Below.refl _ _⟩
set_option maxHeartbeats 1000000 in
theorem clo24 (p at_ : Int) (g n base : Nat) (v : Value) (xs : List Int) (w : World) (hc : w.cell? ⟨g, 0, none⟩ = some v) (hf : w.frozen? ⟨g, 0, none⟩ = false) (hown : w.ownsRow base 3 1 v n (ints xs)) (hg : g < base) (hb : base ≤ w.heap.size) (hn : n ≤ 5000) :
    Calls Try.prog 24 #[.int .i64 p, .int .i64 at_, .pointer (some ⟨g, 0, none⟩)] w fun e w' => e = .returned (.tuple #[]) ∧ ∃ v', w'.cell? ⟨g, 0, none⟩ = some v' ∧ w'.ownsRow base 3 1 v' (n + 1) (ints (xs ++ [p])) ∧ Below g w w' ∧ w'.frozen? ⟨g, 0, none⟩ = false ∧
      (∀ k, k < w.heap.size → k ≠ g → v.ownBlock ≠ some k → w'.heap[k]? = w.heap[k]?) ∧ (∀ k, k < w.heap.size → v.ownBlock ≠ some k → v'.ownBlock ≠ some k) := by
  obtain ⟨A, c, rfl, h1, h2⟩ := own_slice hown
  have R := Lib.hid (Rds.new w 1 1 #[.int .i64 p] 3 (ints [p]) rfl rfl)
  go_enter Try.func24, Try.ntmps24
  have hgl : g < w.heap.size := by omega
  have hca : (w.alloc (.cells #[.int .i64 p] 3)).cell? ⟨g, 0, none⟩ = some (.slice A n c) := by rw [World.cell?_alloc_lt w _ ⟨g, 0, none⟩ hgl]; exact hc
  have hfa : (w.alloc (.cells #[.int .i64 p] 3)).frozen? ⟨g, 0, none⟩ = false := by rw [World.frozen?_of_block (w := w) (a := ⟨g, 0, none⟩) (Below.heap_alloc w _ g hgl)]; exact hf
  go_wp2_with (at_builtin; refine app_ints (.tmp 5) (.tmp 7) (hown.alloc _) R.out (by omega) (by simp; omega) rfl rfl rfl rfl ?_; intro v3 w3 hown3 hg3 hat3; have hne : (some g : Option Nat) ≠ (Value.slice A n c).ownBlock := (fun e => absurd (hown.lt g e.symm).1 (by omega)); have hc3 := hg3.cell hca hne; have hf3 : w3.frozen? ⟨g, 0, none⟩ = false := (by rw [World.frozen?_of_block (a := ⟨g, 0, none⟩) (hg3.block g (by simp; omega) hne)]; exact hfa); obtain ⟨A3, c3, hv3, q1, q2⟩ := own_slice hown3; subst hv3; clear hca hfa hne; have HAT := Lib.hid hat3; clear hat3)
  go_end0
  refine ⟨rfl, _, World.cell?_setCell_same _ _ _ hc3, ?_, ?_, ?_, ?_, ?_⟩
  · exact ownsRow_setCell_below hown3 hg _
  · have B1 : Below g w w3 := ((Below.refl _ _).alloc (by omega) _).grown hg3 (by simp; omega) (fun k hk => by have := hown.lt k hk; omega)
    exact B1.setCell (Nat.le_refl _) _
  · simpa using hf3
  · intro k hk hkg hne
    rw [Below.heap_setCell w3 ⟨g, 0, none⟩ _ k hkg, hg3.block k (by simp; omega) (fun e => hne e.symm)]
    exact Below.heap_alloc w _ k hk
  · intro k hk hne
    rcases HAT.out with e | e
    · rw [e]; exact hne
    · rw [e]; simp; omega
def ER (w : World) (g base r n : Nat) (xs : List Int) (wr : World) (v : Value) : Prop :=
  wr.frozen? ⟨g, 0, none⟩ = false ∧ r < wr.heap.size ∧ wr.heap[r]? = some (.cells #[.int .i64 0, .int .i64 0] 25 (0, 0)) ∧ Below g w wr ∧ wr.cell? ⟨g, 0, none⟩ = some v ∧ wr.ownsRow base 3 1 v n (ints xs) ∧ v.ownBlock ≠ some r
theorem ER.below {w wr w2 : World} {g base r n : Nat} {xs : List Int} {v : Value} (h : ER w g base r n xs wr v) (hg : g < wr.heap.size) (hb : Below wr.heap.size wr w2) : ER w g base r n xs w2 v := by
  obtain ⟨h1, h2, h3, h5, h6, h7, h8⟩ := h
  exact ⟨by rw [hb.frozen (p := ⟨g, 0, none⟩) hg]; exact h1, Nat.lt_of_lt_of_le h2 hb.size, (hb.block r h2).trans h3, h5.trans (hb.mono (by omega)), by rw [hb.cell (p := ⟨g, 0, none⟩) hg]; exact h6, own_below h7 hb (Nat.le_refl _), h8⟩
theorem ER.step {w wr w2 : World} {g base r n : Nat} {xs ys : List Int} {v v' : Value} (h : ER w g base r n xs wr v) (hgr : g < r) (hc : w2.cell? ⟨g, 0, none⟩ = some v') (ho : w2.ownsRow base 3 1 v' (n + 1) (ints ys)) (hb : Below g wr w2) (hf : w2.frozen? ⟨g, 0, none⟩ = false)
    (hk : ∀ k, k < wr.heap.size → k ≠ g → v.ownBlock ≠ some k → w2.heap[k]? = wr.heap[k]?) (hv : ∀ k, k < wr.heap.size → v.ownBlock ≠ some k → v'.ownBlock ≠ some k) : ER w g base r (n + 1) ys w2 v' := by
  obtain ⟨h1, h2, h3, h5, h6, h7, h8⟩ := h
  have e := hk r h2 (by omega) h8
  exact ⟨hf, Nat.lt_of_lt_of_le h2 hb.size, e.trans h3, h5.trans hb, hc, ho, hv r h2 h8⟩
theorem own_setCell_far {w : World} {base : Nat} {e : TypeId} {size n : Nat} {v : Value} {xs : List Value} (h : w.ownsRow base e size v n xs) {a : Addr} (ha : v.ownBlock ≠ some a.block) (u : Value) : (w.setCell a u).ownsRow base e size v n xs := by
  refine ⟨h.1, ?_⟩
  rcases h.2 with h2 | ⟨g, cap, cur, rfl, hg, hh, r⟩
  · exact .inl h2
  · refine .inr ⟨g, cap, cur, rfl, hg, ?_, r⟩
    rw [Below.heap_setCell _ _ _ _ (fun e => ha (by simp [Value.ownBlock, e]))]; exact hh
theorem blk_cell {w : World} {r : Nat} {cs : Array Value} {t : TypeId} (h : w.heap[r]? = some (.cells cs t (0, 0))) (i : Nat) : w.cell? ⟨r, i, none⟩ = cs[i]? ∧ w.frozen? ⟨r, i, none⟩ = false := ⟨cell_of_row w r i cs t (0, 0) h, by simp [World.frozen?, h]⟩
end Go.Proofs.Ytlgpnofkfpeacaa
