/- Bracket expressions without ^ and &, folded: plain. -/
import Derived.Test.YtbiahhojnjchnaaGreatGZ
import Derived.Test.YtbiahhojnjchnaaGreatGL
set_option linter.unusedVariables false
set_option linter.unusedSimpArgs false
namespace Go.Proofs.YtbiahhojnjchnaaGreat
/-! ### an expression without ^ and &, folded -/
/-- what lies between a set and its fold -/
def Fd (f f' : Int → Prop) : Prop := (∀ q, f q → f' q) ∧ ∀ q, f' q → foldQ true f q
theorem foldQ_true (f : Int → Prop) (q : Int) : foldQ true f q ↔ f q ∨ ∃ p, (∃ x, x ∈ besP p) ∧ f p ∧ q ∈ orb p := by unfold foldQ; rw [if_pos rfl]
theorem Fd.refl (f : Int → Prop) : Fd f f := ⟨fun _ h => h, fun q h => (foldQ_true f q).2 (.inl h)⟩
theorem foldQ_mono {f g : Int → Prop} (h : ∀ q, f q → g q) (q : Int) (hq : foldQ true f q) : foldQ true g q := by
  rcases (foldQ_true f q).1 hq with h1 | ⟨p, hp, h1, h2⟩
  · exact (foldQ_true g q).2 (.inl (h q h1))
  · exact (foldQ_true g q).2 (.inr ⟨p, hp, h p h1, h2⟩)
theorem foldQ_twice (f : Int → Prop) (q : Int) (hq : foldQ true (foldQ true f) q) : foldQ true f q := by
  rcases (foldQ_true _ q).1 hq with h1 | ⟨p, hp, h1, h2⟩
  · exact h1
  · rcases (foldQ_true f p).1 h1 with h3 | ⟨p2, hp2, hm2, hq2⟩
    · exact (foldQ_true f q).2 (.inr ⟨p, hp, h3, h2⟩)
    · obtain ⟨y, hy⟩ := hp2
      have hr := bes_rng hy
      have := ((orb_facts p2 hr.1 hr.2).2 p hq2).2
      exact (foldQ_true f q).2 (.inr ⟨p2, ⟨y, hy⟩, hm2, by rw [← this]; exact h2⟩)
theorem Fd.fold {f f' : Int → Prop} (h : Fd f f') (q : Int) : foldQ true f' q ↔ foldQ true f q :=
  ⟨fun hq => foldQ_twice f q (foldQ_mono h.2 q hq), foldQ_mono h.1 q⟩
theorem Fd.folded {f f' : Int → Prop} (h : Fd f f') : Fd f (foldQ true f') :=
  ⟨fun q hq => (foldQ_true f' q).2 (.inl (h.1 q hq)), fun q hq => (h.fold q).1 hq⟩
theorem Fd.or {f f' g g' : Int → Prop} (h : Fd f f') (k : Fd g g') : Fd (fun q => f q ∨ g q) (fun q => f' q ∨ g' q) :=
  ⟨fun q => Or.imp (h.1 q) (k.1 q), fun q hq => hq.elim (fun x => foldQ_mono (fun _ y => .inl y) q (h.2 q x)) fun x => foldQ_mono (fun _ y => .inr y) q (k.2 q x)⟩
def RelB : BR SP → BR SP → Prop
  | .error e, .error e' => e = e'
  | .ok r, .ok r' => r.2 = r'.2 ∧ Fd r.1 r'.1
  | _, _ => False
def RelI : BR Itm → BR Itm → Prop
  | .error e, .error e' => e = e'
  | .ok r, .ok r' => r.nx = r'.nx ∧ r.pt = r'.pt ∧ Fd r.f r'.f
  | _, _ => False
theorem RelI.refl (x : BR Itm) : RelI x x := by
  cases x with
  | error e => rfl
  | ok r => exact ⟨rfl, rfl, Fd.refl _⟩
theorem item_fo (d : Int) (l : List Int) {W W' : Int → BR SP} (hW : ∀ p, RelB (W p) (W' p)) (p : Int) : RelI (itemP d l W p) (itemP d l W' p) := by
  unfold itemP
  cases bNamedP d l p with
  | some r => exact RelI.refl _
  | none =>
    simp only
    split
    · exact RelI.refl _
    · split
      · have := hW p
        cases h1 : W p with
        | error e =>
          cases h2 : W' p with
          | error e' => rw [h1, h2] at this; exact this
          | ok r' => rw [h1, h2] at this; exact this.elim
        | ok r =>
          cases h2 : W' p with
          | error e' => rw [h1, h2] at this; exact this.elim
          | ok r' => rw [h1, h2] at this; exact ⟨this.1, rfl, this.2⟩
      · exact RelI.refl _
theorem RelB.refl (x : BR SP) : RelB x x := by
  cases x with
  | error e => rfl
  | ok r => exact ⟨rfl, Fd.refl _⟩
theorem pair_fo (pt at_ : Int) {x y : BR Itm} (h : RelI x y) : RelB (pairP pt at_ x) (pairP pt at_ y) := by
  cases x with
  | error e =>
    cases y with
    | error e' => exact h
    | ok r => exact h.elim
  | ok r =>
    cases y with
    | error e' => exact h.elim
    | ok r' =>
      obtain ⟨h1, h2, h3⟩ := h
      unfold pairP
      simp only
      rw [h1, h2]
      exact RelB.refl _
theorem span_fo (d : Int) (l : List Int) {I I' : Int → BR Itm} (hI : ∀ p, RelI (I p) (I' p)) (p : Int) : RelB (spanP d l I p) (spanP d l I' p) := by
  unfold spanP
  have := hI p
  cases h1 : I p with
  | error e =>
    cases h2 : I' p with
    | error e' => rw [h1, h2] at this; exact this
    | ok r' => rw [h1, h2] at this; exact this.elim
  | ok r =>
    cases h2 : I' p with
    | error e' => rw [h1, h2] at this; exact this.elim
    | ok r' =>
      rw [h1, h2] at this
      obtain ⟨k1, k2, k3⟩ := this
      simp only
      rw [k1, k2]
      split
      · exact ⟨rfl, k3⟩
      · split
        · exact RelB.refl _
        · split
          · exact RelB.refl _
          · exact pair_fo _ _ (hI _)
theorem part_fo (d : Int) (l : List Int) {S S' : Int → BR SP} (hS : ∀ p, RelB (S p) (S' p)) (first : Bool) (m : Nat) : ∀ (n : Nat) (acc acc' : Int → Prop) (p : Int), Fd acc acc' →
    RelB (partP d l S first m n acc p) (partP d l S' first m n acc' p) := by
  induction m with
  | zero => intro n acc acc' p _; rfl
  | succ m ih =>
    intro n acc acc' p h
    unfold partP
    split
    · split
      · exact RelB.refl _
      · exact ⟨rfl, h⟩
    · split
      · split
        · exact RelB.refl _
        · exact ⟨rfl, h⟩
      · have := hS p
        cases h1 : S p with
        | error e =>
          cases h2 : S' p with
          | error e' => rw [h1, h2] at this; exact this
          | ok r' => rw [h1, h2] at this; exact this.elim
        | ok r =>
          cases h2 : S' p with
          | error e' => rw [h1, h2] at this; exact this.elim
          | ok r' =>
            rw [h1, h2] at this
            simp only
            rw [this.1]
            exact ih _ _ _ _ (h.or this.2)
theorem says_no {l : List Int} {x : Int} (hx : ∀ y ∈ l, y ≠ x) (h0 : x ≠ -1) (p : Int) (xs : List Int) : saysB l p (x :: xs) = false := by
  unfold saysB
  have : ptAt l p ≠ x := by
    unfold ptAt
    split
    · exact hx _ (List.getElem_mem _)
    · exact fun e => h0 e.symm
  simp [this]
theorem tail_fo (d : Int) {l : List Int} (h38 : ∀ y ∈ l, y ≠ 38) {S S' : Int → BR SP} (hS : ∀ p, RelB (S p) (S' p)) (p : Int) :
    match tailP d l false S p, tailP d l true S' p with
    | .error e, .error e' => e = e'
    | .ok r, .ok r' => r.2 = r'.2 ∧ Fd r.1 r'.1 ∧ ∀ q, r'.1 q ↔ foldQ true r.1 q
    | _, _ => False := by
  unfold tailP
  have := part_fo d l hS true (((l.length : Int) - p).toNat + 1) 0 (fun _ => False) (fun _ => False) p (Fd.refl _)
  cases h1 : partP d l S true (((l.length : Int) - p).toNat + 1) 0 (fun _ => False) p with
  | error e =>
    cases h2 : partP d l S' true (((l.length : Int) - p).toNat + 1) 0 (fun _ => False) p with
    | error e' => rw [h1, h2] at this; exact this
    | ok r' => rw [h1, h2] at this; exact this.elim
  | ok r =>
    cases h2 : partP d l S' true (((l.length : Int) - p).toNat + 1) 0 (fun _ => False) p with
    | error e' => rw [h1, h2] at this; exact this.elim
    | ok r' =>
      rw [h1, h2] at this
      obtain ⟨k1, k2⟩ := this
      simp only [moreP, says_no h38 (by decide), Bool.false_eq_true, if_false]
      refine ⟨by rw [k1], ?_, ?_⟩
      · exact ⟨fun q hq => k2.folded.1 q (by simpa [foldQ] using hq), fun q hq => by simpa [foldQ] using k2.folded.2 q hq⟩
      · intro q
        simpa [foldQ] using k2.fold q
theorem whole_fo (d : Int) {l : List Int} (h94 : ∀ y ∈ l, y ≠ 94) (h38 : ∀ y ∈ l, y ≠ 38) {S S' : Int → BR SP} (hS : ∀ p, RelB (S p) (S' p)) (p : Int) :
    match wholeP d l false S p, wholeP d l true S' p with
    | .error e, .error e' => e = e'
    | .ok r, .ok r' => r.2 = r'.2 ∧ Fd r.1 r'.1 ∧ ∀ q, r'.1 q ↔ foldQ true r.1 q
    | _, _ => False := by
  rw [whole_tail, whole_tail, says_no h94 (by decide)]
  have := tail_fo d h38 hS p
  simp only [Bool.false_eq_true, if_false]
  cases h1 : tailP d l false S p with
  | error e =>
    cases h2 : tailP d l true S' p with
    | error e' => rw [h1, h2] at this; exact this
    | ok r' => rw [h1, h2] at this; exact this.elim
  | ok r =>
    cases h2 : tailP d l true S' p with
    | error e' => rw [h1, h2] at this; exact this.elim
    | ok r' => rw [h1, h2] at this; simpa [turnB] using this
theorem whole_rel (d : Int) {l : List Int} (h94 : ∀ y ∈ l, y ≠ 94) (h38 : ∀ y ∈ l, y ≠ 38) {S S' : Int → BR SP} (hS : ∀ p, RelB (S p) (S' p)) (p : Int) : RelB (wholeP d l false S p) (wholeP d l true S' p) := by
  have := whole_fo d h94 h38 hS p
  cases h1 : wholeP d l false S p with
  | error e =>
    cases h2 : wholeP d l true S' p with
    | error e' => rw [h1, h2] at this; exact this
    | ok r' => rw [h1, h2] at this; exact this.elim
  | ok r =>
    cases h2 : wholeP d l true S' p with
    | error e' => rw [h1, h2] at this; exact this.elim
    | ok r' => rw [h1, h2] at this; exact ⟨this.1, this.2.1⟩
theorem in_fo (d : Int) {l : List Int} (h94 : ∀ y ∈ l, y ≠ 94) (h38 : ∀ y ∈ l, y ≠ 38) (k : Nat) : ∀ p, RelB (inP d l false k p) (inP d l true k p) := by
  induction k with
  | zero => intro p; rfl
  | succ k ih => intro p; exact whole_rel d h94 h38 (span_fo d l (item_fo d l ih)) _
/-- without ^ and &: folded, an expression is wrong as it was, or the fold of what it was -/
theorem all_folded (d : Int) {l : List Int} (h94 : ∀ y ∈ l, y ≠ 94) (h38 : ∀ y ∈ l, y ≠ 38) (p : Int) :
    match allP d l false p, allP d l true p with
    | .error e, .error e' => e = e'
    | .ok r, .ok r' => r.2 = r'.2 ∧ Fd r.1 r'.1 ∧ ∀ q, r'.1 q ↔ foldQ true r.1 q
    | _, _ => False := whole_fo d h94 h38 (span_fo d l (item_fo d l (in_fo d h94 h38 20))) p
end Go.Proofs.YtbiahhojnjchnaaGreat
