/-
  Roads, plain: what rows of bytes go along them; numbers written in digits. No condition. Roads in their order; what stands in a text, plain. No condition.
-/

namespace Go.Proofs.YtpdcbddofekbcaaGreat
set_option linter.unusedVariables false
/-- does a row of bytes go along a road, all of it? -/
def hitR : List (Int × Int) → List Int → Bool
  | [], [] => true
  | r :: rs, d :: ds => (decide (r.1 ≤ d) && decide (d ≤ r.2)) && hitR rs ds
  | _, _ => false
def cntR (ls : List (List (Int × Int))) (ds : List Int) : Nat := (ls.filter fun r => hitR r ds).length
/-- along one road, and one alone, goes what S says, and no other row -/
def Cov (ls : List (List (Int × Int))) (S : List Int → Prop) : Prop := ∀ ds, (S ds → cntR ls ds = 1) ∧ (¬ S ds → cntR ls ds = 0)
def Shape (n : Nat) (ls : List (List (Int × Int))) : Prop := ∀ r ∈ ls, r.length = n ∧ ∀ x ∈ r, 0 ≤ x.1 ∧ x.1 ≤ x.2 ∧ x.2 ≤ 255
theorem cntR_append (a b : List (List (Int × Int))) (ds : List Int) : cntR (a ++ b) ds = cntR a ds + cntR b ds := by simp [cntR]
theorem Cov.nil : Cov [] (fun _ => False) := fun ds => ⟨fun h => h.elim, fun _ => rfl⟩
theorem Cov.congr {ls : List (List (Int × Int))} {S T : List Int → Prop} (h : Cov ls S) (e : ∀ ds, S ds ↔ T ds) : Cov ls T := fun ds => ⟨fun t => (h ds).1 ((e ds).2 t), fun t => (h ds).2 fun s => t ((e ds).1 s)⟩
theorem Cov.append {ls ms : List (List (Int × Int))} {S T : List Int → Prop} (h : Cov ls S) (k : Cov ms T) (hd : ∀ ds, S ds → T ds → False) : Cov (ls ++ ms) (fun ds => S ds ∨ T ds) := fun ds => by
  rw [cntR_append]
  refine ⟨fun hs => ?_, fun hn => ?_⟩
  · rcases hs with hs | hs
    · rw [(h ds).1 hs, (k ds).2 fun t => hd ds hs t]
    · rw [(k ds).1 hs, (h ds).2 fun t => hd ds t hs]
  · rw [(h ds).2 fun t => hn (.inl t), (k ds).2 fun t => hn (.inr t)]
theorem Cov.one (r : List (Int × Int)) {S : List Int → Prop} (h : ∀ ds, hitR r ds = true ↔ S ds) : Cov [r] S := fun ds => by
  refine ⟨fun s => ?_, fun s => ?_⟩
  · simp [cntR, List.filter, (h ds).2 s]
  · have : hitR r ds = false := by
      cases hh : hitR r ds
      · rfl
      · exact absurd ((h ds).1 hh) s
    simp [cntR, List.filter, this]
theorem hit_cons {t u : Int} {r : List (Int × Int)} {ds : List Int} : hitR ((t, u) :: r) ds = true ↔ ∃ d tl, ds = d :: tl ∧ t ≤ d ∧ d ≤ u ∧ hitR r tl = true := by
  cases ds with
  | nil => simp [hitR]
  | cons d tl => simp [hitR, and_assoc]
theorem hit_nil {ds : List Int} : hitR [] ds = true ↔ ds = [] := by cases ds <;> simp [hitR]
theorem cntR_cons (t : Int) (ls : List (List (Int × Int))) (ds : List Int) : cntR (ls.map fun r => (t, t) :: r) ds = match ds with | [] => 0 | d :: tl => if d = t then cntR ls tl else 0 := by
  induction ls with
  | nil => cases ds with
    | nil => rfl
    | cons d tl => simp [cntR]
  | cons r ls ih =>
    rw [List.map_cons, show ((t, t) :: r) :: ls.map (fun r => (t, t) :: r) = [(t, t) :: r] ++ ls.map (fun r => (t, t) :: r) from rfl, cntR_append, ih]
    cases ds with
    | nil => simp [cntR, hitR]
    | cons d tl =>
      simp only
      by_cases h : d = t
      · rw [if_pos h, if_pos h, show r :: ls = [r] ++ ls from rfl, cntR_append]
        congr 1
        subst h
        cases hh : hitR r tl <;> simp [cntR, hitR, List.filter, hh]
      · rw [if_neg h, if_neg h]
        have : hitR ((t, t) :: r) (d :: tl) = false := by
          cases hh : hitR ((t, t) :: r) (d :: tl)
          · rfl
          · obtain ⟨d', tl', e, h1, h2, _⟩ := hit_cons.1 hh
            injection e with e1 e2
            omega
        simp [cntR, List.filter, this]
theorem Cov.pre {ls : List (List (Int × Int))} {S : List Int → Prop} (h : Cov ls S) (t : Int) : Cov (ls.map fun r => (t, t) :: r) (fun ds => ∃ tl, ds = t :: tl ∧ S tl) := fun ds => by
  rw [cntR_cons]
  cases ds with
  | nil => exact ⟨(fun ⟨tl, e, _⟩ => nomatch e), fun _ => rfl⟩
  | cons d tl =>
    simp only
    by_cases hd : d = t
    · subst hd
      rw [if_pos rfl]
      exact ⟨(fun ⟨tl', e, s⟩ => by injection e with _ e; subst e; exact (h tl).1 s), fun hn => (h tl).2 fun s => hn ⟨tl, rfl, s⟩⟩
    · rw [if_neg hd]
      exact ⟨(fun ⟨tl', e, s⟩ => by injection e with e1 _; exact absurd e1 hd), fun _ => rfl⟩
theorem Shape.append {n : Nat} {a b : List (List (Int × Int))} (h : Shape n a) (k : Shape n b) : Shape n (a ++ b) := fun r hr => (List.mem_append.1 hr).elim (h r) (k r)
theorem Shape.pre {n : Nat} {ls : List (List (Int × Int))} (h : Shape n ls) {t : Int} (h0 : 0 ≤ t) (h1 : t ≤ 255) : Shape (n + 1) (ls.map fun r => (t, t) :: r) := fun r hr => by
  obtain ⟨r', hr', rfl⟩ := List.mem_map.1 hr
  obtain ⟨e, hx⟩ := h r' hr'
  refine ⟨by simp [e], fun x hx' => ?_⟩
  rcases List.mem_cons.1 hx' with e | e
  · subst e; exact ⟨h0, Int.le_refl _, h1⟩
  · exact hx x e

/-! ### digits: of base B, behind the first one with a mark m; n + 1 of them -/
def encB (B m : Int) : Int → Nat → Int → List Int
  | mk, 0, x => [mk + x]
  | mk, n + 1, x => (mk + x / B ^ (n + 1)) :: encB B m m n (x % B ^ (n + 1))
/-- rows of the numbers from a up to b -/
def ENum (B m mk : Int) (n : Nat) (a b : Int) (ds : List Int) : Prop := ∃ x, a ≤ x ∧ x ≤ b ∧ ds = encB B m mk n x
theorem encB_inj {B m : Int} (hB : 0 < B) : ∀ (n : Nat) (mk x y : Int), encB B m mk n x = encB B m mk n y → x = y
  | 0, mk, x, y, h => by simp [encB] at h; omega
  | n + 1, mk, x, y, h => by
    have hp : 0 < B ^ (n + 1) := Int.pow_pos hB
    simp only [encB, List.cons.injEq] at h
    have h1 := encB_inj hB n m _ _ h.2
    have h2 : x / B ^ (n + 1) = y / B ^ (n + 1) := by omega
    have e1 := Int.mul_ediv_add_emod x (B ^ (n + 1))
    have e2 := Int.mul_ediv_add_emod y (B ^ (n + 1))
    rw [← e1, ← e2, h1, h2]
theorem ENum.split {B m mk : Int} {n : Nat} {a b c : Int} (h1 : a ≤ b) (h2 : b ≤ c + 1) (ds : List Int) : (ENum B m mk n a (b - 1) ds ∨ ENum B m mk n b c ds) ↔ ENum B m mk n a c ds := by
  constructor
  · rintro (⟨x, h3, h4, e⟩ | ⟨x, h3, h4, e⟩)
    · exact ⟨x, h3, by omega, e⟩
    · exact ⟨x, by omega, h4, e⟩
  · rintro ⟨x, h3, h4, e⟩
    by_cases h : x < b
    · exact .inl ⟨x, h3, by omega, e⟩
    · exact .inr ⟨x, by omega, h4, e⟩
theorem ENum.apart {B m mk : Int} (hB : 0 < B) {n : Nat} {a b c d : Int} (h : b < c) (ds : List Int) (h1 : ENum B m mk n a b ds) (h2 : ENum B m mk n c d ds) : False := by
  obtain ⟨x, _, hx, e⟩ := h1
  obtain ⟨y, hy, _, e2⟩ := h2
  have := encB_inj hB n mk x y (e ▸ e2)
  omega
theorem cov_one (B m mk a b : Int) : Cov [[(mk + a, mk + b)]] (ENum B m mk 0 a b) := Cov.one _ fun ds => by
  rw [hit_cons]
  constructor
  · rintro ⟨d, tl, rfl, h1, h2, h3⟩
    rw [hit_nil] at h3
    subst h3
    exact ⟨d - mk, by omega, by omega, by simp [encB]; omega⟩
  · rintro ⟨x, h1, h2, rfl⟩
    exact ⟨mk + x, [], rfl, by omega, by omega, by simp [hitR]⟩
/-- whole digits: all rows -/
theorem hit_full {B m : Int} (hB : 0 < B) : ∀ (n : Nat) (ds : List Int), hitR (List.replicate (n + 1) (m, m + B - 1)) ds = true ↔ ∃ x, 0 ≤ x ∧ x < B ^ (n + 1) ∧ ds = encB B m m n x
  | 0, ds => by
    rw [List.replicate_one, hit_cons]
    constructor
    · rintro ⟨d, tl, rfl, h1, h2, h3⟩
      rw [hit_nil] at h3
      subst h3
      have hB1 : B ^ (0 + 1) = B := by simp [Int.pow_succ]
      exact ⟨d - m, by omega, by rw [hB1]; omega, by simp [encB]; omega⟩
    · rintro ⟨x, h1, h2, rfl⟩
      have hB1 : B ^ (0 + 1) = B := by simp [Int.pow_succ]
      rw [hB1] at h2
      exact ⟨m + x, [], rfl, by omega, by omega, by simp [hitR]⟩
  | n + 1, ds => by
    have hp : 0 < B ^ (n + 1) := Int.pow_pos hB
    rw [List.replicate_succ, hit_cons]
    constructor
    · rintro ⟨d, tl, rfl, h1, h2, h3⟩
      obtain ⟨x, hx0, hx1, rfl⟩ := (hit_full hB n tl).1 h3
      have hd0 : 0 ≤ d - m := by omega
      have hd1 : d - m + 1 ≤ B := by omega
      refine ⟨(d - m) * B ^ (n + 1) + x, ?_, ?_, ?_⟩
      · have := Int.mul_nonneg hd0 (Int.le_of_lt hp); omega
      · have h4 : (d - m + 1) * B ^ (n + 1) ≤ B * B ^ (n + 1) := Int.mul_le_mul_of_nonneg_right hd1 (Int.le_of_lt hp)
        rw [Int.add_mul, Int.one_mul] at h4
        have e : B ^ (n + 1 + 1) = B * B ^ (n + 1) := by rw [Int.pow_succ B (n + 1), Int.mul_comm]
        rw [e]
        generalize B ^ (n + 1) = P at *
        omega
      · simp only [encB]
        rw [show (d - m) * B ^ (n + 1) + x = x + B ^ (n + 1) * (d - m) by rw [Int.mul_comm]; omega, Int.add_mul_ediv_left _ _ (by omega), Int.add_mul_emod_self_left, Int.ediv_eq_zero_of_lt hx0 hx1, Int.emod_eq_of_lt hx0 hx1]
        congr 1
        omega
    · rintro ⟨x, h1, h2, rfl⟩
      refine ⟨m + x / B ^ (n + 1), _, rfl, ?_, ?_, (hit_full hB n _).2 ⟨_, Int.emod_nonneg _ (by omega), Int.emod_lt_of_pos _ hp, rfl⟩⟩
      · have := Int.ediv_nonneg h1 (Int.le_of_lt hp); omega
      · have : x / B ^ (n + 1) < B := Int.ediv_lt_of_lt_mul hp (by rw [Int.pow_succ, Int.mul_comm] at h2; exact h2)
        omega
theorem cov_whole {B m mk : Int} (hB : 0 < B) {n : Nat} {a b : Int} (ha : a % B ^ (n + 1) = 0) (hb : b % B ^ (n + 1) = B ^ (n + 1) - 1) :
    Cov [(mk + a / B ^ (n + 1), mk + b / B ^ (n + 1)) :: List.replicate (n + 1) (m, m + B - 1)] (ENum B m mk (n + 1) a b) := Cov.one _ fun ds => by
  have hp : 0 < B ^ (n + 1) := Int.pow_pos hB
  have ea := Int.mul_ediv_add_emod a (B ^ (n + 1))
  have eb := Int.mul_ediv_add_emod b (B ^ (n + 1))
  rw [hit_cons]
  constructor
  · rintro ⟨d, tl, rfl, h1, h2, h3⟩
    obtain ⟨x, hx0, hx1, rfl⟩ := (hit_full hB n tl).1 h3
    refine ⟨B ^ (n + 1) * (d - mk) + x, ?_, ?_, ?_⟩
    · have := Int.mul_le_mul_of_nonneg_left (show a / B ^ (n + 1) ≤ d - mk by omega) (Int.le_of_lt hp)
      omega
    · have := Int.mul_le_mul_of_nonneg_left (show d - mk ≤ b / B ^ (n + 1) by omega) (Int.le_of_lt hp)
      omega
    · simp only [encB]
      rw [show B ^ (n + 1) * (d - mk) + x = x + B ^ (n + 1) * (d - mk) by omega, Int.add_mul_ediv_left _ _ (by omega), Int.add_mul_emod_self_left, Int.ediv_eq_zero_of_lt hx0 hx1, Int.emod_eq_of_lt hx0 hx1]
      congr 1
      omega
  · rintro ⟨x, h1, h2, rfl⟩
    refine ⟨mk + x / B ^ (n + 1), _, rfl, ?_, ?_, (hit_full hB n _).2 ⟨_, Int.emod_nonneg _ (by omega), Int.emod_lt_of_pos _ hp, rfl⟩⟩
    · have := Int.ediv_le_ediv hp h1; omega
    · have := Int.ediv_le_ediv hp h2; omega
theorem ENum.head {B m mk : Int} (hB : 0 < B) {n : Nat} {a b : Int} (hab : a / B ^ (n + 1) = b / B ^ (n + 1)) (ds : List Int) :
    (∃ tl, ds = (mk + a / B ^ (n + 1)) :: tl ∧ ENum B m m n (a % B ^ (n + 1)) (b % B ^ (n + 1)) tl) ↔ ENum B m mk (n + 1) a b ds := by
  have hp : 0 < B ^ (n + 1) := Int.pow_pos hB
  have ea := Int.mul_ediv_add_emod a (B ^ (n + 1))
  have eb := Int.mul_ediv_add_emod b (B ^ (n + 1))
  have ma := Int.emod_nonneg a (show B ^ (n + 1) ≠ 0 by omega)
  have mb := Int.emod_lt_of_pos b hp
  constructor
  · rintro ⟨tl, rfl, y, h1, h2, rfl⟩
    refine ⟨B ^ (n + 1) * (a / B ^ (n + 1)) + y, by omega, by rw [hab]; omega, ?_⟩
    simp only [encB]
    rw [show B ^ (n + 1) * (a / B ^ (n + 1)) + y = y + B ^ (n + 1) * (a / B ^ (n + 1)) by omega, Int.add_mul_ediv_left _ _ (by omega), Int.add_mul_emod_self_left, Int.ediv_eq_zero_of_lt (a := y) (b := B ^ (n + 1)) (by omega) (by omega), Int.emod_eq_of_lt (a := y) (b := B ^ (n + 1)) (by omega) (by omega), Int.zero_add]
  · rintro ⟨x, h1, h2, rfl⟩
    have e1 := Int.ediv_le_ediv hp h1
    have e2 := Int.ediv_le_ediv hp h2
    have ex := Int.mul_ediv_add_emod x (B ^ (n + 1))
    have hx : x / B ^ (n + 1) = a / B ^ (n + 1) := by omega
    refine ⟨_, by simp only [encB]; rw [hx], x % B ^ (n + 1), ?_, ?_, rfl⟩
    · rw [hx] at ex; omega
    · rw [hx, hab] at ex; omega
/-! ### sets -/
def ECode (code : Int → List Int) (S : Int → Prop) (ds : List Int) : Prop := ∃ p, S p ∧ ds = code p
theorem ECode.or {code : Int → List Int} {S T : Int → Prop} (ds : List Int) : (ECode code S ds ∨ ECode code T ds) ↔ ECode code (fun p => S p ∨ T p) ds := by
  constructor
  · rintro (⟨p, h, e⟩ | ⟨p, h, e⟩)
    · exact ⟨p, .inl h, e⟩
    · exact ⟨p, .inr h, e⟩
  · rintro ⟨p, h | h, e⟩
    · exact .inl ⟨p, h, e⟩
    · exact .inr ⟨p, h, e⟩
/-! ### one behind the other -/
theorem hit_append {x y : List (Int × Int)} {ds : List Int} : hitR (x ++ y) ds = (hitR x (ds.take x.length) && hitR y (ds.drop x.length)) := by
  induction x generalizing ds with
  | nil => simp [hitR]
  | cons r x ih =>
    cases ds with
    | nil => simp [hitR]
    | cons d tl => simp [hitR, ih, Bool.and_assoc]
theorem cntR_pre (x : List (Int × Int)) (ms : List (List (Int × Int))) (ds : List Int) : cntR (ms.map fun y => x ++ y) ds = if hitR x (ds.take x.length) = true then cntR ms (ds.drop x.length) else 0 := by
  induction ms with
  | nil => simp [cntR]
  | cons y ms ih =>
    rw [List.map_cons, show (x ++ y) :: ms.map (fun y => x ++ y) = [x ++ y] ++ ms.map (fun y => x ++ y) from rfl, cntR_append, ih, show y :: ms = [y] ++ ms from rfl, cntR_append]
    by_cases h : hitR x (ds.take x.length) = true
    · rw [if_pos h, if_pos h]
      congr 1
      cases hh : hitR y (ds.drop x.length) <;> simp [cntR, List.filter, hit_append, h, hh]
    · rw [if_neg h, if_neg h]
      have hf : hitR x (ds.take x.length) = false := by simpa using h
      simp [cntR, List.filter, hit_append, hf]
theorem cntR_prod (k : Nat) (ls ms : List (List (Int × Int))) (hl : ∀ r ∈ ls, r.length = k) (ds : List Int) : cntR (ls.flatMap fun x => ms.map fun y => x ++ y) ds = cntR ls (ds.take k) * cntR ms (ds.drop k) := by
  induction ls with
  | nil => simp [cntR]
  | cons x ls ih =>
    have hx := hl x (by simp)
    rw [List.flatMap_cons, cntR_append, ih fun r hr => hl r (by simp [hr]), cntR_pre, hx, show x :: ls = [x] ++ ls from rfl, cntR_append, Nat.add_mul]
    congr 1
    by_cases h : hitR x (ds.take k) = true
    · rw [if_pos h]; simp [cntR, List.filter, h]
    · have hf : hitR x (ds.take k) = false := by simpa using h
      rw [if_neg h]; simp [cntR, List.filter, hf]
theorem Cov.prod {ls ms : List (List (Int × Int))} {S T : List Int → Prop} {k : Nat} (h : Cov ls S) (g : Cov ms T) (hl : ∀ r ∈ ls, r.length = k) : Cov (ls.flatMap fun x => ms.map fun y => x ++ y) (fun ds => S (ds.take k) ∧ T (ds.drop k)) := fun ds => by
  rw [cntR_prod k ls ms hl]
  refine ⟨fun ⟨s, t⟩ => by rw [(h _).1 s, (g _).1 t], fun hn => ?_⟩
  by_cases s : S (ds.take k)
  · rw [(g _).2 fun t => hn ⟨s, t⟩, Nat.mul_zero]
  · rw [(h _).2 s, Nat.zero_mul]
/-- in each two the bytes are turned -/
def turnL {α : Type} : List α → List α
  | a :: b :: l => b :: a :: turnL l
  | l => l
theorem turnL_turnL {α : Type} : ∀ l : List α, turnL (turnL l) = l
  | [] => rfl
  | [_] => rfl
  | a :: b :: l => by simp [turnL, turnL_turnL l]
theorem hit_turn : ∀ (r : List (Int × Int)) (ds : List Int), hitR (turnL r) ds = hitR r (turnL ds)
  | [], [] => rfl
  | [], [_] => rfl
  | [], a :: b :: l => rfl
  | [_], [] => rfl
  | [_], [_] => rfl
  | [x], a :: b :: l => by simp [turnL, hitR]
  | x :: y :: r, [] => by simp [turnL, hitR]
  | x :: y :: r, [_] => by simp [turnL, hitR]
  | x :: y :: r, a :: b :: l => by
    simp only [turnL, hitR, hit_turn r l]
    cases decide (y.1 ≤ a) <;> cases decide (a ≤ y.2) <;> cases decide (x.1 ≤ b) <;> cases decide (b ≤ x.2) <;> simp
theorem Cov.turn {ls : List (List (Int × Int))} {S : List Int → Prop} (h : Cov ls S) : Cov (ls.map turnL) (fun ds => S (turnL ds)) := fun ds => by
  have : cntR (ls.map turnL) ds = cntR ls (turnL ds) := by
    unfold cntR
    rw [List.filter_map, List.length_map]
    congr 2
    funext r
    exact hit_turn r ds
  rw [this]
  exact h (turnL ds)
/-! ### encodings -/
def code8 (p : Int) : List Int := if p < 128 then encB 64 128 0 0 p else if p < 2048 then encB 64 128 192 1 p else if p < 65536 then encB 64 128 224 2 p else encB 64 128 240 3 p
def pair16 (u : Int) : List Int := encB 256 0 0 1 u
def code16 (p : Int) : List Int := if p < 65536 then pair16 p else pair16 (55296 + (p - 65536) / 1024) ++ pair16 (56320 + (p - 65536) % 1024)
/-- the bytes of a point, by its encoding -/
def codeE (enc p : Int) : List Int := if enc = 1 then code8 p else if enc = 4 then [p] else if enc = 2 then turnL (code16 p) else code16 p
def ScalE (enc p : Int) : Prop := if enc = 4 then 0 ≤ p ∧ p ≤ 255 else 0 ≤ p ∧ p ≤ 1114111 ∧ (p < 55296 ∨ 57343 < p)
theorem encB_len (B m : Int) : ∀ (n : Nat) (mk x : Int), (encB B m mk n x).length = n + 1
  | 0, _, _ => rfl
  | n + 1, mk, x => by simp [encB, encB_len B m n]
theorem pair16_len (u : Int) : (pair16 u).length = 2 := encB_len _ _ _ _ _
theorem turnL_len {α : Type} : ∀ l : List α, (turnL l).length = l.length
  | [] => rfl
  | [_] => rfl
  | a :: b :: l => by simp [turnL, turnL_len l]
theorem turnL_inj {α : Type} {a b : List α} (h : turnL a = turnL b) : a = b := by rw [← turnL_turnL a, h, turnL_turnL]
theorem code8_inj {p q : Int} (h : code8 p = code8 q) : p = q := by
  have hl := congrArg List.length h
  unfold code8 at h hl
  split at h <;> split at h <;> (try split at h) <;> (try split at h) <;> (try split at h) <;> (try split at h) <;>
    first
      | exact encB_inj (by decide) _ _ _ _ h
      | (exfalso; have := congrArg List.length h; simp [encB_len] at this)
theorem pair16_inj {u v : Int} (h : pair16 u = pair16 v) : u = v := encB_inj (by decide) _ _ _ _ h
theorem code16_inj {p q : Int} (h : code16 p = code16 q) : p = q := by
  unfold code16 at h
  split at h <;> split at h
  · exact pair16_inj h
  · exfalso; have := congrArg List.length h; simp [pair16_len] at this
  · exfalso; have := congrArg List.length h; simp [pair16_len] at this
  · have := List.append_inj h (by rw [pair16_len, pair16_len])
    have h1 := pair16_inj this.1
    have h2 := pair16_inj this.2
    omega
theorem codeE_inj {enc p q : Int} (h : codeE enc p = codeE enc q) : p = q := by
  unfold codeE at h
  split at h
  · exact code8_inj h
  · split at h
    · simpa using h
    · split at h
      · exact code16_inj (turnL_inj h)
      · exact code16_inj h
theorem ECode.iff {enc p : Int} {S : Int → Prop} : ECode (codeE enc) S (codeE enc p) ↔ S p := by
  constructor
  · rintro ⟨q, h, e⟩
    rw [codeE_inj e]; exact h
  · intro h; exact ⟨p, h, rfl⟩
/-- of the parts of UTF-8: numbers within one are rows of one form -/
theorem ENum.code {code : Int → List Int} {B m mk : Int} {n : Nat} {a b : Int} (h : ∀ x, a ≤ x → x ≤ b → code x = encB B m mk n x) (ds : List Int) : ENum B m mk n a b ds ↔ ECode code (fun p => a ≤ p ∧ p ≤ b) ds := by
  constructor
  · rintro ⟨x, h1, h2, e⟩; exact ⟨x, ⟨h1, h2⟩, by rw [h x h1 h2]; exact e⟩
  · rintro ⟨x, ⟨h1, h2⟩, e⟩; exact ⟨x, h1, h2, by rw [← h x h1 h2]; exact e⟩
theorem code8_1 {a b : Int} (hb : b ≤ 127) : ∀ x, a ≤ x → x ≤ b → code8 x = encB 64 128 0 0 x := fun x h1 h2 => by unfold code8; rw [if_pos (by omega)]
theorem code8_2 {a b : Int} (ha : 128 ≤ a) (hb : b ≤ 2047) : ∀ x, a ≤ x → x ≤ b → code8 x = encB 64 128 192 1 x := fun x h1 h2 => by unfold code8; rw [if_neg (by omega), if_pos (by omega)]
theorem code8_3 {a b : Int} (ha : 2048 ≤ a) (hb : b ≤ 65535) : ∀ x, a ≤ x → x ≤ b → code8 x = encB 64 128 224 2 x := fun x h1 h2 => by unfold code8; rw [if_neg (by omega), if_neg (by omega), if_pos (by omega)]
theorem code8_4 {a b : Int} (ha : 65536 ≤ a) : ∀ x, a ≤ x → x ≤ b → code8 x = encB 64 128 240 3 x := fun x h1 h2 => by unfold code8; rw [if_neg (by omega), if_neg (by omega), if_neg (by omega)]
/-! ### how many rows -/
def prodR : List (Int × Int) → Int
  | [] => 1
  | x :: r => (x.2 - x.1 + 1) * prodR r
def sizeR : List (List (Int × Int)) → Int
  | [] => 0
  | r :: ls => prodR r + sizeR ls
theorem sizeR_append (a b : List (List (Int × Int))) : sizeR (a ++ b) = sizeR a + sizeR b := by
  induction a with
  | nil => simp [sizeR]
  | cons r a ih => simp [sizeR, ih, Int.add_assoc]
theorem sizeR_pre (t : Int) (ls : List (List (Int × Int))) : sizeR (ls.map fun r => (t, t) :: r) = sizeR ls := by
  induction ls with
  | nil => rfl
  | cons r ls ih => simp only [List.map_cons, sizeR, ih, prodR]; rw [show t - t + 1 = (1 : Int) by omega, Int.one_mul]
theorem prodR_full (B m : Int) : ∀ n : Nat, prodR (List.replicate n (m, m + B - 1)) = B ^ n
  | 0 => by simp [prodR]
  | n + 1 => by
    rw [List.replicate_succ, prodR, prodR_full B m n, Int.pow_succ, Int.mul_comm]
    congr 1
    simp only; omega
theorem prodR_append (a b : List (Int × Int)) : prodR (a ++ b) = prodR a * prodR b := by
  induction a with
  | nil => simp [prodR]
  | cons x a ih => simp [prodR, ih, Int.mul_assoc]
theorem prodR_turn : ∀ r : List (Int × Int), prodR (turnL r) = prodR r
  | [] => rfl
  | [_] => rfl
  | a :: b :: r => by simp only [turnL, prodR, prodR_turn r]; rw [← Int.mul_assoc, ← Int.mul_assoc, Int.mul_comm (b.2 - b.1 + 1)]
theorem sizeR_turn (ls : List (List (Int × Int))) : sizeR (ls.map turnL) = sizeR ls := by
  induction ls with
  | nil => rfl
  | cons r ls ih => simp [sizeR, ih, prodR_turn]
theorem sizeR_preL (x : List (Int × Int)) (ms : List (List (Int × Int))) : sizeR (ms.map fun y => x ++ y) = prodR x * sizeR ms := by
  induction ms with
  | nil => simp [sizeR]
  | cons y ms ih => simp only [List.map_cons, sizeR, ih, prodR_append, Int.mul_add]
theorem sizeR_prod (ls ms : List (List (Int × Int))) : sizeR (ls.flatMap fun x => ms.map fun y => x ++ y) = sizeR ls * sizeR ms := by
  induction ls with
  | nil => simp [sizeR]
  | cons x ls ih => rw [List.flatMap_cons, sizeR_append, sizeR_preL, ih, sizeR, Int.add_mul]
theorem prodR_pos : ∀ {r : List (Int × Int)}, (∀ x ∈ r, x.1 ≤ x.2) → 1 ≤ prodR r
  | [], _ => by simp [prodR]
  | x :: r, h => by
    have h1 := h x (by simp)
    have h2 : 1 ≤ prodR r := prodR_pos fun y (hy : y ∈ r) => h y (List.mem_cons_of_mem _ hy)
    have h3 : (1 : Int) ≤ x.2 - x.1 + 1 := by omega
    have := Int.mul_le_mul h3 h2 (by decide) (by omega)
    rw [prodR]; omega
theorem Shape.len_le {n : Nat} {ls : List (List (Int × Int))} (h : Shape n ls) : (ls.length : Int) ≤ sizeR ls := by
  induction ls with
  | nil => simp [sizeR]
  | cons r ls ih =>
    have h1 := ih fun r' hr => h r' (by simp [hr])
    have h2 := prodR_pos fun x hx => ((h r (by simp)).2 x hx).2.1
    rw [List.length_cons, sizeR]; omega
/-- roads: what goes along them, their form, how many rows there are -/
structure RC (ls : List (List (Int × Int))) (S : List Int → Prop) (n : Nat) (m : Int) : Prop where
  cov : Cov ls S
  shape : Shape n ls
  size : sizeR ls = m
theorem RC.len {ls : List (List (Int × Int))} {S : List Int → Prop} {n : Nat} {m : Int} (h : RC ls S n m) : (ls.length : Int) ≤ m := by rw [← h.size]; exact h.shape.len_le
theorem RC.nil (B mk : Int) {m : Int} {n : Nat} {a b : Int} (k : Nat) (h : b < a) : RC [] (ENum B m mk n a b) k 0 :=
  ⟨Cov.nil.congr fun ds => ⟨fun h => h.elim, fun ⟨x, h1, h2, _⟩ => by omega⟩, (fun r hr => by cases hr), rfl⟩
theorem RC.more {B m mk : Int} (hB : 0 < B) {n k : Nat} {a b c : Int} {ls ms : List (List (Int × Int))} (h : RC ls (ENum B m mk n a (b - 1)) k (b - a)) (g : RC ms (ENum B m mk n b c) k (c - b + 1)) (h1 : a ≤ b) (h2 : b ≤ c + 1) :
    RC (ls ++ ms) (ENum B m mk n a c) k (c + 1 - a) :=
  ⟨(h.cov.append g.cov fun ds => ENum.apart hB (by omega) ds).congr (ENum.split h1 h2), h.shape.append g.shape, by rw [sizeR_append, h.size, g.size]; omega⟩
theorem RC.one (B m mk : Int) {a b : Int} (h0 : 0 ≤ mk + a) (h1 : a ≤ b) (h2 : mk + b ≤ 255) : RC [[(mk + a, mk + b)]] (ENum B m mk 0 a b) 1 (b - a + 1) :=
  ⟨cov_one B m mk a b, (fun r hr => by rw [List.mem_singleton.1 hr]; exact ⟨rfl, fun x hx => by rw [List.mem_singleton.1 hx]; exact ⟨h0, by simp only; omega, h2⟩⟩), by simp [sizeR, prodR]; omega⟩
theorem RC.whole {B m mk : Int} (hB : 0 < B) (hm : 0 ≤ m) (hm2 : m + B ≤ 256) {n : Nat} {a b : Int} (hab : a ≤ b) (ha : a % B ^ (n + 1) = 0) (hb : b % B ^ (n + 1) = B ^ (n + 1) - 1) (h0 : 0 ≤ mk + a / B ^ (n + 1)) (h2 : mk + b / B ^ (n + 1) ≤ 255) :
    RC [(mk + a / B ^ (n + 1), mk + b / B ^ (n + 1)) :: List.replicate (n + 1) (m, m + B - 1)] (ENum B m mk (n + 1) a b) (n + 2) (b - a + 1) := by
  have hp : 0 < B ^ (n + 1) := Int.pow_pos hB
  have ea := Int.mul_ediv_add_emod a (B ^ (n + 1))
  have eb := Int.mul_ediv_add_emod b (B ^ (n + 1))
  have hd := Int.ediv_le_ediv hp hab
  refine ⟨cov_whole hB ha hb, fun r hr => ?_, ?_⟩
  · rw [List.mem_singleton.1 hr]
    refine ⟨by simp, fun x hx => ?_⟩
    rcases List.mem_cons.1 hx with e | e
    · subst e; exact ⟨h0, by simp only; omega, h2⟩
    · rw [List.eq_of_mem_replicate e]; exact ⟨hm, by simp only; omega, by simp only; omega⟩
  · rw [sizeR, sizeR, prodR, prodR_full]
    simp only
    rw [show mk + b / B ^ (n + 1) - (mk + a / B ^ (n + 1)) + 1 = b / B ^ (n + 1) - a / B ^ (n + 1) + 1 by omega, Int.add_mul, Int.sub_mul, Int.one_mul, Int.mul_comm (b / _), Int.mul_comm (a / _)]
    omega
theorem RC.part {B m mk : Int} (hB : 0 < B) {n : Nat} {a b : Int} (hab : a / B ^ (n + 1) = b / B ^ (n + 1)) (h0 : 0 ≤ mk + a / B ^ (n + 1)) (h2 : mk + a / B ^ (n + 1) ≤ 255) {ms : List (List (Int × Int))}
    (h : RC ms (ENum B m m n (a % B ^ (n + 1)) (b % B ^ (n + 1))) (n + 1) (b % B ^ (n + 1) - a % B ^ (n + 1) + 1)) : RC (ms.map fun r => (mk + a / B ^ (n + 1), mk + a / B ^ (n + 1)) :: r) (ENum B m mk (n + 1) a b) (n + 2) (b - a + 1) := by
  have ea := Int.mul_ediv_add_emod a (B ^ (n + 1))
  have eb := Int.mul_ediv_add_emod b (B ^ (n + 1))
  refine ⟨(h.cov.pre _).congr (ENum.head hB hab), h.shape.pre h0 h2, ?_⟩
  rw [sizeR_pre, h.size]
  rw [hab] at ea
  omega
/-- roads of points: their rows, of one up to four bytes, and how many -/
structure RS (ls : List (List (Int × Int))) (code : Int → List Int) (P : Int → Prop) (m : Int) : Prop where
  cov : Cov ls (ECode code P)
  shape : ∀ r ∈ ls, (1 ≤ r.length ∧ r.length ≤ 4) ∧ ∀ x ∈ r, 0 ≤ x.1 ∧ x.1 ≤ x.2 ∧ x.2 ≤ 255
  size : sizeR ls = m
theorem RS.nil (code : Int → List Int) : RS [] code (fun _ => False) 0 := ⟨Cov.nil.congr fun ds => ⟨fun h => h.elim, fun ⟨x, h, _⟩ => h⟩, (fun r hr => by cases hr), rfl⟩
theorem len_le_size {ls : List (List (Int × Int))} (h : ∀ r ∈ ls, ∀ x ∈ r, x.1 ≤ x.2) : (ls.length : Int) ≤ sizeR ls := by
  induction ls with
  | nil => simp [sizeR]
  | cons r ls ih =>
    have h1 := ih (fun r' hr => h r' (by simp [hr]))
    have h2 := prodR_pos (h r (by simp))
    rw [List.length_cons, sizeR]; omega
theorem RS.len {ls : List (List (Int × Int))} {code : Int → List Int} {P : Int → Prop} {m : Int} (h : RS ls code P m) : (ls.length : Int) ≤ m := by
  rw [← h.size]
  exact len_le_size fun r hr x hx => ((h.shape r hr).2 x hx).2.1
theorem RS.congr {ls : List (List (Int × Int))} {code : Int → List Int} {P Q : Int → Prop} {m n : Int} (h : RS ls code P m) (e : ∀ p, P p ↔ Q p) (hm : m = n) : RS ls code Q n :=
  ⟨h.cov.congr fun ds => ⟨fun ⟨x, hx, e2⟩ => ⟨x, (e x).1 hx, e2⟩, fun ⟨x, hx, e2⟩ => ⟨x, (e x).2 hx, e2⟩⟩, h.shape, hm ▸ h.size⟩
theorem RS.union {ls ms : List (List (Int × Int))} {code : Int → List Int} {P Q : Int → Prop} {m n : Int} (hi : ∀ p q, code p = code q → p = q) (h : RS ls code P m) (g : RS ms code Q n) (hd : ∀ p, P p → Q p → False) : RS (ls ++ ms) code (fun p => P p ∨ Q p) (m + n) :=
  ⟨(h.cov.append g.cov fun ds ⟨x, hx, e1⟩ ⟨y, hy, e2⟩ => by have := hi x y (e1 ▸ e2); subst this; exact hd x hx hy).congr ECode.or,
   fun r hr => (List.mem_append.1 hr).elim (h.shape r) (g.shape r), by rw [sizeR_append, h.size, g.size]⟩
theorem RC.rs {ls : List (List (Int × Int))} {code : Int → List Int} {S : List Int → Prop} {P : Int → Prop} {n : Nat} {m : Int} (h : RC ls S n m) (e : ∀ ds, S ds ↔ ECode code P ds) (h1 : 1 ≤ n) (h4 : n ≤ 4) : RS ls code P m :=
  ⟨h.cov.congr e, fun r hr => ⟨by have := (h.shape r hr).1; omega, (h.shape r hr).2⟩, h.size⟩
theorem Shape.turn {n : Nat} {ls : List (List (Int × Int))} (h : Shape n ls) : Shape n (ls.map turnL) := fun r hr => by
  obtain ⟨r', hr', rfl⟩ := List.mem_map.1 hr
  obtain ⟨e, hx⟩ := h r' hr'
  refine ⟨by rw [turnL_len, e], ?_⟩
  have : ∀ l : List (Int × Int), (∀ x ∈ l, 0 ≤ x.1 ∧ x.1 ≤ x.2 ∧ x.2 ≤ 255) → ∀ x ∈ turnL l, 0 ≤ x.1 ∧ x.1 ≤ x.2 ∧ x.2 ≤ 255 := by
    intro l
    induction l using turnL.induct with
    | case1 a b l ih => intro h x hx; simp only [turnL, List.mem_cons] at hx; rcases hx with e | e | e; exact h x (by simp [e]); exact h x (by simp [e]); exact ih (fun y hy => h y (by simp [hy])) x e
    | case2 l hl => intro h x hx; rw [turnL] at hx; exact h x hx; exact hl
  exact this r' hx
theorem Shape.prod {n k : Nat} {ls ms : List (List (Int × Int))} (h : Shape n ls) (g : Shape k ms) : Shape (n + k) (ls.flatMap fun x => ms.map fun y => x ++ y) := fun r hr => by
  obtain ⟨x, hx, hr⟩ := List.mem_flatMap.1 hr
  obtain ⟨y, hy, rfl⟩ := List.mem_map.1 hr
  obtain ⟨a1, a2⟩ := h x hx
  obtain ⟨b1, b2⟩ := g y hy
  exact ⟨by rw [List.length_append, a1, b1], fun z hz => (List.mem_append.1 hz).elim (a2 z) (b2 z)⟩
end Go.Proofs.YtpdcbddofekbcaaGreat
namespace Go.Proofs.YtpdcbddofekbcaaGreat
set_option linter.unusedVariables false
set_option linter.unusedSimpArgs false
def keyR (r : List (Int × Int)) : List Int := r.map Prod.fst
def cmpL : List Int → List Int → Int
  | [], [] => 0
  | [], _ :: _ => -1
  | _ :: _, [] => 1
  | x :: a, y :: b => if x - y ≠ 0 then x - y else cmpL a b
def lexB : List Int → List Int → Bool
  | [], [] => false
  | [], _ :: _ => true
  | _ :: _, [] => false
  | x :: a, y :: b => if x ≠ y then decide (x < y) else lexB a b
theorem cmpL_lex : ∀ a b : List Int, decide (cmpL a b < 0) = lexB a b
  | [], [] => rfl
  | [], _ :: _ => rfl
  | _ :: _, [] => rfl
  | x :: a, y :: b => by
    unfold cmpL lexB
    by_cases h : x = y
    · subst h; simp [cmpL_lex a b]
    · rw [if_pos (by omega), if_pos h]
      by_cases h2 : x < y
      · rw [decide_eq_true h2, decide_eq_true (by omega)]
      · rw [decide_eq_false h2, decide_eq_false (by omega)]
theorem lexB_irrefl : ∀ a : List Int, lexB a a = false
  | [] => rfl
  | x :: a => by unfold lexB; simp [lexB_irrefl a]
theorem lexB_trans : ∀ a b c : List Int, lexB a b = true → lexB b c = true → lexB a c = true
  | [], [], _, h, _ => by simp [lexB] at h
  | [], _ :: _, [], _, h => by simp [lexB] at h
  | [], _ :: _, _ :: _, _, _ => rfl
  | _ :: _, [], _, h, _ => by simp [lexB] at h
  | _ :: _, _ :: _, [], _, h => by simp [lexB] at h
  | x :: a, y :: b, z :: c, h, k => by
    unfold lexB at h k ⊢
    by_cases h1 : x = y
    · subst h1
      by_cases h2 : x = z
      · subst h2
        simp only [ne_eq, not_true_eq_false, if_false] at h k ⊢
        exact lexB_trans a b c h k
      · rw [if_pos h2] at k ⊢; exact k
    · rw [if_pos h1] at h
      have h := of_decide_eq_true h
      by_cases h2 : y = z
      · subst h2; rw [if_pos h1]; exact decide_eq_true h
      · rw [if_pos h2] at k
        have k := of_decide_eq_true k
        rw [if_pos (by omega)]; exact decide_eq_true (by omega)
theorem lexB_total : ∀ a b : List Int, lexB a b = false → lexB b a = false → a = b
  | [], [], _, _ => rfl
  | [], _ :: _, h, _ => by simp [lexB] at h
  | _ :: _, [], _, h => by simp [lexB] at h
  | x :: a, y :: b, h, k => by
    unfold lexB at h k
    by_cases h1 : x = y
    · subst h1
      simp only [ne_eq, not_true_eq_false, if_false] at h k
      rw [lexB_total a b h k]
    · rw [if_pos h1] at h
      rw [if_pos (fun e => h1 e.symm)] at k
      have h := of_decide_eq_false h
      have k := of_decide_eq_false k
      omega
theorem lexB_ntrans (a b c : List Int) (h : lexB a b = false) (k : lexB b c = false) : lexB a c = false := by
  cases hh : lexB a c
  · rfl
  · cases h2 : lexB b a
    · rw [lexB_total a b h h2, k] at hh; exact hh.symm
    · have := lexB_trans b a c h2 hh
      rw [this] at k; cases k
theorem hit_key : ∀ r : List (Int × Int), (∀ x ∈ r, x.1 ≤ x.2) → hitR r (keyR r) = true
  | [], _ => rfl
  | x :: r, h => by
    have h1 := h x (by simp)
    simp only [keyR, List.map_cons, hitR]
    have := hit_key r fun y hy => h y (by simp [hy])
    simp only [keyR] at this
    simp [this, h1]
/-- two roads with one key: a row of bytes goes along both -/
theorem cntR_two {ls : List (List (Int × Int))} {i j : Nat} (hij : i < j) (hj : j < ls.length) {ds : List Int} (h1 : hitR (ls[i]'(by omega)) ds = true) (h2 : hitR ls[j] ds = true) : 2 ≤ cntR ls ds := by
  have e : ls = ls.take j ++ [ls[j]] ++ ls.drop (j + 1) := by rw [← List.take_succ_eq_append_getElem hj, List.take_append_drop]
  rw [e, cntR_append, cntR_append]
  have a : 1 ≤ cntR (ls.take j) ds := by
    unfold cntR
    have : ls[i]'(by omega) ∈ (ls.take j).filter fun r => hitR r ds := by
      rw [List.mem_filter]
      exact ⟨List.mem_take_iff_getElem.2 ⟨i, by omega, rfl⟩, h1⟩
    exact List.length_pos_of_mem this
  have b : 1 ≤ cntR [ls[j]] ds := by simp [cntR, List.filter, h2]
  omega
theorem cov_rises {ls : List (List (Int × Int))} {S : List Int → Prop} {n : Nat} (h : Cov ls S) (hs : ∀ r ∈ ls, ∀ x ∈ r, x.1 ≤ x.2) (ho : ls.Pairwise fun a b => lexB (keyR b) (keyR a) = false) {i : Nat} (hi : i + 1 < ls.length) : lexB (keyR (ls[i]'(by omega))) (keyR ls[i + 1]) = true := by
  cases hh : lexB (keyR (ls[i]'(by omega))) (keyR ls[i + 1])
  · exfalso
    have h2 := List.pairwise_iff_getElem.1 ho i (i + 1) (by omega) hi (Nat.lt_succ_self i)
    have e := lexB_total _ _ hh h2
    have a1 := hit_key ls[i + 1] (hs _ (List.getElem_mem hi))
    have a0 := hit_key (ls[i]'(by omega)) (hs _ (List.getElem_mem (by omega)))
    rw [e] at a0
    have := cntR_two (Nat.lt_succ_self i) hi a0 a1
    by_cases s : S (keyR ls[i + 1])
    · rw [(h _).1 s] at this; omega
    · rw [(h _).2 s] at this; omega
  · rfl
theorem Cov.perm {ls ms : List (List (Int × Int))} {S : List Int → Prop} (h : Cov ls S) (p : ms.Perm ls) : Cov ms S := fun ds => by
  have : cntR ms ds = cntR ls ds := (p.filter _).length_eq
  rw [this]; exact h ds
/-! ### what stands in a text -/
def bAt (bl : List Int) (i : Nat) : Int := bl.getD i (-1)
def standU (enc : Int) (bl : List Int) (i : Nat) : Int := if enc = 2 then bAt bl i + 256 * bAt bl (i + 1) else 256 * bAt bl i + bAt bl (i + 1)
def standP (enc : Int) (bl : List Int) : Int :=
  if enc = 1 then
    if bAt bl 0 < 128 then bAt bl 0
    else if bAt bl 0 < 224 then (bAt bl 0).tmod 32 * 64 + (bAt bl 1).tmod 64
    else if bAt bl 0 < 240 then (bAt bl 0).tmod 16 * 4096 + (bAt bl 1).tmod 64 * 64 + (bAt bl 2).tmod 64
    else (bAt bl 0).tmod 8 * 262144 + (bAt bl 1).tmod 64 * 4096 + (bAt bl 2).tmod 64 * 64 + (bAt bl 3).tmod 64
  else if 0 ≤ bAt bl 1 ∧ 55296 ≤ standU enc bl 0 ∧ standU enc bl 0 ≤ 56319 then 65536 + (standU enc bl 0 - 55296) * 1024 + standU enc bl 2 - 56320
  else standU enc bl 0
theorem tmod_of {x m : Int} (h : 0 ≤ x) : x.tmod m = x % m := Int.tmod_eq_emod_of_nonneg h
theorem standP_code {enc q : Int} (he : 1 ≤ enc ∧ enc ≤ 3) (hq : ScalE enc q) : standP enc (codeE enc q) = q := by
  unfold ScalE at hq
  rw [if_neg (by omega)] at hq
  unfold standP codeE
  by_cases h1 : enc = 1
  · subst h1
    simp only [if_true]
    unfold code8
    by_cases a : q < 128
    · rw [if_pos a]
      simp [encB, bAt, a]
    · rw [if_neg a]
      by_cases b : q < 2048
      · rw [if_pos b]
        simp only [encB, bAt, List.getD_cons_zero, List.getD_cons_succ, show (64 : Int) ^ (0 + 1) = 64 from rfl, show (64 : Int) ^ (1 + 1) = 4096 from rfl, show (64 : Int) ^ (2 + 1) = 262144 from rfl]
        rw [if_neg (by omega), if_pos (by omega), tmod_of (by omega), tmod_of (by omega)]
        omega
      · rw [if_neg b]
        by_cases c : q < 65536
        · rw [if_pos c]
          simp only [encB, bAt, List.getD_cons_zero, List.getD_cons_succ, show (64 : Int) ^ (0 + 1) = 64 from rfl, show (64 : Int) ^ (1 + 1) = 4096 from rfl, show (64 : Int) ^ (2 + 1) = 262144 from rfl]
          rw [if_neg (by omega), if_neg (by omega), if_pos (by omega), tmod_of (by omega), tmod_of (by omega), tmod_of (by omega)]
          omega
        · rw [if_neg c]
          simp only [encB, bAt, List.getD_cons_zero, List.getD_cons_succ, show (64 : Int) ^ (0 + 1) = 64 from rfl, show (64 : Int) ^ (1 + 1) = 4096 from rfl, show (64 : Int) ^ (2 + 1) = 262144 from rfl]
          rw [if_neg (by omega), if_neg (by omega), if_neg (by omega), tmod_of (by omega), tmod_of (by omega), tmod_of (by omega), tmod_of (by omega)]
          omega
  · have hc : ∀ u, pair16 u = [u / 256, u % 256] := fun u => by simp [pair16, encB]
    rw [if_neg h1, if_neg h1, if_neg (show ¬ enc = 4 by omega)]
    unfold code16
    by_cases h2 : enc = 2
    · subst h2
      rw [if_pos rfl]
      by_cases a : q < 65536
      · rw [if_pos a, hc]
        simp only [turnL, bAt, standU, List.getD_cons_zero, List.getD_cons_succ, if_true]
        rw [if_neg (by omega)]
        omega
      · rw [if_neg a, hc, hc]
        simp only [List.cons_append, List.nil_append, turnL, bAt, standU, List.getD_cons_zero, List.getD_cons_succ, if_true]
        rw [if_pos (by omega)]
        omega
    · rw [if_neg h2]
      by_cases a : q < 65536
      · rw [if_pos a, hc]
        simp only [bAt, standU, if_neg h2, List.getD_cons_zero, List.getD_cons_succ]
        rw [if_neg (by omega)]
        omega
      · rw [if_neg a, hc, hc]
        simp only [List.cons_append, List.nil_append, bAt, standU, if_neg h2, List.getD_cons_zero, List.getD_cons_succ]
        rw [if_pos (by omega)]
        omega
/-! ### pairs of units -/
theorem enc16_take (u v : Int) : (pair16 u ++ pair16 v).take 2 = pair16 u ∧ (pair16 u ++ pair16 v).drop 2 = pair16 v := by simp [pair16, encB]
theorem pairs_rs {p last : Int} {xs ys : List (List (Int × Int))} {h0 h1 l0 l1 : Int} (hp : 0 ≤ p) (hpl : p ≤ last)
    (hx : RC xs (ENum 256 0 0 1 (55296 + h0) (55296 + h1)) 2 (h1 - h0 + 1)) (hy : RC ys (ENum 256 0 0 1 (56320 + l0) (56320 + l1)) 2 (l1 - l0 + 1))
    (hl : 0 ≤ l0 ∧ l1 ≤ 1023) (hw : (h0 = p / 1024 ∧ h1 = last / 1024 ∧ l0 = 0 ∧ l1 = 1023 ∧ p % 1024 = 0 ∧ last % 1024 = 1023) ∨ (h0 = p / 1024 ∧ h1 = h0 ∧ p / 1024 = last / 1024 ∧ l0 = p % 1024 ∧ l1 = last % 1024)) :
    RS (xs.flatMap fun x => ys.map fun y => x ++ y) code16 (fun c => 65536 + p ≤ c ∧ c ≤ 65536 + last) (last - p + 1) := by
  refine ⟨(hx.cov.prod hy.cov fun r hr => (hx.shape r hr).1).congr fun ds => ?_, fun r hr => ?_, ?_⟩
  · constructor
    · rintro ⟨⟨u, hu1, hu2, e1⟩, v, hv1, hv2, e2⟩
      refine ⟨65536 + (u - 55296) * 1024 + (v - 56320), ?_, ?_⟩
      · rcases hw with ⟨rfl, rfl, rfl, rfl, a, b⟩ | ⟨rfl, rfl, a, rfl, rfl⟩
        · omega
        · omega
      · unfold code16
        rw [if_neg (by rcases hw with ⟨rfl, rfl, rfl, rfl, a, b⟩ | ⟨rfl, rfl, a, rfl, rfl⟩ <;> omega)]
        rw [show 55296 + (65536 + (u - 55296) * 1024 + (v - 56320) - 65536) / 1024 = u by omega, show 56320 + (65536 + (u - 55296) * 1024 + (v - 56320) - 65536) % 1024 = v by omega]
        rw [← List.take_append_drop 2 ds, e1, e2]
        rfl
    · rintro ⟨c, ⟨h1', h2'⟩, rfl⟩
      unfold code16
      rw [if_neg (by omega)]
      obtain ⟨t1, t2⟩ := enc16_take (55296 + (c - 65536) / 1024) (56320 + (c - 65536) % 1024)
      rw [t1, t2]
      refine ⟨⟨_, ?_, ?_, rfl⟩, _, ?_, ?_, rfl⟩
      all_goals (rcases hw with ⟨rfl, rfl, rfl, rfl, a, b⟩ | ⟨rfl, rfl, a, rfl, rfl⟩ <;> omega)
  · obtain ⟨e, h⟩ := (hx.shape.prod hy.shape) r hr
    exact ⟨by omega, h⟩
  · rw [sizeR_prod, hx.size, hy.size]
    rcases hw with ⟨rfl, rfl, rfl, rfl, a, b⟩ | ⟨rfl, rfl, a, rfl, rfl⟩
    · omega
    · rw [show p / 1024 - p / 1024 + 1 = (1 : Int) by omega, Int.one_mul]; omega
theorem bmp_rs {a b : Int} (hb : b ≤ 65535) {ls : List (List (Int × Int))} (h : RC ls (ENum 256 0 0 1 a b) 2 (b - a + 1)) : RS ls code16 (fun c => a ≤ c ∧ c ≤ b) (b - a + 1) :=
  h.rs (ENum.code fun x h1 h2 => by unfold code16; rw [if_pos (by omega)]; rfl) (by decide) (by decide)
theorem RS.turn {ls : List (List (Int × Int))} {P : Int → Prop} {m : Int} (h : RS ls code16 P m) : RS (ls.map turnL) (fun p => turnL (code16 p)) P m :=
  ⟨h.cov.turn.congr fun ds => ⟨fun ⟨p, hp, e⟩ => ⟨p, hp, by rw [← turnL_turnL ds, e]⟩, fun ⟨p, hp, e⟩ => ⟨p, hp, by rw [e, turnL_turnL]⟩⟩, fun r hr => by
    obtain ⟨r', hr', rfl⟩ := List.mem_map.1 hr
    obtain ⟨e, hx⟩ := h.shape r' hr'
    obtain ⟨e2, h2⟩ := (Shape.turn (n := r'.length) (ls := [r']) fun q hq => by rw [List.mem_singleton.1 hq]; exact ⟨rfl, hx⟩) (turnL r') (by simp)
    exact ⟨by omega, h2⟩, by rw [sizeR_turn]; exact h.size⟩
end Go.Proofs.YtpdcbddofekbcaaGreat
