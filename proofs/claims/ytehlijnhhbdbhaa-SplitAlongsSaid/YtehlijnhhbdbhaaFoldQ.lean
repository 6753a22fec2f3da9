/- Ranges of the reference: walked. -/
import Derived.Test.YtehlijnhhbdbhaaFoldP
namespace Go.Proofs.Ytehlijnhhbdbhaa
open Go.RowKit
set_option linter.unusedVariables false
/-! plain: points taken in one by one -/
def RgSt (f : Int → Bool) (k : Int) (out : List (Int × Int)) : Prop := Can out ∧ ∀ q, mem out q ↔ (0 ≤ q ∧ q < k ∧ f q = true)
theorem RgSt.start (f : Int → Bool) : RgSt f 0 [] := ⟨Can.nil, fun q => ⟨fun h => absurd h (mem_nil q), fun h => by omega⟩⟩
theorem RgSt.last {f : Int → Bool} {k : Int} {o : List (Int × Int)} {s : Int × Int} (h : RgSt f k (o ++ [s])) : s.2 < k := by
  have hs := (okR_iff _).1 (h.1.1 s (by simp))
  exact ((h.2 s.2).1 ⟨s, by simp, hs.2.1, Int.le_refl _⟩).2.1
theorem RgSt.skip {f : Int → Bool} {k : Int} {out : List (Int × Int)} (h : RgSt f k out) (hf : f k = false) : RgSt f (k + 1) out :=
  ⟨h.1, fun q => (h.2 q).trans ⟨fun ⟨a, b, c⟩ => ⟨a, by omega, c⟩, fun ⟨a, b, c⟩ => by
    rcases Int.lt_or_le q k with e | e
    · exact ⟨a, e, c⟩
    · have : q = k := by omega
      subst this; rw [hf] at c; cases c⟩⟩
theorem RgSt.take {f : Int → Bool} {k : Int} {out : List (Int × Int)} (h : RgSt f k out) (hf : f k = true) (h0 : 0 ≤ k) (h1 : k ≤ 1114111) : RgSt f (k + 1) (rawStep out (k, k)) := by
  have hr := rawStep_set (out := out) (l := out) (r := (k, k)) ⟨h.1, fun p => Iff.rfl⟩ ((okR_iff _).2 ⟨h0, Int.le_refl _, h1⟩) (fun s hs => by
    have hs' := (okR_iff _).1 (h.1.1 s hs)
    have := ((h.2 s.1).1 ⟨s, hs, Int.le_refl _, hs'.2.1⟩).2.1
    simp only; omega)
  refine ⟨hr.1.1, fun q => ?_⟩
  rw [hr.1.2 q, mem_append, h.2 q, mem_cons]
  have hn := mem_nil q
  constructor
  · rintro (⟨a, b, c⟩ | ⟨a, b⟩ | e)
    · exact ⟨a, by omega, c⟩
    · have : q = k := by omega
      subst this; exact ⟨h0, by omega, hf⟩
    · exact absurd e hn
  · rintro ⟨a, b, c⟩
    rcases Int.lt_or_le q k with e | e
    · exact .inl ⟨a, e, c⟩
    · exact .inr (.inl (by omega))
theorem RgSt.join {f : Int → Bool} {k a b : Int} {o : List (Int × Int)} (h : RgSt f k (o ++ [(a, b)])) (hf : f k = true) (h0 : 0 ≤ k) (h1 : k ≤ 1114111) (hb : b = k - 1) : RgSt f (k + 1) (o ++ [(a, k)]) := by
  have := h.take hf h0 h1
  rwa [rawStep_snoc, if_pos (by simp only; omega), show max b k = k by omega] at this
theorem RgSt.apart {f : Int → Bool} {k a b : Int} {o : List (Int × Int)} (h : RgSt f k (o ++ [(a, b)])) (hf : f k = true) (h0 : 0 ≤ k) (h1 : k ≤ 1114111) (hb : b ≠ k - 1) : RgSt f (k + 1) (o ++ [(a, b)] ++ [(k, k)]) := by
  have hl := h.last
  have := h.take hf h0 h1
  rwa [rawStep_snoc, if_neg (by simp only at hl ⊢; omega)] at this
/-- all points, if behind 13000 it goes on as there -/
def Tail (f : Int → Bool) : Prop := (∀ q, 13000 < q → q ≤ 1114111 → f q = f 13000) ∧ ∀ q, f q = true → 0 ≤ q ∧ q ≤ 1114111
theorem RgSt.end_on {f : Int → Bool} (ht : Tail f) {a b : Int} {o : List (Int × Int)} (h : RgSt f 13001 (o ++ [(a, b)])) (hb : b = 13000) : IsSet (o ++ [(a, 1114111)]) (fun q => f q = true) := by
  subst hb
  obtain ⟨hc, hok, hg⟩ := h.1.init
  have hok' := (okR_iff _).1 hok
  have hf : f 13000 = true := ((h.2 13000).1 ⟨(a, 13000), by simp, hok'.2.1, Int.le_refl _⟩).2.2
  refine ⟨hc.snoc ((okR_iff _).2 ⟨hok'.1, by simp only at hok' ⊢; omega, Int.le_refl _⟩) hg, fun q => ?_⟩
  have hq := h.2 q
  rw [mem_append, mem_cons] at hq ⊢
  have hn := mem_nil q
  simp only at hok' hq ⊢
  rcases Int.lt_or_le 13000 q with e | e
  · constructor
    · rintro (k | k | k)
      · have := hq.1 (.inl k); omega
      · rw [ht.1 q e k.2]; exact hf
      · exact absurd k hn
    · intro k; exact .inr (.inl ⟨by omega, (ht.2 q k).2⟩)
  · constructor
    · rintro (k | k | k)
      · exact (hq.1 (.inl k)).2.2
      · exact (hq.1 (.inr (.inl ⟨k.1, e⟩))).2.2
      · exact absurd k hn
    · intro k
      rcases hq.2 ⟨(ht.2 q k).1, by omega, k⟩ with k | k | k
      · exact .inl k
      · exact .inr (.inl ⟨k.1, by omega⟩)
      · exact absurd k hn
theorem RgSt.end_off {f : Int → Bool} (ht : Tail f) {out : List (Int × Int)} (h : RgSt f 13001 out) (hl : ∀ o s, out = o ++ [s] → s.2 ≠ 13000) : IsSet out (fun q => f q = true) := by
  have hf : f 13000 = false := by
    rw [Bool.eq_false_iff]
    intro hf
    obtain ⟨r, hr, r1, r2⟩ := (h.2 13000).2 ⟨by decide, by decide, hf⟩
    rcases snoc_cases out with rfl | ⟨o, s, rfl⟩
    · cases hr
    · have hs := hl o s rfl
      have hlast := h.last
      obtain ⟨hc, hok, hg⟩ := h.1.init
      have hok' := (okR_iff _).1 hok
      rcases List.mem_append.1 hr with k | k
      · have := hg r k; omega
      · rw [List.mem_singleton.1 k] at r1 r2; omega
  refine ⟨h.1, fun q => (h.2 q).trans ⟨fun k => k.2.2, fun k => ⟨(ht.2 q k).1, ?_, k⟩⟩⟩
  rcases Int.lt_or_le 13000 q with e | e
  · have k2 := ht.1 q e (ht.2 q k).2
    rw [hf] at k2; simp only at k; rw [k2] at k; cases k
  · omega
set_option maxRecDepth 100000 in
set_option maxHeartbeats 4000000 in
theorem ranges105 (f : Int → Bool) (g : Nat) (cb : Array Value) (w : World) (hT : Tail f)
    (eg : ∀ args w, (callFunc g args).run Try.prog w = .ok (.enter g args) w)
    (hcl : ∀ (p : Int) (w' : World), Below w.heap.size w w' → Calls Try.prog g (#[.int .i64 p] ++ cb) w' fun e w'' => e = .returned (.bool (f p)) ∧ ∃ q, w'' = w'.drewN q) :
    Calls Try.prog 105 #[.func (.func g) #[] cb] w fun e w' => ∃ out, (IsSet out fun p => f p = true) ∧ out.length ≤ 13001 ∧ OwnRngs w out e w' := by
  have HT := Lib.hid hT
  have HCL := Lib.hid hcl
  clear hT hcl
  go_enter Try.func105, Try.ntmps105
  go_wp2_with fail
  go_loopw [3, 4] (fun v i wr => ∃ (k t : Nat) (out : List (Int × Int)), k ≤ 13001 ∧ i = .int .i64 k ∧ t ≤ k ∧ RgSt f k out ∧ wr.ownsRow w.heap.size 44 2 v t (rngs out) ∧ Below w.heap.size w wr) (fun _ i _ => 13001 - (intOf i).toNat)
  case atStart => exact ⟨0, 0, [], Nat.zero_le _, rfl, Nat.le_refl _, RgSt.start f, World.ownsRow_nil _ _ _ _, Below.refl _ _⟩
  case round =>
    obtain ⟨k, t, out, hk, rfl, ht, hst, hout, hB⟩ := hrel
    have HST := Lib.hid hst
    clear hst
    obtain ⟨Ao, co, rfl, hoc, hco⟩ := own_slice hout
    unfold maxLen at hco
    have hsz := hB.size
    by_cases hlt : k ≤ 13000
    · have hk2 : (k : Int) ≤ 13000 := by omega
      cases hfx : f k
      · have HFX := Lib.hid hfx
        clear hfx
        go_wp2_with fail
        refine (HCL.out k wr hB).mono ?_
        rintro e w' ⟨rfl, q, rfl⟩
        rw [HFX.out]
        go_wp2
        go_roundw
        case rel => exact ⟨k + 1, t, out, by omega, by go_num, by omega, by have := HST.out.skip HFX.out; simpa using this, hout, below_drewN hB _⟩
        case measure => simp [intOf]; omega
      · have HFX := Lib.hid hfx
        clear hfx
        have R := Lib.hid (fun q' : Nat => Rds.new (wr.drewN q') 2 1 #[.int .i64 k, .int .i64 k] 44 (rngs [((k : Int), (k : Int))]) rfl rfl)
        go_wp2_with fail
        refine (HCL.out k wr hB).mono ?_
        rintro e w' ⟨rfl, q, rfl⟩
        rw [HFX.out]
        rcases snoc_cases out with rfl | ⟨o, s, rfl⟩
        · obtain rfl : t = 0 := own_rngs_len hout
          have HNX := Lib.hid (HST.out.take HFX.out (by omega) (by omega))
          go_wp2_with (at_builtin; refine app_rngs (.tmp 35) (.tmp 39) (base := w.heap.size) (xs := []) (n := 0) (by exact hout.alloc _) (R.out _) (by omega) (by simp; omega) rfl rfl rfl rfl ?_; intro v3 w3 hown3 hg3 hat3)
          go_roundw
          case rel => exact ⟨k + 1, 1, [((k : Int), (k : Int))], by omega, by go_num, by omega, by have := HNX.out; rw [rawStep_nil] at this; simpa using this, hown3, grown_ownN hB hout hg3 (Nat.le_refl _) hsz⟩
          case measure => simp [intOf]; omega
        · obtain ⟨gl, hAo, hgl, hgl2, htl, htc, hca, hcb, hfz, hst⟩ := own_last hout
          obtain ⟨u, hu⟩ : ∃ u, u = o.length := ⟨_, rfl⟩
          rw [← hu] at hca hcb hfz hst htl
          have HU := Lib.hid hu
          clear hu
          obtain rfl : t = u + 1 := htl
          obtain ⟨sa, sb⟩ := s
          simp only at hca hcb hst
          have HSTO := Lib.hid hst
          clear hst hca
          have HAO := Lib.hid hAo
          subst hAo
          have u1 : (0 : Int) ≤ (u : Int) := by omega
          have u2 : (0 : Int) < (u : Int) + 1 := by omega
          have W1 := Lib.hid (show IntKind.i64.wrap ((u : Int) + 1 - 1) = (u : Int) by rw [IntWalk.i64_in _ (by omega)]; omega)
          have W2 := Lib.hid (show IntKind.i64.wrap ((k : Int) - 1) = (k : Int) - 1 from IntWalk.i64_in _ (by omega))
          by_cases hs : sb = (k : Int) - 1
          · have hb : (sb == (k : Int) - 1) = true := by rw [beq_iff_eq]; exact hs
            have HNX := Lib.hid (HST.out.join HFX.out (by omega) (by omega) hs)
            clear hs
            go_wp2
            go_roundw
            case rel => exact ⟨k + 1, u + 1, o ++ [(sa, (k : Int))], by omega, by go_num, by omega, by simpa using HNX.out, HSTO.out _, (below_drewN hB _).setCell hgl _⟩
            case measure => simp [intOf]; omega
          · have hb : (sb == (k : Int) - 1) = false := by rw [beq_eq_false_iff_ne]; exact hs
            have HNX := Lib.hid (HST.out.apart HFX.out (by omega) (by omega) hs)
            clear hs
            go_wp2_with (at_builtin; refine app_rngs (.tmp 35) (.tmp 39) (base := w.heap.size) (by exact hout.alloc _) (R.out _) (by omega) (by simp; omega) rfl rfl rfl rfl ?_; intro v3 w3 hown3 hg3 hat3)
            go_roundw
            case rel => exact ⟨k + 1, u + 1 + 1, o ++ [(sa, sb)] ++ [((k : Int), (k : Int))], by omega, by go_num, by omega, by simpa using HNX.out, hown3, grown_ownN hB hout hg3 (Nat.le_refl _) hsz⟩
            case measure => simp [intOf]; omega
    · obtain rfl : k = 13001 := by omega
      rcases snoc_cases out with rfl | ⟨o, s, rfl⟩
      · obtain rfl : t = 0 := own_rngs_len hout
        go_wp2
        go_ret
        exact ⟨[], HST.out.end_off HT.out (fun o s e => by cases o <;> cases e), by simp, ownRngs_of rfl hout hB⟩
      · obtain ⟨gl, hAo, hgl, hgl2, htl, htc, hca, hcb, hfz, hst⟩ := own_last hout
        have HLEN := Lib.hid (own_rngs_len hout)
        obtain ⟨u, hu⟩ : ∃ u, u = o.length := ⟨_, rfl⟩
        rw [← hu] at hca hcb hfz hst htl
        have HU := Lib.hid hu
        clear hu
        obtain rfl : t = u + 1 := htl
        obtain ⟨sa, sb⟩ := s
        simp only at hca hcb hst
        have HSTO := Lib.hid hst
        clear hst hca
        have HAO := Lib.hid hAo
        subst hAo
        have u1 : (0 : Int) ≤ (u : Int) := by omega
        have u2 : (0 : Int) < (u : Int) + 1 := by omega
        have W1 := Lib.hid (show IntKind.i64.wrap ((u : Int) + 1 - 1) = (u : Int) by rw [IntWalk.i64_in _ (by omega)]; omega)
        by_cases hs : sb = 13000
        · have HFIN := Lib.hid (HST.out.end_on HT.out hs)
          subst hs
          go_wp2
          go_ret
          exact ⟨o ++ [(sa, 1114111)], HFIN.out, by have := HLEN.out; simp at this ⊢; omega, ownRngs_of rfl (HSTO.out _) (hB.setCell hgl _)⟩
        · have hb : (sb == 13000) = false := by rw [beq_eq_false_iff_ne]; exact hs
          have HFIN := Lib.hid (HST.out.end_off HT.out (fun o' s' e => by obtain ⟨_, e⟩ := List.append_inj' e rfl; injection e with e; subst e; exact hs))
          clear hs
          go_wp2
          go_ret
          exact ⟨o ++ [(sa, sb)], HFIN.out, by have := HLEN.out; simp at this ⊢; omega, ownRngs_of rfl hout hB⟩
end Go.Proofs.Ytehlijnhhbdbhaa
