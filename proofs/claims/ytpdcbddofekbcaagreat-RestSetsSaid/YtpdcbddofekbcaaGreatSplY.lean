/- slices.SortFunc over roads that the caller owns: by the shelf's contract. -/
import Derived.Shelf.SlSortCmp.Whole1
import Derived.Shelf.SlSortCmp.NoneTotal
import Derived.Test.YtpdcbddofekbcaaGreatSortLay
import Derived.Test.YtpdcbddofekbcaaGreatGH
import Derived.Test.YtpdcbddofekbcaaGreatGD
import Derived.Lib.OwnBridge
namespace Go.Proofs.YtpdcbddofekbcaaGreat
open Go.RowKit Go.Sort Go.Shelf Go.Lib
set_option linter.unusedVariables false
set_option linter.unusedSimpArgs false
/-- a slice that is a road of the caller's own in w, not in the block g -/
structure Rd (w : World) (base g : Nat) where
  v : Value
  r : List (Int × Int)
  n : Nat
  own : w.ownsRow base 25 2 v n (rngs r)
  sm : small r
  len : r.length ≤ 4
  ap : v.ownBlock ≠ some g
instance (w : World) (base g : Nat) : Inhabited (Rd w base g) := ⟨⟨.slice none 0 0, [], 0, World.ownsRow_nil _ _ _ _, fun x hx => (by cases hx), by simp, by simp [Value.ownBlock]⟩⟩
def encRd {w : World} {base g : Nat} (x : Rd w base g) : Value := x.v
def cfRd {w : World} {base g : Nat} (x y : Rd w base g) : Int := cmpL (keyR x.r) (keyR y.r)
theorem ltRd {w : World} {base g : Nat} (x y : Rd w base g) : ltOf cfRd x y = lexB (keyR x.r) (keyR y.r) := by
  rw [← cmpL_lex]
  rfl
theorem swoRd (w : World) (base g : Nat) : SWO (ltOf (cfRd (w := w) (base := base) (g := g))) where
  irrefl x := by rw [ltRd]; exact lexB_irrefl _
  trans x y z h1 h2 := by
    rw [ltRd] at *
    exact lexB_trans _ _ _ h1 h2
  ntrans x y z h1 h2 := by
    rw [ltRd] at *
    exact lexB_ntrans _ _ _ h1 h2
theorem own_same {w w' : World} {base : Nat} {e : TypeId} {size n : Nat} {v : Value} {xs : List Value} (h : w.ownsRow base e size v n xs) (hk : ∀ k, v.ownBlock = some k → k < w.heap.size → w'.heap[k]? = w.heap[k]?) : w'.ownsRow base e size v n xs := by
  refine ⟨h.1, ?_⟩
  rcases h.2 with h1 | ⟨g, cap, cur, rfl, hb, hh, h3⟩
  · exact .inl h1
  · refine .inr ⟨g, cap, cur, rfl, hb, ?_, h3⟩
    rw [hk g rfl ?_]
    · exact hh
    · rcases Nat.lt_or_ge g w.heap.size with q | q
      · exact q
      · rw [Array.getElem?_eq_none q] at hh; cases hh
theorem sortWorld_at {α : Type} [Inhabited α] (enc : α → Value) (w : World) (g m : Nat) (d : Array α) (os : Array Obj) {k : Nat} (hk : k < w.heap.size) (hg : k ≠ g) : (sortWorld enc w g 0 m d os).heap[k]? = w.heap[k]? := by
  have hs : k < (putRow enc (Sort.ahead w m) g 0 d).heap.size := by simpa [putRow, mapBlock, Sort.ahead] using hk
  show ((putRow enc (Sort.ahead w m) g 0 d).heap ++ os)[k]? = _
  rw [Array.getElem?_append_left hs]
  simp [putRow, mapBlock, Sort.ahead, Array.getElem?_modify, show g ≠ k by omega]
theorem cmpLays23 (w : World) (base g size : Nat) : CmpLays1 Tryz.prog 32 #[] (encRd (w := w) (base := base) (g := g)) cfRd g 0 size w := fun m os dk _ x y => by
  have hx := own_same (w' := sortWorld encRd w g 0 m dk os) x.own fun k h1 h2 => sortWorld_at encRd w g m dk os h2 fun e => x.ap (e ▸ h1)
  have hy := own_same (w' := sortWorld encRd w g 0 m dk os) y.own fun k h1 h2 => sortWorld_at encRd w g m dk os h2 fun e => y.ap (e ▸ h1)
  obtain ⟨A, c, hv, _⟩ := own_slice hx
  obtain ⟨B, d, hu, _⟩ := own_slice hy
  have lx := own_rngs_len hx
  have ly := own_rngs_len hy
  have l1 := x.len
  have l2 := y.len
  show Calls Tryz.prog 32 #[x.v, y.v] _ _
  rw [hv] at hx
  rw [hu] at hy
  rw [hv, hu]
  exact (compare_23g x.r y.r A B x.n c y.n d _ (by omega) (by omega) x.sm y.sm (Rds.of_own hx) (Rds.of_own hy)).mono fun e w' ⟨h1, h2⟩ => ⟨h1, h2.out⟩
theorem rds_of {w : World} {base g : Nat} : ∀ (vs : List Value) (ls : List (List (Int × Int))), vs.length = ls.length → (∀ k (h : k < vs.length) (h' : k < ls.length), ∃ n, w.ownsRow base 25 2 vs[k] n (rngs ls[k])) → (∀ u ∈ vs, u.ownBlock ≠ some g) → (∀ r ∈ ls, small r ∧ r.length ≤ 4) → ∃ zs : List (Rd w base g), zs.map encRd = vs ∧ zs.map Rd.r = ls
  | [], [], _, _, _, _ => ⟨[], rfl, rfl⟩
  | [], _ :: _, h, _, _, _ => by cases h
  | _ :: _, [], h, _, _, _ => by cases h
  | v :: vs, r :: ls, h, ho, ha, hs => by
    obtain ⟨n, hn⟩ := ho 0 (by simp) (by simp)
    obtain ⟨zs, h1, h2⟩ := rds_of vs ls (by simpa using h) (fun k a b => by
      obtain ⟨m, hm⟩ := ho (k + 1) (by simpa using a) (by simpa using b)
      exact ⟨m, hm⟩) (fun u hu => ha u (by simp [hu])) (fun q hq => hs q (by simp [hq]))
    exact ⟨⟨v, r, n, hn, (hs r (by simp)).1, (hs r (by simp)).2, ha v (by simp)⟩ :: zs, by simp [encRd, ← h1], by simp [h2]⟩
theorem sortRoads (ls : List (List (Int × Int))) (vs : List Value) (A : Option Addr) (n c base : Nat) (w : World) (hn : n ≤ 1000000000) (hb : base ≤ w.heap.size) (hown : w.ownsRow base 22 1 (.slice A n c) n vs) (hs : OwnSls w base vs ls) (hsm : ∀ r ∈ ls, small r ∧ r.length ≤ 4) :
    Calls Tryz.prog 31 #[.slice A n c, .func (.func 32) #[] #[]] w fun e w' => e = .returned (.tuple #[]) ∧ ∃ ls' vs', ls'.Perm ls ∧ ls'.Pairwise (fun a b => lexB (keyR b) (keyR a) = false) ∧ w'.ownsRow base 22 1 (.slice A n c) n vs' ∧ OwnSls w' base vs' ls' ∧ Below base w w' := by
  have hl := hown.1
  rcases Nat.eq_zero_or_pos n with h0 | h0
  · subst h0
    have hv0 : vs = [] := List.eq_nil_of_length_eq_zero (by omega)
    subst hv0
    have hl0 : ls = [] := List.eq_nil_of_length_eq_zero hs.1.symm
    subst hl0
    exact (AnyF.slices_SortFunc_none { Tryz.sortSl with } A c (.func (.func 32) #[] #[]) w).mono fun e w' ⟨he, hw⟩ => ⟨he, [], [], .refl _, .nil, by rw [hw]; exact hown, by rw [hw]; exact hs, by rw [hw]; exact Below.refl _ _⟩
  · obtain ⟨g, cap, hv, hg, hlt⟩ := hown.form h0
    have hA : A = some ⟨g, 0, none⟩ := by injection hv
    subst hA
    obtain ⟨zs, hz1, hz2⟩ := rds_of (g := g) vs ls hs.1 hs.2.1 (fun u hu e => by
      obtain ⟨k, hk, rfl⟩ := List.mem_iff_getElem.1 hu
      obtain ⟨m, hm⟩ := hs.2.1 k hk (by rw [← hs.1]; exact hk)
      exact own_ne_type hown hm (by decide) g rfl e) hsm
    have hzl : zs.length = n := by rw [← hz1, List.length_map] at hl; omega
    have hown2 : w.ownsRow base 22 1 (.slice (some ⟨g, 0, none⟩) n c) n (zs.map encRd) := by rw [hz1]; exact hown
    obtain ⟨g2, cap2, hv2, _, _, _, _, _, hH⟩ := holds_of_ownsRow hown2 (by intro e; injection e with e1; cases e1)
    have hg2 : g2 = g := by injection hv2 with e1; injection e1 with e1; injection e1 with e1; exact e1.symm
    subst hg2
    have hsz : zs.toArray.size = n := by simpa using hzl
    have hso := Any.slices_SortFunc Tryz.sortSl encRd (fun x => by obtain ⟨A, c, hv, _⟩ := own_slice x.own; show x.v.oneCell' = true; rw [hv]; rfl) cfRd (swoRd w base g2) 32 #[] g2 0 c zs.toArray w (enters_of Tryz.func32 (by kernel_rfl) rfl) (cmpLays23 w base g2 _) hH hlt (by omega)
    rw [hsz] at hso
    refine Calls.mono hso ?_
    rintro e w' ⟨he, d', m, os, hp, hsrt, rfl⟩
    obtain ⟨hds, _, hperm⟩ := hp
    have hdn : d'.size = n := by omega
    have e1 : (d'.extract 0 n).toList = d'.toList := by rw [show n = d'.size by omega]; simp
    have e2 : (zs.toArray.extract 0 n).toList = zs := by rw [show n = zs.toArray.size by omega]; simp
    rw [e1, e2] at hperm
    refine ⟨he, d'.toList.map Rd.r, d'.toList.map encRd, ?_, ?_, ?_, ⟨by simp, ?_, ?_⟩, ?_⟩
    · rw [← hz2]; exact hperm.map _
    · rw [List.pairwise_map, List.pairwise_iff_getElem]
      intro i j hi hj hij
      have := hsrt i j (Nat.zero_le _) hij (by simp at hj; omega)
      rw [getElem!_pos d' i (by simpa using hi), getElem!_pos d' j (by simpa using hj), ltRd] at this
      simpa using this
    · have h := ownsRow_putRow (q := m) (ys := d'.toList) (k := n) hown2 (by simpa using hdn) (Nat.le_refl _)
      rw [List.take_of_length_le (by simp; omega)] at h
      have ed : d'.toList.toArray = d' := by simp
      rw [ed] at h
      exact own_same h fun k _ hk => by
        show ((putRow encRd (Sort.ahead w m) g2 0 d').heap ++ os)[k]? = _
        rw [Array.getElem?_append_left hk]
    · intro k h1 h2
      simp only [List.getElem_map]
      have hk : k < d'.toList.length := by simpa using h1
      refine ⟨(d'.toList[k]).n, own_same (d'.toList[k]).own fun b hb1 hb2 => sortWorld_at encRd w g2 m d' os hb2 fun e => (d'.toList[k]).ap (e ▸ hb1)⟩
    · have hap := hs.2.2
      rw [← hz1] at hap
      exact ((hperm.map encRd).pairwise_iff fun {x y} h g h1 h2 => h g h2 h1).2 hap
    · have hb2 : Below base w (putRow encRd (Sort.ahead w m) g2 0 d') := below_putRow (Below.refl base w) hg
      refine ⟨hb2.os, hb2.tape, hb2.output, Nat.le_trans hb2.size (by simp [sortWorld, grow]), fun k hk => ?_⟩
      rw [← hb2.block k hk]
      have : k < (putRow encRd (Sort.ahead w m) g2 0 d').heap.size := Nat.lt_of_lt_of_le (Nat.lt_of_lt_of_le hk hb) hb2.size
      show ((putRow encRd (Sort.ahead w m) g2 0 d').heap ++ os)[k]? = _
      rw [Array.getElem?_append_left this]
end Go.Proofs.YtpdcbddofekbcaaGreat
