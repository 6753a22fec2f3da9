/-
  packed and within of the program, at the points that the law's beginning asks for: walked. cut and packed of the program, for any points: walked.
-/
import Derived.Test.YtpdcbddofekbcaaGreatGG
import Derived.Test.YtpdcbddofekbcaaGreatGD
namespace Go.Proofs.YtpdcbddofekbcaaGreat
open Go.RowKit
set_option linter.unusedVariables false
theorem road_info : (Tryz.prog.info? 22).map (fun i => (i.zero, i.size, i.bytes)) = some (some (.slice none 0 0), 1, 24) := by kernel_rfl
theorem app_roads {w : World} {ops : Array Oper} {rest : List Oper} {o : Oper} {a : Act} {Q : Exit → Act → World → Prop} (s x : Operand) {base B n m c : Nat} {A : Option Addr} {v : Value} {xs ys : List Value}
    (hown : w.ownsRow base 22 1 v n xs) (hr : Rds w B 1 A m ys) (h1 : ∀ u ∈ ys, u.oneCell' = true) (hlen : n + m ≤ 1000000000) (hbase : base ≤ w.heap.size) (hgd : o.guard = none)
    (ho : o.op = .call { callee := .builtin .append, args := #[s, x], argTypes := #[30, 30] }) (hs : a.eval s = v) (hx : a.eval x = .slice A m c)
    (h : ∀ v' w', w'.ownsRow base 22 1 v' (n + m) (xs ++ ys) → w.grownBy w' v.ownBlock → (v'.ownBlock = v.ownBlock ∨ v'.ownBlock = some w.heap.size) → wpList Tryz.prog ops Q rest (a.put o.dst v') w') :
    wpList Tryz.prog ops Q (o :: rest) a w := by
  obtain ⟨i0, hi0, hz0, hz1, hz2⟩ := info_parts road_info
  exact wpList_append_rds w hgd s x _ ho base 22 i0 _ 1 24 Tryz.underlying30 hi0 hz0 hz1 hz2 rfl (by omega) v n _ hs hown B A m c _ hx hr h1 (by unfold maxLen; omega) (by omega) hbase h
/-- no two of the rows lie in one block -/
def Apart (vs : List Value) : Prop := vs.Pairwise fun u v => ∀ g, u.ownBlock = some g → v.ownBlock ≠ some g
/-- slices that are rows of the call's own, each in a block of its own, with these roads -/
def OwnSls (w : World) (base : Nat) (vs : List Value) (ls : List (List (Int × Int))) : Prop :=
  vs.length = ls.length ∧ (∀ k (h : k < vs.length) (h' : k < ls.length), ∃ n, w.ownsRow base 25 2 vs[k] n (rngs ls[k])) ∧ Apart vs
theorem OwnSls.nil (w : World) (base : Nat) : OwnSls w base [] [] := ⟨rfl, fun k h => by simp at h, .nil⟩
theorem OwnSls.map {w w' : World} {base base' : Nat} {vs : List Value} {ls : List (List (Int × Int))} (h : OwnSls w base vs ls) (f : ∀ v n xs, w.ownsRow base 25 2 v n xs → w'.ownsRow base' 25 2 v n xs) : OwnSls w' base' vs ls :=
  ⟨h.1, fun k h1 h2 => by obtain ⟨n, hn⟩ := h.2.1 k h1 h2; exact ⟨n, f _ _ _ hn⟩, h.2.2⟩
theorem OwnSls.below {w w' : World} {base : Nat} {vs : List Value} {ls : List (List (Int × Int))} (h : OwnSls w base vs ls) (hb : Below w.heap.size w w') : OwnSls w' base vs ls := h.map fun _ _ _ k => own_below k hb (Nat.le_refl _)
theorem OwnSls.mono {w : World} {base base' : Nat} {vs : List Value} {ls : List (List (Int × Int))} (h : OwnSls w base vs ls) (hb : base' ≤ base) : OwnSls w base' vs ls := h.map fun _ _ _ k => own_mono k hb
theorem OwnSls.alloc {w : World} {base : Nat} {vs : List Value} {ls : List (List (Int × Int))} (h : OwnSls w base vs ls) (o : Obj) : OwnSls (w.alloc o) base vs ls := h.map fun _ _ _ k => k.alloc o
theorem OwnSls.kept {w w' : World} {base b n : Nat} {v : Value} {xs vs : List Value} {ls : List (List (Int × Int))} (h : OwnSls w base vs ls) (ho : w.ownsRow b 22 1 v n xs) (hg : w.grownBy w' v.ownBlock) : OwnSls w' base vs ls :=
  h.map fun _ _ _ k => own_kept k hg (own_ne_type ho k (by decide))
theorem OwnSls.append {w : World} {base : Nat} {vs us : List Value} {ls ms : List (List (Int × Int))} (h : OwnSls w base vs ls) (k : OwnSls w base us ms) (hf : ∀ u ∈ vs, ∀ v ∈ us, ∀ g, u.ownBlock = some g → v.ownBlock ≠ some g) : OwnSls w base (vs ++ us) (ls ++ ms) := by
  refine ⟨by rw [List.length_append, List.length_append, h.1, k.1], fun j h1 h2 => ?_, List.pairwise_append.2 ⟨h.2.2, k.2.2, hf⟩⟩
  by_cases hj : j < vs.length
  · rw [List.getElem_append_left hj, List.getElem_append_left (by rw [← h.1]; exact hj)]
    exact h.2.1 j hj _
  · rw [List.getElem_append_right (by omega), List.getElem_append_right (by rw [← h.1]; omega)]
    simp only [h.1]
    exact k.2.1 _ (by rw [List.length_append] at h1; rw [← h.1]; omega) _
theorem OwnSls.one {w : World} {base n : Nat} {v : Value} {r : List (Int × Int)} (h : w.ownsRow base 25 2 v n (rngs r)) : OwnSls w base [v] [r] :=
  ⟨rfl, fun k h1 h2 => by
    have : k = 0 := by simp at h1; omega
    subst this
    exact ⟨n, h⟩, List.pairwise_singleton _ _⟩
/-- rows that lay below, and a row that was laid behind them -/
theorem OwnSls.fresh {w w3 : World} {base e m k : Nat} {vs : List Value} {ls : List (List (Int × Int))} {v : Value} {xs : List Value} (h : OwnSls w base vs ls) (h3 : w3.ownsRow w.heap.size e k v m xs) : ∀ u ∈ vs, ∀ x ∈ [v], ∀ g, u.ownBlock = some g → x.ownBlock ≠ some g := by
  intro u hu x hx g h1 h2
  rw [List.mem_singleton.1 hx] at h2
  obtain ⟨j, hj, rfl⟩ := List.mem_iff_getElem.1 hu
  obtain ⟨n, hn⟩ := h.2.1 j hj (by rw [← h.1]; exact hj)
  have a := hn.lt g h1
  have b := h3.lt g h2
  omega
theorem OwnSls.fresh2 {w w3 : World} {base : Nat} {vs us : List Value} {ls ms : List (List (Int × Int))} (h : OwnSls w base vs ls) (h3 : OwnSls w3 w.heap.size us ms) : ∀ u ∈ vs, ∀ x ∈ us, ∀ g, u.ownBlock = some g → x.ownBlock ≠ some g := by
  intro u hu x hx g h1 h2
  obtain ⟨j, hj, rfl⟩ := List.mem_iff_getElem.1 hu
  obtain ⟨i, hi, rfl⟩ := List.mem_iff_getElem.1 hx
  obtain ⟨n, hn⟩ := h.2.1 j hj (by rw [← h.1]; exact hj)
  obtain ⟨m, hm⟩ := h3.2.1 i hi (by rw [← h3.1]; exact hi)
  have a := hn.lt g h1
  have b := hm.lt g h2
  omega
theorem OwnSls.sls {w : World} {base : Nat} {vs : List Value} {ls : List (List (Int × Int))} (h : OwnSls w base vs ls) : Sls w w.heap.size vs ls :=
  ⟨h.1, fun k h1 h2 => by
    obtain ⟨n, hn⟩ := h.2.1 k h1 h2
    obtain ⟨A, c, hv, q1, q2⟩ := own_slice hn
    refine ⟨A, n, c, hv, q1, q2, ?_⟩
    rw [hv] at hn
    exact Rds.of_own hn⟩
theorem OwnSls.cells {w : World} {base : Nat} {vs : List Value} {ls : List (List (Int × Int))} (h : OwnSls w base vs ls) : ∀ u ∈ vs, u.oneCell' = true := fun u hu => by
  obtain ⟨k, hk, rfl⟩ := List.mem_iff_getElem.1 hu
  obtain ⟨n, hn⟩ := h.2.1 k hk (by rw [← h.1]; exact hk)
  obtain ⟨A, c, hv, _⟩ := own_slice hn
  rw [hv]; rfl
/-- a value that holds roads: a row of the call's own, of rows of its own -/
def RoadsVal (w w' : World) (ls : List (List (Int × Int))) (o : Value) : Prop :=
  ∃ A n c vs, o = .slice A n c ∧ n ≤ c ∧ c ≤ maxLen ∧ Hid (w'.ownsRow w.heap.size 22 1 (.slice A n c) n vs) ∧ Hid (OwnSls w' w.heap.size vs ls) ∧ Below w.heap.size w w'
def RoadsOut (w : World) (ls : List (List (Int × Int))) (e : Ending) (w' : World) : Prop :=
  ∃ A n c vs, e = .returned (.slice A n c) ∧ n ≤ c ∧ c ≤ maxLen ∧ Hid (w'.ownsRow w.heap.size 22 1 (.slice A n c) n vs) ∧ Hid (OwnSls w' w.heap.size vs ls) ∧ Below w.heap.size w w'
theorem RoadsVal.out {w w' : World} {ls : List (List (Int × Int))} {o : Value} (h : RoadsVal w w' ls o) : RoadsOut w ls (.returned o) w' := by
  obtain ⟨A, n, c, vs, rfl, h⟩ := h
  exact ⟨A, n, c, vs, rfl, h⟩
theorem RoadsVal.of {w w' : World} {ls : List (List (Int × Int))} {v : Value} {n : Nat} {vs : List Value} (h : w'.ownsRow w.heap.size 22 1 v n vs) (k : OwnSls w' w.heap.size vs ls) (hb : Below w.heap.size w w') : RoadsVal w w' ls v := by
  obtain ⟨A, c, rfl, q1, q2⟩ := own_slice h
  exact ⟨A, n, c, vs, rfl, q1, q2, Lib.hid h, Lib.hid k, hb⟩
theorem RoadsOut.up {w w1 w' : World} {ls : List (List (Int × Int))} {e : Ending} (hb : Below w.heap.size w w1) (h : RoadsOut w1 ls e w') : RoadsOut w ls e w' := by
  obtain ⟨A, n, c, vs, h0, h1, h2, h3, h4, h6⟩ := h
  exact ⟨A, n, c, vs, h0, h1, h2, Lib.hid (own_mono h3.out hb.size), Lib.hid (h4.out.mono hb.size), hb.trans (h6.mono hb.size)⟩
theorem RoadsVal.nil (w : World) : RoadsVal w w [] (.slice none 0 0) := .of (World.ownsRow_nil _ _ _ _) (OwnSls.nil _ _) (Below.refl _ _)
theorem RoadsVal.next {w W w' : World} {ls : List (List (Int × Int))} {o : Value} (h : RoadsVal w W ls o) (hb : Below W.heap.size W w') : RoadsVal w w' ls o := by
  obtain ⟨A, n, c, vs, h0, h1, h2, h3, h4, h6⟩ := h
  exact ⟨A, n, c, vs, h0, h1, h2, Lib.hid (own_below h3.out hb (Nat.le_refl _)), Lib.hid (h4.out.below hb), h6.trans (hb.mono h6.size)⟩
theorem road_one (w : World) (a b : Int) : RoadsOut w [[(a, b)]] (.returned (.slice (some ⟨w.heap.size + 1, 0, none⟩) 1 1)) ((w.alloc (.cells #[.int .i64 a, .int .i64 b] 25)).alloc (.cells #[.slice (some ⟨w.heap.size, 0, none⟩) 1 1] 22)) := by
  have hz : (w.alloc (.cells #[.int .i64 a, .int .i64 b] 25)).heap.size = w.heap.size + 1 := by simp
  have h1 := own_new (w.alloc (.cells #[.int .i64 a, .int .i64 b] 25)) w.heap.size 22 1 1 #[.slice (some ⟨w.heap.size, 0, none⟩) 1 1] (by omega) rfl (by decide)
  rw [hz] at h1
  have h2 : (w.alloc (.cells #[.int .i64 a, .int .i64 b] 25)).ownsRow w.heap.size 25 2 (.slice (some ⟨w.heap.size, 0, none⟩) 1 1) 1 (rngs [(a, b)]) := own_new w w.heap.size 25 2 1 #[.int .i64 a, .int .i64 b] (Nat.le_refl _) rfl (by decide)
  exact (RoadsVal.of h1 (OwnSls.one (h2.alloc _)) (by go_grown)).out
set_option maxRecDepth 100000 in
set_option maxHeartbeats 1000000 in
theorem packed_1 (a b : Int) (w : World) : Calls Tryz.prog 56 #[.int .i64 a, .int .i64 b, .int .i64 1] w (RoadsOut w [[(a, b)]]) := by
  have hz : (w.alloc (.cells #[.int .i64 1] 3)).heap.size = w.heap.size + 1 := by simp
  have H0 := road_one (w.alloc (.cells #[.int .i64 1] 3)) a b
  rw [hz] at H0
  have H := Lib.hid (RoadsOut.up (by go_grown : Below w.heap.size w (w.alloc (.cells #[.int .i64 1] 3))) H0)
  clear hz H0
  go_enter Tryz.func56, Tryz.ntmps56
  go_wp2
  go_ret
  exact H.out
/-- what the closure cut reads -/
def CutEnv (w : World) (pb pm pc gm : Nat) : Prop :=
  w.cell? ⟨pb, 0, none⟩ = some (.int .i64 2) ∧ w.cell? ⟨pm, 0, none⟩ = some (.slice (some ⟨gm, 0, none⟩) 5 5) ∧ w.cell? ⟨gm, 2, none⟩ = some (.int .i64 192) ∧
  w.cell? ⟨pc, 0, none⟩ = some (.func (.func 76) #[] #[.pointer (some ⟨pb, 0, none⟩), .pointer (some ⟨pm, 0, none⟩), .pointer (some ⟨pc, 0, none⟩)])
set_option maxRecDepth 100000 in
set_option maxHeartbeats 1000000 in
theorem cut_1 (a b : Int) (pb pm pc gm : Nat) (w : World) (h : CutEnv w pb pm pc gm) (ha : 0 ≤ a ∧ a ≤ 1000) (hb : 0 ≤ b ∧ b ≤ 1000) :
    Calls Tryz.prog 76 #[.int .i64 a, .int .i64 b, .int .i64 1, .pointer (some ⟨pb, 0, none⟩), .pointer (some ⟨pm, 0, none⟩), .pointer (some ⟨pc, 0, none⟩)] w (RoadsOut w [[(128 + a, 128 + b)]]) := by
  obtain ⟨c1, c2, c3, c4⟩ := h
  obtain ⟨a0, a1⟩ := ha
  obtain ⟨b0, b1⟩ := hb
  have H := Lib.hid (road_one w (128 + a) (128 + b))
  go_enter Tryz.func76, Tryz.ntmps76
  go_wp2
  go_ret
  exact H.out
theorem CutEnv.below {w w' : World} {pb pm pc gm : Nat} (h : CutEnv w pb pm pc gm) (hl : pb < w.heap.size ∧ pm < w.heap.size ∧ pc < w.heap.size ∧ gm < w.heap.size) (hb : Below w.heap.size w w') : CutEnv w' pb pm pc gm := by
  obtain ⟨h1, h2, h3, h4⟩ := h
  obtain ⟨l1, l2, l3, l4⟩ := hl
  exact ⟨by rw [hb.cell (p := ⟨pb, 0, none⟩) l1]; exact h1, by rw [hb.cell (p := ⟨pm, 0, none⟩) l2]; exact h2, by rw [hb.cell (p := ⟨gm, 2, none⟩) l4]; exact h3, by rw [hb.cell (p := ⟨pc, 0, none⟩) l3]; exact h4⟩
theorem own_len_one {w : World} {base e n : Nat} {v : Value} {u : Value} (h : w.ownsRow base e 1 v n [u]) : n = 1 := by have := h.1; simp at this; omega
theorem ownSls_single {w : World} {base : Nat} {vs : List Value} {r : List (Int × Int)} (h : OwnSls w base vs [r]) : ∃ A n c, vs = [.slice A n c] ∧ n ≤ c ∧ c ≤ maxLen ∧ Rds w w.heap.size 2 A n (rngs r) := by
  have hl := h.1
  match vs, hl with
  | [v], _ =>
    obtain ⟨A, n, c, h1, h2, h3, h4⟩ := h.sls.2 0 (by simp) (by simp)
    exact ⟨A, n, c, by rw [← h1]; rfl, h2, h3, h4⟩
set_option maxRecDepth 100000 in
set_option maxHeartbeats 2000000 in
theorem cut_2 (pb pm pc gm : Nat) (w : World) (h : CutEnv w pb pm pc gm) (hl : pb < w.heap.size ∧ pm < w.heap.size ∧ pc < w.heap.size ∧ gm < w.heap.size) :
    Calls Tryz.prog 76 #[.int .i64 233, .int .i64 233, .int .i64 2, .pointer (some ⟨pb, 0, none⟩), .pointer (some ⟨pm, 0, none⟩), .pointer (some ⟨pc, 0, none⟩)] w (RoadsOut w [[(195, 195), (169, 169)]]) := by
  have C1 : Hid (∀ (w' : World), Below w.heap.size w w' → Calls Tryz.prog 76 #[.int .i64 41, .int .i64 41, .int .i64 1, .pointer (some ⟨pb, 0, none⟩), .pointer (some ⟨pm, 0, none⟩), .pointer (some ⟨pc, 0, none⟩)] w' fun e w'' =>
      ∃ b c, e = .returned (.slice (some ⟨b, 0, none⟩) 1 c) ∧ Hid (∃ A n c, b < w''.heap.size ∧ w''.cell? ⟨b, 0, none⟩ = some (.slice A n c) ∧ n ≤ c ∧ c ≤ maxLen ∧ Rds w'' w''.heap.size 2 A n (rngs [(169, 169)])) ∧ Hid (Below w.heap.size w w'')) := Lib.hid (fun w' hw => by
    refine (cut_1 41 41 pb pm pc gm w' (h.below hl hw) (by decide) (by decide)).mono ?_
    rintro e w1 ⟨A, n, c, vs, rfl, h1, h2, h3, h4, h6⟩
    obtain ⟨A2, n2, c2, rfl, h7, h8, h9⟩ := ownSls_single h4.out
    obtain rfl := own_len_one h3.out
    obtain ⟨b, off, _, hA, hb, hc⟩ := (Rds.of_own h3.out).at1 (k := 0) (by decide)
    subst hA
    have hoff : off = 0 := by
      rcases h3.out.2 with ⟨e1, _⟩ | ⟨g, cap, cur, e1, _⟩
      · cases e1
      · injection e1 with e1; injection e1 with e1; injection e1
    subst hoff
    exact ⟨b, c, rfl, Lib.hid ⟨A2, n2, c2, hb, by simpa using hc, h7, h8, h9⟩, Lib.hid (hw.trans (h6.mono hw.size))⟩)
  have HL := Lib.hid hl
  obtain ⟨c1, c2, c3, c4⟩ := h
  have HC4 := Lib.hid c4
  have EG := Lib.hid (show ∀ args w, (callFunc 76 args).run Tryz.prog w = .ok (.enter 76 args) w from enters_of Tryz.func76 (by kernel_rfl) rfl)
  clear hl
  have KP := Lib.hid (fun (w' : World) (hw : Below w.heap.size w w') => show Below w.heap.size w w' ∧ w'.cell? ⟨pc, 0, none⟩ = some (.func (.func 76) #[] #[.pointer (some ⟨pb, 0, none⟩), .pointer (some ⟨pm, 0, none⟩), .pointer (some ⟨pc, 0, none⟩)]) from ⟨hw, by rw [hw.cell (p := ⟨pc, 0, none⟩) HL.out.2.2.1]; exact HC4.out⟩)
  go_enter Tryz.func76, Tryz.ntmps76
  go_wp2_with fail
  go_loopw [12, 13] (fun o i wr => (i = .int .i64 233 ∧ o = .slice none 0 0 ∧ wr = w) ∨ (i = .int .i64 234 ∧ RoadsVal w wr [[(195, 195), (169, 169)]] o)) (fun _ i _ => 234 - (intOf i).toNat)
  case atStart => exact .inl ⟨rfl, rfl, rfl⟩
  case round =>
    rcases hrel with ⟨rfl, rfl, rfl⟩ | ⟨rfl, A, n, c, vs, rfl, h1, h2, h3, h4, h6⟩
    · have hmin : min (233 : Int) 255 = 233 := by decide
      go_wp2_with fail
      go_region_held3 (fun w' => Below wr.heap.size wr w' ∧ w'.cell? ⟨pc, 0, none⟩ = some (.func (.func 76) #[] #[.pointer (some ⟨pb, 0, none⟩), .pointer (some ⟨pm, 0, none⟩), .pointer (some ⟨pc, 0, none⟩)]))
        (first
          | (exact KP.out _ (below_drewN (Below.refl _ _) 1))
          | (exact KP.out _ (hby.out))
          | (go_split_ands; exact KP.out _ (below_drewN hby.out 1))
          | go_keep)
        (first
          | (go_split_ands; go_at_call 76; refine (C1.out _ (by assumption)).mono ?_; rintro e w1 ⟨b, c, rfl, HO, hby⟩))
      obtain ⟨A2, n2, kc, hbl, hcb, hnc, hcm, hR⟩ := HO.out
      have HR := Lib.hid hR
      have HBY := Lib.hid hby.out
      have hz := hby.out.size
      have HOWN := Lib.hid (own_new w1 wr.heap.size 25 2 1 #[.int .i64 195, .int .i64 195] hz rfl (by decide))
      have hn2 : n2 = 1 := by have := hR.1; simp [rngs] at this; omega
      subst hn2
      clear hR hby HO c1 c2 c3 c4
      obtain ⟨wo, hwo⟩ : ∃ wo, wo = w1 := ⟨_, rfl⟩
      rw [← hwo] at hcb HR HBY hz HOWN hbl ⊢
      clear hwo
      obtain ⟨W0, rfl⟩ : ∃ x, x = wr := ⟨_, rfl⟩
      go_wp2_with fail
      rw [show IntKind.i64.wrap (1 : Int) = 1 from by decide]
      go_loopw [12, 110] (fun o i wr => (i = .int .i64 0 ∧ o = .slice none 0 0 ∧ wr = wo) ∨ (i = .int .i64 1 ∧ RoadsVal W0 wr [[(195, 195), (169, 169)]] o)) (fun _ i _ => 1 - (intOf i).toNat)
      case atStart => exact .inl ⟨rfl, rfl, rfl⟩
      case round =>
        rcases hrel with ⟨rfl, rfl, hwr⟩ | ⟨rfl, A, n, c, vs, rfl, h1, h2, h3, h4, h6⟩
        · obtain ⟨wz, hwz⟩ : ∃ wz, wz = wr := ⟨_, rfl⟩
          rw [← hwz] at hwr ⊢
          clear hwz
          rw [← hwr] at hcb HR HBY hz HOWN hbl
          clear hwr
          go_wp2_with (at_builtin; first
            | (refine app_rngs (.tmp 122) (.tmp 123) (base := W0.heap.size) (xs := [(195, 195)]) (n := 1) HOWN.out (HR.out.alloc (Nat.le_refl _) _) (by decide) (by simp; omega) rfl rfl rfl rfl ?_; intro v3 w3 hown3 hg3 hat3; obtain ⟨A3, c3, hv3, q3, q4⟩ := own_slice hown3; subst hv3)
            | (refine app_roads (.tmp 114) (.tmp 125) (base := W0.heap.size) (xs := []) (n := 0) (World.ownsRow_nil _ _ _ _) (Rds.new w3 1 1 #[.slice A3 (1 + 1) c3] 22 [.slice A3 (1 + 1) c3] rfl rfl) (by simp [Value.oneCell']) (by decide) (by have h := hg3.size; simp at h ⊢; omega) rfl rfl rfl rfl ?_; intro v4 w4 hown4 hg4 hat4))
          have HV := Lib.hid (show RoadsVal W0 w4 [[(195, 195), (169, 169)]] v4 from by
            have hk := own_kept (hown3.alloc (.cells #[.slice A3 (1 + 1) c3] 22)) hg4 (fun g h => by simp [Value.ownBlock] at h)
            have hs3 := hg3.size
            simp at hs3
            have B3 : Below W0.heap.size W0 w3 := grown_own (HBY.out.alloc hz _) HOWN.out hg3 (Nat.le_refl _) (by simp; omega)
            have B4 : Below W0.heap.size W0 w4 := grown_own (B3.alloc (by omega) _) (World.ownsRow_nil _ W0.heap.size 22 1) hg4 (Nat.le_refl _) (by simp; omega)
            exact .of hown4 (OwnSls.one hk) B4)
          go_roundw
          case rel => exact .inr ⟨by go_num, HV.out⟩
          case measure => simp [intOf]
        · have HV := Lib.hid (show RoadsVal W0 wr [[(195, 195), (169, 169)]] (.slice A n c) from ⟨A, n, c, vs, rfl, h1, h2, h3, h4, h6⟩)
          go_wp2
          go_roundw
          case rel => exact .inr ⟨by go_num, HV.out⟩
          case measure => simp [intOf]
    · go_wp2
      go_ret
      exact ⟨A, n, c, vs, rfl, h1, h2, h3, h4, h6⟩
end Go.Proofs.YtpdcbddofekbcaaGreat
namespace Go.Proofs.YtpdcbddofekbcaaGreat
open Go.RowKit
set_option linter.unusedVariables false
/-- it hands back roads of its own, of which P is true -/
def RoadsP (w : World) (P : List (List (Int × Int)) → Prop) (e : Ending) (w' : World) : Prop := ∃ ls, Hid (P ls) ∧ RoadsOut w ls e w'
/-- what the closure cut reads, whatever it stands for -/
def CutE (w : World) (pb pm pc gm k : Nat) (mk : Int) : Prop :=
  w.cell? ⟨pb, 0, none⟩ = some (.int .i64 (k : Int)) ∧ w.cell? ⟨pm, 0, none⟩ = some (.slice (some ⟨gm, 0, none⟩) 5 5) ∧ w.cell? ⟨gm, k, none⟩ = some (.int .i64 mk) ∧
  w.cell? ⟨pc, 0, none⟩ = some (.func (.func 76) #[] #[.pointer (some ⟨pb, 0, none⟩), .pointer (some ⟨pm, 0, none⟩), .pointer (some ⟨pc, 0, none⟩)])
def CutL (w : World) (pb pm pc gm : Nat) : Prop := pb < w.heap.size ∧ pm < w.heap.size ∧ pc < w.heap.size ∧ gm < w.heap.size
theorem CutE.below {w w' : World} {pb pm pc gm k : Nat} {mk : Int} (h : CutE w pb pm pc gm k mk) (hl : CutL w pb pm pc gm) (hb : Below w.heap.size w w') : CutE w' pb pm pc gm k mk := by
  obtain ⟨h1, h2, h3, h4⟩ := h
  obtain ⟨l1, l2, l3, l4⟩ := hl
  exact ⟨by rw [hb.cell (p := ⟨pb, 0, none⟩) l1]; exact h1, by rw [hb.cell (p := ⟨pm, 0, none⟩) l2]; exact h2, by rw [hb.cell (p := ⟨gm, k, none⟩) l4]; exact h3, by rw [hb.cell (p := ⟨pc, 0, none⟩) l3]; exact h4⟩
theorem CutL.below {w w' : World} {pb pm pc gm : Nat} (h : CutL w pb pm pc gm) (hb : Below w.heap.size w w') : CutL w' pb pm pc gm := by
  have := hb.size
  obtain ⟨l1, l2, l3, l4⟩ := h
  exact ⟨by omega, by omega, by omega, by omega⟩
/-- roads that stand in a part of the heap, kept while others are written -/
def Mid (w : World) (H1 H2 : Nat) (A : Option Addr) (n c : Nat) (vs : List Value) (ls : List (List (Int × Int))) : Prop :=
  w.ownsRow H1 22 1 (.slice A n c) n vs ∧ OwnSls w H1 vs ls ∧ (∀ g, (Value.slice A n c).ownBlock = some g → g < H2) ∧ H2 ≤ w.heap.size
theorem Mid.below {w w' : World} {H1 H2 n c : Nat} {A : Option Addr} {vs : List Value} {ls : List (List (Int × Int))} (h : Mid w H1 H2 A n c vs ls) (hb : Below w.heap.size w w') : Mid w' H1 H2 A n c vs ls :=
  ⟨own_below h.1 hb (Nat.le_refl _), h.2.1.below hb, h.2.2.1, Nat.le_trans h.2.2.2 hb.size⟩
theorem Mid.kept {w w' : World} {H1 H2 n c b m : Nat} {A : Option Addr} {v : Value} {vs us : List Value} {ls : List (List (Int × Int))} (h : Mid w H1 H2 A n c vs ls) (ho : w.ownsRow b 22 1 v m us) (hg : w.grownBy w' v.ownBlock) (hne : ∀ g, v.ownBlock = some g → g < H1 ∨ H2 ≤ g) : Mid w' H1 H2 A n c vs ls :=
  ⟨own_kept h.1 hg (fun g hv hA => by
    rcases hne g hv with k | k
    · have := h.1.lt g hA
      omega
    · have := h.2.2.1 g hA; omega), h.2.1.kept ho hg, h.2.2.1, Nat.le_trans h.2.2.2 hg.size⟩
theorem RoadsVal.push {w W w4 : World} {ls : List (List (Int × Int))} {r : List (Int × Int)} {o v3 v4 : Value} {n m : Nat} {vs : List Value} (ho : W.ownsRow w.heap.size 22 1 o n vs) (hs : OwnSls W w.heap.size vs ls) (hb : Below w.heap.size w W)
    (h3 : W.ownsRow w.heap.size 25 2 v3 m (rngs r)) (h4 : w4.ownsRow w.heap.size 22 1 v4 (n + 1) (vs ++ [v3])) (hg : W.grownBy w4 o.ownBlock) (hf : ∀ u ∈ vs, ∀ x ∈ [v3], ∀ g, u.ownBlock = some g → x.ownBlock ≠ some g) : RoadsVal w w4 (ls ++ [r]) v4 :=
  .of h4 ((hs.append (OwnSls.one h3) hf).kept ho hg) (grown_own hb ho hg (Nat.le_refl _) hb.size)
/-- the first j of these roads, a byte ahead of each -/
def preT (t : Int) (ls : List (List (Int × Int))) (j : Nat) : List (List (Int × Int)) := (ls.take j).map fun r => (t, t) :: r
theorem preT_zero (t : Int) (ls : List (List (Int × Int))) : preT t ls 0 = [] := rfl
theorem preT_succ (t : Int) (ls : List (List (Int × Int))) {j : Nat} (h : j < ls.length) : preT t ls j ++ [(t, t) :: ls[j]] = preT t ls (j + 1) := by
  unfold preT
  rw [List.take_succ_eq_append_getElem h, List.map_append]
  rfl
theorem preT_all (t : Int) (ls : List (List (Int × Int))) {j : Nat} (h : ls.length ≤ j) : preT t ls j = ls.map fun r => (t, t) :: r := by
  unfold preT
  rw [List.take_of_length_le h]
theorem preT_len (t : Int) (ls : List (List (Int × Int))) (j : Nat) : (preT t ls j).length ≤ ls.length := by
  unfold preT
  rw [List.length_map, List.length_take]; omega
theorem below_two {w w3 : World} {o : Obj} {v0 : Value} {e : TypeId} {k m : Nat} {xs : List Value} (h0 : (w.alloc o).ownsRow w.heap.size e k v0 m xs) (hg : (w.alloc o).grownBy w3 v0.ownBlock) (o2 : Obj) : Below w.heap.size w (w3.alloc o2) := by
  have B3 : Below w.heap.size w w3 := grown_own ((Below.refl _ _).alloc (Nat.le_refl _) _) h0 hg (Nat.le_refl _) (by simp)
  exact B3.alloc B3.size _
theorem own_count {w : World} {base n : Nat} {v : Value} {vs : List Value} {ls : List (List (Int × Int))} (h : w.ownsRow base 22 1 v n vs) (k : OwnSls w base vs ls) : n = ls.length := by
  have h1 := h.1
  have h2 := k.1
  omega
/-- what cut says of fewer digits -/
def CutC (w : World) (pb pm pc gm n : Nat) : Prop := ∀ (wr w' : World), Below w.heap.size w wr → Below wr.heap.size wr w' → ∀ c d : Int, 0 ≤ c → c ≤ d → d < (64 : Int) ^ n →
  Calls Tryz.prog 76 #[.int .i64 c, .int .i64 d, .int .i64 (n : Int), .pointer (some ⟨pb, 0, none⟩), .pointer (some ⟨pm, 0, none⟩), .pointer (some ⟨pc, 0, none⟩)] w' fun e w1 =>
    ∃ A m k vs ls, e = .returned (.slice A m k) ∧ Hid (RC ls (ENum 64 128 128 (n - 1) c d) n (d - c + 1)) ∧ Hid (Mid w1 wr.heap.size w1.heap.size A m k vs ls) ∧ Hid (Below wr.heap.size wr w1)
theorem CutC.of {w : World} {pb pm pc gm n : Nat} (h : ∀ (w' : World), Below w.heap.size w w' → ∀ c d : Int, 0 ≤ c → c ≤ d → d < (64 : Int) ^ n →
    Calls Tryz.prog 76 #[.int .i64 c, .int .i64 d, .int .i64 (n : Int), .pointer (some ⟨pb, 0, none⟩), .pointer (some ⟨pm, 0, none⟩), .pointer (some ⟨pc, 0, none⟩)] w' (RoadsP w' fun ls => RC ls (ENum 64 128 128 (n - 1) c d) n (d - c + 1))) : CutC w pb pm pc gm n := by
  intro wr w' h1 h2 c d hc hcd hd
  refine (h w' (h1.trans (h2.mono h1.size)) c d hc hcd hd).mono ?_
  rintro e w1 ⟨ls, hp, A, m, k, vs, rfl, _, _, k1, k2, k3⟩
  refine ⟨A, m, k, vs, ls, rfl, hp, Lib.hid ⟨own_mono k1.out h2.size, k2.out.mono h2.size, fun g hg => ?_, Nat.le_refl _⟩, Lib.hid (h2.trans (k3.mono h2.size))⟩
  rcases k1.out.2 with ⟨e1, _⟩ | ⟨g1, cap, cur, e1, _, hh, _⟩
  · cases e1; simp [Value.ownBlock] at hg
  · injection e1 with e1
    subst e1
    simp [Value.ownBlock] at hg
    subst hg
    exact (Array.getElem?_eq_some_iff.1 hh).1
set_option maxRecDepth 100000 in
set_option maxHeartbeats 1000000 in
theorem cutL_1 (a b : Int) (B : Nat) (mk : Int) (pb pm pc gm : Nat) (w : World) (h : CutE w pb pm pc gm B mk) (hB : 2 ≤ B ∧ B ≤ 4) (ha : 0 ≤ a ∧ a ≤ b) (hb : b ≤ 63) :
    Calls Tryz.prog 76 #[.int .i64 a, .int .i64 b, .int .i64 1, .pointer (some ⟨pb, 0, none⟩), .pointer (some ⟨pm, 0, none⟩), .pointer (some ⟨pc, 0, none⟩)] w (RoadsP w fun ls => RC ls (ENum 64 128 128 0 a b) 1 (b - a + 1)) := by
  obtain ⟨c1, c2, c3, c4⟩ := h
  obtain ⟨a0, a1⟩ := ha
  obtain ⟨B0, B1⟩ := hB
  have H := Lib.hid (road_one w (128 + a) (128 + b))
  have HC := Lib.hid (RC.one 64 128 128 (a := a) (b := b) (by omega) (by omega) (by omega))
  have hne : ¬ (1 : Int) = (B : Int) := by omega
  go_enter Tryz.func76, Tryz.ntmps76
  go_wp2
  go_ret
  exact ⟨_, HC, H.out⟩
end Go.Proofs.YtpdcbddofekbcaaGreat
