/- alone: walked. -/
import Derived.Test.YtbekjfoefjnidaaFsI
import Derived.Laws.ResultCell
import Derived.Deep.RegionWith
import Derived.Shelf.Abstract
namespace Go.Proofs.Ytbekjfoefjnidaa
open Go.RowKit
set_option linter.unusedVariables false
def Z38 : Obj := .cells #[.int .i64 0, .slice none 0 0, .slice none 0 0, .int .i64 0, .int .i64 0, .int .i64 0, .int .i64 0, .bool false, .int .i64 0, .slice none 0 0] 38
def aloneW (w : World) (d : ND) : World := patB ((d.box w).alloc Z38) d 0 none 0 0
theorem aloneW_below (w : World) (d : ND) : Below w.heap.size w (aloneW w d) := by
  unfold aloneW patB ND.box; go_grown
theorem aloneW_size (w : World) (d : ND) : (aloneW w d).heap.size = w.heap.size + 1 + 1 + 1 := by unfold aloneW patB ND.box; simp
theorem aloneW_box (w : World) (d : ND) : BoxN (aloneW w d) w.heap.size d :=
  ((BoxN.new w d).next ((Below.refl _ _).alloc (Nat.le_refl _) Z38)).next (by unfold aloneW; exact patB_below _ _ _ _ _ _)
theorem aloneW_res (w : World) (d : ND) : (aloneW w d).heap[w.heap.size + 1]? = some Z38 := by
  have h : (d.box w).heap.size = w.heap.size + 1 := ND.box_size w d
  unfold aloneW patB
  rw [Below.heap_alloc _ _ _ (by simp; omega), ← h]
  exact heap_alloc_new _ _
theorem aloneW_pat (w : World) (d : ND) : GrAt (w.heap.size + 1 + 1) (w.heap.size + 1 + 1) d (aloneW w d) 0 := by
  have h : ((d.box w).alloc Z38).heap.size = w.heap.size + 1 + 1 := by simp [ND.box_size]
  have hp := PatN.new ((d.box w).alloc Z38) d 0 none 0 0
  rw [h] at hp
  refine ⟨Nat.le_refl _, hp, ?_⟩
  have hh : (aloneW w d).heap[w.heap.size + 1 + 1]? = some (.cells #[.int .i64 d.kind, .slice d.sA d.sn d.sc, .slice d.kA d.kn d.kc, .int .i64 d.num, .int .i64 d.least, .int .i64 d.most, .int .i64 d.way, .bool d.fold, .int .i64 0, .slice none 0 0] 38) := by
    rw [← h]; exact heap_alloc_new _ _
  unfold World.frozen?
  rw [hh]; rfl
theorem res38 {w : World} {b : Nat} (h : w.heap[b]? = some Z38) : (∀ o, w.frozen? ⟨b, o, none⟩ = false) ∧ w.cell? ⟨b, 0, none⟩ = some (.int .i64 0) ∧ w.cell? ⟨b, 1, none⟩ = some (.slice none 0 0) ∧ w.cell? ⟨b, 2, none⟩ = some (.slice none 0 0) ∧ w.cell? ⟨b, 3, none⟩ = some (.int .i64 0) ∧ w.cell? ⟨b, 4, none⟩ = some (.int .i64 0) ∧ w.cell? ⟨b, 5, none⟩ = some (.int .i64 0) ∧ w.cell? ⟨b, 6, none⟩ = some (.int .i64 0) ∧ w.cell? ⟨b, 7, none⟩ = some (.bool false) ∧ w.cell? ⟨b, 8, none⟩ = some (.int .i64 0) ∧ w.cell? ⟨b, 9, none⟩ = some (.slice none 0 0) := by
  refine ⟨fun o => by unfold World.frozen?; rw [h]; rfl, ?_, ?_, ?_, ?_, ?_, ?_, ?_, ?_, ?_, ?_⟩ <;> (rw [cell_of_row w b _ _ 38 (0, 0) h]; rfl)
set_option maxRecDepth 100000 in
set_option maxHeartbeats 2000000 in
theorem alone17 (t : Tr) (d : ND) (w : World) (hn : NodeAt w w.heap.size t d) :
    Calls Try.prog 17 #[d.agg] w fun e w' => ∃ G : Int, e = .returned (.tuple #[patV d G none 0 0, .int .i64 (aloneE t)]) ∧ Below w.heap.size w w' := by
  have HN := Lib.hid hn
  have HB := Lib.hid (aloneW_below w d)
  have HS := Lib.hid (aloneW_size w d)
  have HX := Lib.hid (aloneW_box w d)
  have HZ := Lib.hid (aloneW_res w d)
  have HG := Lib.hid (aloneW_pat w d)
  have C31 := Lib.hid (nodes31 t d (aloneW w d) (hn.next (aloneW_below w d)))
  have EG : ∀ args w, (callFunc 32 args).run Try.prog w = .ok (.enter 32 args) w := enters_of Try.func32 (by kernel_rfl) rfl
  have C19 := Lib.hid (fun (w1 : World) (h : Below (aloneW w d).heap.size (aloneW w d) w1) (hs : sizeT t ≤ 1000) => walk19 (fun _ => true) (fun x => x.kind == 11) 32 #[.pointer (some ⟨w.heap.size + 1 + 1, 0, none⟩)] (GrAt (w.heap.size + 1 + 1) (w.heap.size + 1 + 1) d) (w.heap.size + 1 + 1) (some (w.heap.size + 1 + 1)) EG (fun _ _ _ h hb => h.next hb)
    (fun t' d' w' n hB hn hj n0 n1 => clo32 _ _ d t' d' w' n hB hn hj n0 n1) t d w1 0 (by have := h.size; rw [aloneW_size] at this; omega) (fun p e => by injection e with e; have := h.size; rw [aloneW_size] at this; omega)
    (NodeAt.map (fun r => (r.below (below_next (aloneW_below w d) h) (Nat.le_refl _)).more (by omega)) _ _ hn) ((aloneW_pat w d).next h) (by decide) (by omega))
  have C27 := Lib.hid (fun (G : Int) (w2 : World) (h : Below w.heap.size w w2) => check27_none t d G none 0 w2 (NodeAt.map (fun r => (r.below h (Nat.le_refl _)).more h.size) _ _ hn))
  clear hn EG
  obtain ⟨dk, dsA, dsn, dsc, dkA, dkn, dkc, dnum, dleast, dmost, dway, dfold⟩ := d
  unfold ND.agg at C31 C19 ⊢
  unfold patV at C27 ⊢
  unfold aloneW patB ND.box at *
  simp only at *
  cases hg : tooG t
  case true =>
    have HA := Lib.hid (show aloneE t = 2 from treeE_many hg)
    rw [hg] at C31
    clear hg
    go_enter Try.func17, Try.ntmps17
    go_wp2_with (go_at_call 31; refine C31.out.mono ?_; rintro e w1 ⟨he, hb⟩; simp only [if_true] at he; subst he; have hz := hb.block (w.heap.size + 1) (by rw [HS.out]; omega); rw [HZ.out] at hz; obtain ⟨rf, r0, r1, r2, r3, r4, r5, r6, r7, r8, r9⟩ := res38 hz; clear hz; have HB1 := Lib.hid (below_next HB.out hb); obtain ⟨⟨z0, z1, z2, z3, z4, z5, z6, z7, z8⟩, z9, z10⟩ := (HG.out.next hb).pat; clear hb)
    (try simp only [Exit.inBlock, Exit.then])
    refine bodyPost_ret (v := .tuple #[.agg #[.int .i64 dk, .slice dsA dsn dsc, .slice dkA dkn dkc, .int .i64 dnum, .int .i64 dleast, .int .i64 dmost, .int .i64 dway, .bool dfold, .int .i64 0, .slice none 0 0], .int .i64 2]) ?_ rfl ⟨0, by rw [HA.out], ?_⟩
    · rw [results_cell_tmp rfl]
      go_simp
    · (repeat' (first | (with_reducible exact HB1.out) | (with_reducible refine Below.setCell ?_ (Nat.le_succ _) _)))
  case false =>
    have HA := Lib.hid (show aloneE t = treeE t (grpL (flatT t) : Int) from rfl)
    have HF := Lib.hid ((fine_iff t).2 hg).1
    have HTR := Lib.hid (show ((flatT t).all fun _ => true) = true by simp)
    rw [hg] at C31
    clear hg
    go_enter Try.func17, Try.ntmps17
    go_wp2_with (first
      | (go_at_call 31; refine C31.out.mono ?_; rintro e w1 ⟨he, hb⟩; simp only [Bool.false_eq_true, if_false] at he; subst he; have HW1 := Lib.hid hb; have HB1 := Lib.hid (below_next HB.out hb); have hbx := HX.out.next hb; obtain ⟨x0, x1, x2, x3, x4, x5, x6, x7, x8⟩ := hbx; clear hb)
      | (go_at_call 19; refine (C19.out w1 HW1.out (by have := HF.out; omega)).mono ?_; rintro e w2 ⟨he, hb2, hj2⟩; rw [HTR.out] at he; subst he; have HJ2 := Lib.hid (hj2.out HTR.out); have HW2 := Lib.hid hb2; have hz0 := HW1.out.block (w.heap.size + 1) (by rw [HS.out]; omega); rw [HZ.out] at hz0; have hz := hb2.block (w.heap.size + 1) (by omega); rw [hz0] at hz; clear hb2 hj2 hz0 x0 x1 x2 x3 x4 x5 x6 x7 x8))
    obtain ⟨G, hG⟩ : ∃ x : Int, x = 0 + (cntQ (fun x => x.kind == 11) (flatT t) : Nat) := ⟨_, rfl⟩
    rw [← hG] at HJ2
    have HGG := Lib.hid (show (grpL (flatT t) : Int) = G by rw [hG]; unfold cntQ grpL; omega)
    clear hG
    have HB2 := Lib.hid (HB1.out.trans (HW2.out.mono (show w.heap.size ≤ w.heap.size + 1 + 1 by omega)))
    have HP2 := Lib.hid HJ2.out.pat
    have hlt2 : w.heap.size + 1 < w2.heap.size := by have := HP2.out.1.1; omega
    have HZ2 := Lib.hid hz
    clear hz
    obtain ⟨⟨p0, p1, p2, p3, p4, p5, p6, p7, p8⟩, p9, p10⟩ := HP2.out
    have C := Lib.hid (C27.out G w2.drew HB2.out.drew)
    go_region_with (go_at_call 27; refine C.out.mono ?_; rintro e w3 ⟨rfl, hb3⟩; have HB3 := Lib.hid (HB2.out.drew.trans (hb3.mono (show w.heap.size ≤ _ from HB2.out.size))); obtain ⟨⟨q0, q1, q2, q3, q4, q5, q6, q7, q8⟩, q9, q10⟩ := (show PatN w2.drew _ _ _ _ _ _ from HP2.out).below hb3 p0; have hz := hb3.block (w.heap.size + 1) hlt2; rw [show w2.drew.heap[w.heap.size + 1]? = some Z38 from HZ2.out] at hz; obtain ⟨rf, r0, r1, r2, r3, r4, r5, r6, r7, r8, r9⟩ := res38 hz; clear hz hb3)
    all_goals
      (try go_wp2_with fail)
      (try simp only [Exit.inBlock, Exit.then])
      refine bodyPost_ret (v := .tuple #[.agg #[.int .i64 dk, .slice dsA dsn dsc, .slice dkA dkn dkc, .int .i64 dnum, .int .i64 dleast, .int .i64 dmost, .int .i64 dway, .bool dfold, .int .i64 G, .slice none 0 0], .int .i64 (treeE t G)]) ?_ rfl ⟨G, by rw [HA.out, HGG.out], ?_⟩
      · rw [results_cell_tmp rfl]
        go_simp
      · (repeat' (first | (with_reducible exact HB3.out) | (with_reducible refine Below.setCell ?_ (Nat.le_succ _) _)))
end Go.Proofs.Ytbekjfoefjnidaa
