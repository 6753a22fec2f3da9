/- Check of show, where no name is: walked. -/
import Derived.Test.YtbekjfoefjnidaaDoorFsE
import Derived.Carry
import Derived.Maps.Own
namespace Go.Proofs.YtbekjfoefjnidaaDoor
open Go.RowKit
set_option linter.unusedVariables false
/-- a pattern as a value -/
def patV (d : ND) (gr : Int) (nA : Option Addr) (nn nc : Nat) : Value := .agg #[.int .i64 d.kind, .slice d.sA d.sn d.sc, .slice d.kA d.kn d.kc, .int .i64 d.num, .int .i64 d.least, .int .i64 d.most, .int .i64 d.way, .bool d.fold, .int .i64 gr, .slice nA nn nc]
/-- a pattern in a box -/
def patB (w : World) (d : ND) (gr : Int) (nA : Option Addr) (nn nc : Nat) : World := w.alloc (.cells #[.int .i64 d.kind, .slice d.sA d.sn d.sc, .slice d.kA d.kn d.kc, .int .i64 d.num, .int .i64 d.least, .int .i64 d.most, .int .i64 d.way, .bool d.fold, .int .i64 gr, .slice nA nn nc] 28)
theorem patB_below (w : World) (d : ND) (gr : Int) (nA : Option Addr) (nn nc : Nat) : Below w.heap.size w (patB w d gr nA nn nc) := by unfold patB; go_grown
def PatN (w : World) (b : Nat) (d : ND) (gr : Int) (nA : Option Addr) (nn nc : Nat) : Prop := BoxN w b d ∧ w.cell? ⟨b, 8, none⟩ = some (.int .i64 gr) ∧ w.cell? ⟨b, 9, none⟩ = some (.slice nA nn nc)
theorem PatN.new (w : World) (d : ND) (gr : Int) (nA : Option Addr) (nn nc : Nat) : PatN (patB w d gr nA nn nc) w.heap.size d gr nA nn nc := by
  unfold PatN BoxN patB
  refine ⟨⟨by simp, ?_, ?_, ?_, ?_, ?_, ?_, ?_, ?_⟩, ?_, ?_⟩ <;> (rw [cell_of_row _ _ _ _ 28 (0, 0) (heap_alloc_new w _)]; rfl)
theorem PatN.below {w w' : World} {b B : Nat} {d : ND} {gr : Int} {nA : Option Addr} {nn nc : Nat} (h : PatN w b d gr nA nn nc) (hb : Below B w w') (hB : b < B) : PatN w' b d gr nA nn nc := by
  obtain ⟨⟨h0, h1, h2, h3, h4, h5, h6, h7, h8⟩, h9, h10⟩ := h
  have hc := fun j => hb.cell (p := ⟨b, j, none⟩) hB
  exact ⟨⟨Nat.lt_of_lt_of_le h0 hb.size, by rw [hc]; exact h1, by rw [hc]; exact h2, by rw [hc]; exact h3, by rw [hc]; exact h4, by rw [hc]; exact h5, by rw [hc]; exact h6, by rw [hc]; exact h7, by rw [hc]; exact h8⟩, by rw [hc]; exact h9, by rw [hc]; exact h10⟩
theorem und77 : Tryd.prog.underlying 68 = some (.map (Tryd.prog.mapKeyOf 68) (Tryd.prog.mapElemOf 68)) := by kernel_rfl
theorem und78 : Tryd.prog.underlying 69 = some (.map (Tryd.prog.mapKeyOf 69) (Tryd.prog.mapElemOf 69)) := by kernel_rfl
set_option maxRecDepth 100000 in
set_option maxHeartbeats 2000000 in
theorem names38_none (d : ND) (gr : Int) (nA : Option Addr) (nc : Nat) (w : World) : Calls Tryd.prog 16 #[patV d gr nA 0 nc] w fun e w' => e = .returned (.int .i64 0) ∧ Below w.heap.size w w' := by
  obtain ⟨dk, dsA, dsn, dsc, dkA, dkn, dkc, dnum, dleast, dmost, dway, dfold⟩ := d
  unfold patV
  simp only
  have hmm := @run_makeMap Tryd.prog
  have HP := Lib.hid (PatN.new w ⟨dk, dsA, dsn, dsc, dkA, dkn, dkc, dnum, dleast, dmost, dway, dfold⟩ gr nA 0 nc)
  have HB := Lib.hid (patB_below w ⟨dk, dsA, dsn, dsc, dkA, dkn, dkc, dnum, dleast, dmost, dway, dfold⟩ gr nA 0 nc)
  unfold patB at HP HB
  simp only at HP HB
  go_enter Tryd.func16, Tryd.ntmps16
  go_wp2_with fail
  generalize hW0 : w.alloc (.cells #[.int .i64 dk, .slice dsA dsn dsc, .slice dkA dkn dkc, .int .i64 dnum, .int .i64 dleast, .int .i64 dmost, .int .i64 dway, .bool dfold, .int .i64 gr, .slice nA 0 nc] 28) = W0 at *
  clear hW0
  have z9 := HP.out.2.2
  have hlt := HP.out.1.1
  have za : ((W0.alloc (.map #[] 0)).alloc (.map #[] 0)).cell? ⟨w.heap.size, 9, none⟩ = some (.slice nA 0 nc) := by rw [World.cell?_alloc_lt _ _ _ (by simp; omega), World.cell?_alloc_lt _ _ _ hlt]; exact z9
  have zm1 : ((W0.alloc (.map #[] 0)).alloc (.map #[] 0)).heap[W0.heap.size]? = some (.map #[] 0) := by rw [Below.heap_alloc _ _ _ (by simp)]; exact heap_alloc_new W0 _
  have zm2 : ((W0.alloc (.map #[] 0)).alloc (.map #[] 0)).heap[W0.heap.size + 1]? = some (.map #[] 0) := by have := heap_alloc_new (W0.alloc (.map #[] 0)) (.map #[] 0); simpa using this
  have HB2 := Lib.hid (show Below w.heap.size w ((W0.alloc (.map #[] 0)).alloc (.map #[] 0)) from (HB.out.alloc (by omega) _).alloc (by simp; omega) _)
  go_loopw [15] (fun i wr => i = .int .i64 0 ∧ W0 = wr) (fun _ _ => 0)
  case atStart => exact ⟨rfl, rfl⟩
  case round =>
    obtain ⟨rfl, rfl⟩ := hrel
    go_wp2_with fail
    go_loopw [33] (fun i w2 => i = .int .i64 0 ∧ W0 = w2) (fun _ _ => 0)
    case atStart => exact ⟨rfl, rfl⟩
    case round =>
      obtain ⟨rfl, rfl⟩ := hrel
      go_wp2_with fail
      generalize hW2 : (W0.alloc (.map #[] 0)).alloc (.map #[] 0) = W2 at *
      clear hW2
      have hl1 : (Builtin.len_ #[68] 3 #[.map (some W0.heap.size)]).run Tryd.prog W2 = .ok (.int .i64 0) W2 := run_len_map W2 68 3 _ #[] 0 und77 zm1
      have hl2 : (Builtin.len_ #[69] 3 #[.map (some (W0.heap.size + 1))]).run Tryd.prog W2 = .ok (.int .i64 0) W2 := run_len_map W2 69 3 _ #[] 0 und78 zm2
      go_loopw [47] (fun i w2 => i = .int .i64 0 ∧ W2 = w2) (fun _ _ => 0)
      case atStart => exact ⟨rfl, rfl⟩
      case round =>
        obtain ⟨rfl, rfl⟩ := hrel
        go_wp2_with fail
        go_loopw [11] (fun i w2 => i = .int .i64 1 ∧ W2 = w2) (fun _ _ => 0)
        case atStart => exact ⟨rfl, rfl⟩
        case round =>
          obtain ⟨rfl, rfl⟩ := hrel
          go_wp2_with fail
          go_ret
          exact ⟨rfl, HB2.out⟩
end Go.Proofs.YtbekjfoefjnidaaDoor
