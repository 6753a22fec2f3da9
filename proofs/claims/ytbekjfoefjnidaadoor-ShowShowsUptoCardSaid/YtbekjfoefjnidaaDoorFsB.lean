/- kids, fields of the checker: walked. -/
import Derived.Test.YtbekjfoefjnidaaDoorFsA
import Derived.Test.YtbekjfoefjnidaaDoorFactP
import Derived.Test.YtbekjfoefjnidaaDoorSetB
import Derived.Deep.CutRange
namespace Go.Proofs.YtbekjfoefjnidaaDoor
open Go.RowKit
set_option linter.unusedVariables false
def kidsOk (k n : Int) : Bool := if k = 9 ∨ k = 10 then decide (2 ≤ n) else if 11 ≤ k ∧ k ≤ 17 then n == 1 else n == 0
theorem kidsBad_ok (t : Tr) : kidsBad t = !kidsOk t.kind (t.kids.length : Nat) := by
  unfold kidsBad kidsOk
  split
  · rw [← decide_not]; exact decide_eq_decide.2 (by omega)
  · split <;> (rw [Bool.eq_iff_iff]; simp; try omega)
set_option maxRecDepth 100000 in
set_option maxHeartbeats 2000000 in
theorem kids46 (k n : Int) (w : World) : Calls Tryd.prog 26 #[.int .i64 k, .int .i64 n] w fun e w' => e = .returned (.bool (kidsOk k n)) ∧ w = w' := by
  go_enter Tryd.func26, Tryd.ntmps26
  go_wp2_with fail
  all_goals go_ret
  all_goals refine ⟨congrArg (fun b => Ending.returned (Value.bool b)) ?_, rfl⟩
  all_goals (simp_all [kidsOk] <;> (try omega))
def f1 (d : ND) : Bool := (d.kind != 2 && decide (0 < d.sn)) || (d.kind != 12 && (d.least != 0 || d.most != 0 || d.way != 0))
def f2 (d : ND) : Bool := (d.kind != 11 && d.kind != 18 && d.num != 0) || (d.kind != 18 && d.fold)
theorem fieldsBad_f {w : World} {B : Nat} {t : Tr} {d : ND} {ds : List ND} (h : NodeOf w B t d ds) : fieldsBad t = (f1 d || f2 d || t.kids.any fun x => kidBad d.kind x.kind) := by
  unfold fieldsBad f1 f2
  rw [h.kind, h.least, h.most, h.way, h.num, h.fold, ← h.snum]
  simp only [Bool.or_assoc]
set_option maxRecDepth 100000 in
set_option maxHeartbeats 2000000 in
theorem fields47 (t : Tr) (d : ND) (w : World) (cp : Option Addr) (hn : NodeAt w w.heap.size t d) :
    Calls Tryd.prog 27 #[.pointer cp, d.agg] w fun e w' => e = .returned (.bool (!fieldsBad t)) ∧ Below w.heap.size w w' := by
  obtain ⟨ds, hn⟩ := hn.of
  have HN := Lib.hid hn
  have HK := Lib.hid hn.knum
  have HF := Lib.hid (fieldsBad_f hn)
  have HB0 := Lib.hid (ND.box_below w d)
  have HX0 := Lib.hid (BoxN.new w d)
  have HS0 := Lib.hid (ND.box_size w d)
  have hkc := hn.kc1
  have hkm := hn.kc2
  unfold maxLen at hkm
  clear hn
  obtain ⟨g1, hg1⟩ : ∃ x, x = f1 d := ⟨_, rfl⟩
  obtain ⟨g2, hg2⟩ : ∃ x, x = f2 d := ⟨_, rfl⟩
  rw [← hg1, ← hg2] at HF
  have HG1 := Lib.hid hg1
  have HG2 := Lib.hid hg2
  clear hg1 hg2
  obtain ⟨dk, dsA, dsn, dsc, dkA, dkn, dkc, dnum, dleast, dmost, dway, dfold⟩ := d
  unfold ND.agg
  simp only at hkc hkm HK HF
  go_enter Tryd.func27, Tryd.ntmps27
  go_upto_region 1 with (fail)
  go_cut [35] from 7 to 35 (fun z wc => z = .bool g1 ∧ wc = ND.box w ⟨dk, dsA, dsn, dsc, dkA, dkn, dkc, dnum, dleast, dmost, dway, dfold⟩)
  case first =>
    go_wp2_with fail
    all_goals ((try subst dk); (try subst dleast); (try subst dmost); (try subst dway); (try subst dnum); (try subst dsn); go_meet; refine ⟨congrArg Value.bool ?_, rfl⟩; rw [HG1.out]; simp_all [f1] <;> (try omega))
  case rest =>
    obtain ⟨rfl, rfl⟩ := hcut
    unfold ND.box at HB0 HX0 HS0 ⊢
    simp only at HB0 HX0 HS0 ⊢
    clear HG1
    cases g1
    case true =>
      go_wp2_with fail
      go_ret
      exact ⟨by rw [HF.out]; rfl, HB0.out⟩
    case false =>
      go_upto_region 3 with (fail)
      go_cut [57] from 36 to 57 (fun z wc => z = .bool g2 ∧ wc = ND.box w ⟨dk, dsA, dsn, dsc, dkA, dkn, dkc, dnum, dleast, dmost, dway, dfold⟩)
      case first =>
        go_wp2_with fail
        all_goals ((try subst dk); (try subst dleast); (try subst dmost); (try subst dway); (try subst dnum); (try subst dsn); go_meet; refine ⟨congrArg Value.bool ?_, rfl⟩; rw [HG2.out]; simp_all [f2] <;> (try omega))
      case rest =>
        obtain ⟨rfl, rfl⟩ := hcut
        unfold ND.box
        simp only
        clear HG2
        cases g2
        case true =>
          go_wp2_with fail
          go_ret
          exact ⟨by rw [HF.out]; rfl, HB0.out⟩
        case false =>
          go_wp2_with fail
          generalize hW0 : w.alloc (.cells #[.int .i64 dk, .slice dsA dsn dsc, .slice dkA dkn dkc, .int .i64 dnum, .int .i64 dleast, .int .i64 dmost, .int .i64 dway, .bool dfold] 25) = W0 at *
          clear hW0
          go_loopw [61] (fun i wr => ∃ (k : Nat), k ≤ dkn ∧ i = .int .i64 k ∧ Hid (((t.kids.take k).any fun x => kidBad dk x.kind) = false) ∧ Below W0.heap.size W0 wr) (fun i _ => dkn - (intOf i).toNat)
          case atStart => exact ⟨0, Nat.zero_le _, rfl, Lib.hid rfl, Below.refl _ _⟩
          case round =>
            obtain ⟨k, hk, rfl, HM, hB⟩ := hrel
            have HBW := Lib.hid (HB0.out.trans (hB.mono HB0.out.size))
            have HX := HX0.out.next hB
            obtain ⟨x0, x1, _, _, _, _, _, _, _⟩ := HX
            by_cases hlt : k < dkn
            · obtain ⟨b1, off1, hl1, hA, hb1, c0, c1, c2, c3, c4, c5, c6, c7⟩ := (HN.out.kids.below HBW.out (Nat.le_refl _)).node_at hlt
              have hkl : k < t.kids.length := by rw [HK.out.1]; exact hlt
              have HKK := Lib.hid (HN.out.each.at k hkl hl1).of
              have HT := Lib.hid (List.any_eq_false.1 HM.out)
              have HTK := Lib.hid (take_snoc' t.kids k hkl)
              obtain ⟨kid, hkid⟩ : ∃ x, x = t.kids[k] := ⟨_, rfl⟩
              have HMEM := Lib.hid (show kid ∈ t.kids by rw [hkid]; exact List.getElem_mem hkl)
              rw [← hkid] at HKK HTK
              clear hkid
              obtain ⟨e, he⟩ : ∃ x, x = ds[k] := ⟨_, rfl⟩
              rw [← he] at c0 c1 c2 c3 c4 c5 c6 c7 HKK
              clear he
              have HKE := Lib.hid (show e.kind = kid.kind from HKK.out.elim fun _ h => h.kind)
              obtain ⟨ek, esA, esn, esc, ekA, ekn, ekc, enum, eleast, emost, eway, efold⟩ := e
              simp only at hA c0 c1 c2 c3 c4 c5 c6 c7 HKE
              have HAA := Lib.hid hA
              subst hA
              have k2 : (k : Int) < (dkn : Int) := by omega
              have hsz := hB.size
              have hsz0 := HB0.out.size
              obtain ⟨g3, hg3⟩ : ∃ x, x = kidBad dk ek := ⟨_, rfl⟩
              have HG3 := Lib.hid hg3
              clear hg3
              have HB1 := Lib.hid (hB.trans ((ND.box_below wr ⟨ek, esA, esn, esc, ekA, ekn, ekc, enum, eleast, emost, eway, efold⟩).mono hsz))
              have hwne : w.heap.size ≠ wr.heap.size := by omega
              go_upto_region 8 with (fail)
              go_cut [87] from 65 to 87 (fun z wc => z = .bool g3 ∧ wc = ND.box wr ⟨ek, esA, esn, esc, ekA, ekn, ekc, enum, eleast, emost, eway, efold⟩)
              case first =>
                clear HKE
                go_wp2_with fail
                all_goals ((try subst dk); (try subst ek); go_meet; refine ⟨congrArg Value.bool ?_, rfl⟩; rw [HG3.out]; simp_all [kidBad] <;> (try omega))
              case rest =>
                obtain ⟨rfl, rfl⟩ := hcut
                cases g3
                case true =>
                  have HR := Lib.hid (show (t.kids.any fun x => kidBad dk x.kind) = true from List.any_eq_true.2 ⟨kid, HMEM.out, by rw [← HKE.out]; exact HG3.out.symm⟩)
                  go_wp2_with fail
                  go_ret
                  exact ⟨by rw [HF.out, HR.out]; rfl, HB0.out.trans (HB1.out.mono hsz0)⟩
                case false =>
                  go_wp2_with fail
                  go_roundw
                  case rel => exact ⟨k + 1, by omega, by go_num, Lib.hid (by rw [HTK.out, List.any_append, HM.out]; simp only [List.any_cons, List.any_nil, Bool.or_false, Bool.false_or]; rw [← HKE.out]; exact HG3.out.symm), HB1.out⟩
                  case measure => simp [intOf]; omega
            · obtain rfl : k = dkn := by omega
              have HR := Lib.hid (show (t.kids.any fun x => kidBad dk x.kind) = false by rw [← HM.out, List.take_of_length_le (by rw [HK.out.1]; exact Nat.le_refl _)])
              go_wp2
              go_ret
              exact ⟨by rw [HF.out, HR.out]; rfl, HBW.out⟩
end Go.Proofs.YtbekjfoefjnidaaDoor
