/- A bracket expression of letters, whole: walked. -/
import Derived.Test.YtoilhjpbkbdifaaGreatBrE
set_option linter.unusedVariables false
set_option linter.unusedSimpArgs false
namespace Go.Proofs.YtoilhjpbkbdifaaGreat
open Go.RowKit
theorem Spans.first {l : List Int} {a ee : Int} {D : List (Int × Int)} (h : Spans l a D ee) (hD : D ≠ []) : 48 ≤ ptAt l a ∧ ptAt l a ≠ 94 := by
  cases h with
  | done h => exact absurd rfl hD
  | one p hp hA hq hr => unfold Aln at hA; omega
  | two p q hp hA hm hq hB hpq hr => unfold Aln at hA; omega
set_option maxRecDepth 100000 in
set_option maxHeartbeats 8000000 in
theorem all_plain (HSORT : Hid SortC) {b n c : Nat} {d dp at_ ee : Int} {A : Option Addr} {l : List Int} {w : World} {D : List (Int × Int)} (h : BSt b n c d false dp A l at_ w) (hs : Spans l at_ D ee) (hD : D ≠ []) (hDn : D.length ≤ 300) :
    Calls Tryz.prog 20 #[.pointer (some ⟨b, 0, none⟩)] w (PartOut b n c d false dp A l (ee + 1) (mem D) D.length w) := by
  have hf := hs.first hD
  have N94 := Lib.hid (show saysB l at_ [94] = false by simp [saysB, hf.2])
  have h93 := hs.end_
  have N38 := Lib.hid (show saysB l ee [38, 38] = false by simp [saysB, show ptAt l ee ≠ 38 by omega])
  have hat := pt_hi h.len (show 0 ≤ ptAt l ee by omega)
  obtain ⟨hat0, hat1⟩ := hat
  have hsm := h.small
  have hlt := h.lt
  have HS1 := Lib.hid h
  have HK1 := Lib.hid (Kept.refl b w)
  have HSP := Lib.hid hs
  clear h hs hf h93
  go_enter Tryz.func20, Tryz.ntmps20
  go_upto_region 2 with (go_at_call 25; (with_reducible refine (may_no (cc := 1) (m := 1) (cs := [94]) (HS1.out.next ((Below.refl _ _).alloc (Nat.le_refl _) _)) N94.out (runes_new w [94] #[.int .i32 94] 1 rfl rfl) (by simp) (by decide)).mono ?_); rintro e w2 ⟨rfl, q4, hq4⟩; have hb4 : Below w.heap.size w w2 := (by rw [hq4]; exact below_drewN ((Below.refl _ _).alloc (Nat.le_refl _) _) _); have HS2 := Lib.hid (HS1.out.next hb4); have HK2 := Lib.hid (HK1.out.trans (Kept.of hb4)); clear hq4 hb4)
  go_upto_region 3 with (go_at_call 26; (with_reducible refine (part_true HSORT HS2.out HSP.out hD hDn).mono ?_); rintro e w3 ⟨out, A3, n3, c3, hset, hln, rfl, hown, hS3, hk3⟩; have HS3 := Lib.hid hS3; have HK3 := Lib.hid (HK2.out.trans hk3); have HO3 := Lib.hid (own_mono hown HK2.out.size); have HSET := Lib.hid hset; clear hset hown hS3 hk3)
  obtain ⟨c0, c1, c2, c3', f2⟩ := HS3.out.rd.cells
  go_upto_region 5 with (fail)
  go_loopw [4] (fun v wr => v = .slice A3 n3 c3 ∧ w3 = wr) (fun _ _ => 0)
  case atStart => exact ⟨rfl, rfl⟩
  case round =>
    obtain ⟨rfl, rfl⟩ := hrel
    go_upto_region 10 with (go_at_call 25; (with_reducible refine (may_no (cc := 2) (m := 2) (cs := [38, 38]) (HS3.out.next ((Below.refl _ _).alloc (Nat.le_refl _) _)) N38.out (runes_new w3 [38, 38] #[.int .i32 38, .int .i32 38] 2 rfl rfl) (by simp) (by decide)).mono ?_); rintro e w4 ⟨rfl, q4, hq4⟩; have hb4 : Below w3.heap.size w3 w4 := (by rw [hq4]; exact below_drewN ((Below.refl _ _).alloc (Nat.le_refl _) _) _); have HS4 := Lib.hid (HS3.out.next hb4); have HK4 := Lib.hid (HK3.out.trans (Kept.of hb4)); have HO4 := Lib.hid (own_below HO3.out hb4 (Nat.le_refl _)); clear hq4 hb4)
    obtain ⟨c0, c1, c2, c3', f2⟩ := HS4.out.rd.cells
    have W1 : IntKind.i64.wrap (ee + 1) = ee + 1 := IntWalk.i64_in _ (by omega)
    go_wp2_with fail
    go_ret
    exact ⟨out, A3, n3, c3, HSET.out, hln, rfl, own_keptb HO4.out ((Kept.refl b w4).set 2 _) hlt, HS4.out.moved _ (by omega) (by omega), HK4.out.set 2 _⟩
end Go.Proofs.YtoilhjpbkbdifaaGreat
