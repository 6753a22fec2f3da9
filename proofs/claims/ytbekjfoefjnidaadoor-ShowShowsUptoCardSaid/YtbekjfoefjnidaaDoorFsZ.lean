/- rightNode of the reference, by kinds: walked. -/
import Derived.Test.YtbekjfoefjnidaaDoorFsX
namespace Go.Proofs.YtbekjfoefjnidaaDoor
open Go.RowKit
set_option linter.unusedVariables false
set_option maxRecDepth 100000 in
set_option maxHeartbeats 4000000 in
theorem right_grp (t : Tr) (d : ND) (w : World) (hn : NodeAt w w.heap.size t d) (hk : 1 ≤ t.kind ∧ t.kind ≤ 18) (hkk : t.kind = 11) :
    Calls Tryd.prog 18 #[d.agg] w fun e w' => e = .returned (.int .i64 (rightE t)) ∧ Below w.heap.size w w' := by
  obtain ⟨ds, hn⟩ := hn.of
  have HN := Lib.hid hn
  have HK := Lib.hid hn.knum
  have HB0 := Lib.hid (ND.box_below w d)
  have HX0 := Lib.hid (BoxN.new w d)
  have HKD := Lib.hid hn.kind
  have HLM := Lib.hid (And.intro hn.least (And.intro hn.most hn.way))
  obtain ⟨kb, a1, a2, a3, a4, hp⟩ : ∃ kb a1 a2 a3 a4, Parts t d kb a1 a2 a3 a4 := ⟨_, _, _, _, _, ⟨rfl, rfl, rfl, rfl, rfl⟩⟩
  have HALL := Lib.hid (hp.all hn)
  have HKL := Lib.hid (show kb = (decide ((d.kn : Int) < kLo d.kind) || (decide (0 ≤ kHi d.kind) && decide (kHi d.kind < (d.kn : Int)))) by rw [hp.kb, kids_lohi, hn.kind, hn.knum.1])
  have hkc := hn.kc1
  have hkm := hn.kc2
  unfold maxLen at hkm
  have HSC := Lib.hid (And.intro hn.sc1 hn.sc2)
  have HA1 := Lib.hid hp.a1
  have HA2 := Lib.hid hp.a2
  have HA3 := Lib.hid hp.a3
  have HA4 := Lib.hid hp.a4
  rw [← hn.kind] at hk
  rw [← hn.kind] at hkk
  clear hn hp
  obtain ⟨dk, dsA, dsn, dsc, dkA, dkn, dkc, dnum, dleast, dmost, dway, dfold⟩ := d
  unfold ND.agg
  simp only at hkc hkm hk HK HKD HLM HKL HSC HA1 HA2 HA3 HA4 hkk
  unfold ND.box at HB0 HX0
  simp only at HB0 HX0
  have HR := Lib.hid (show rightE t = if (kb || a1 || a2 || a3 || a4 || t.kids.any fun x => kidBad dk x.kind) = true then 1 else if dk = 2 then chk t.set else if dk = 12 then repE t else 0 by
    unfold rightE; rw [HALL.out, ← HKD.out, if_neg (by omega)])
  have k1 : ¬ dk < 1 := by omega
  have k2 : ¬ 18 < dk := by omega
  clear hk HALL HKD
  subst hkk
  obtain ⟨lo, hlo⟩ : ∃ x, x = kLo 11 := ⟨_, rfl⟩
  obtain ⟨hi, hhi⟩ : ∃ x, x = kHi 11 := ⟨_, rfl⟩
  have C44 := Lib.hid (fun w => kidsOf44 11 w)
  rw [← hlo, ← hhi] at C44 HKL
  have HLH := Lib.hid (And.intro hlo hhi)
  clear hlo hhi
  obtain ⟨x0, x1, x2, x3, x4, x5, x6, x7, x8⟩ := HX0.out
  go_enter Tryd.func18, Tryd.ntmps18
  go_upto_region 4 with (go_at_call 30; refine (C44.out _).mono ?_; rintro e w' ⟨rfl, rfl⟩)
  go_cut [5] from 22 to 37 (fun z wc => z = .bool kb ∧ wc = w.alloc (.cells #[.int .i64 11, .slice dsA dsn dsc, .slice dkA dkn dkc, .int .i64 dnum, .int .i64 dleast, .int .i64 dmost, .int .i64 dway, .bool dfold] 25))
  case first =>
    go_wp2_with fail
    all_goals (go_meet; refine ⟨congrArg Value.bool ?_, rfl⟩; rw [HKL.out]; clear HR; simp_all <;> (try omega))
  case rest =>
    obtain ⟨rfl, rfl⟩ := hcut
    have Za3 := Lib.hid (show a3 = false by rw [HA3.out]; simp)
    go_upto_region 6 with (fail)
    obtain ⟨g1, hg1⟩ : ∃ g, g = (kb || a1) := ⟨_, rfl⟩
    have HG1 := Lib.hid hg1
    clear hg1
    go_cut [5] from 41 to 47 (fun z wc => z = .bool g1 ∧ wc = w.alloc (.cells #[.int .i64 11, .slice dsA dsn dsc, .slice dkA dkn dkc, .int .i64 dnum, .int .i64 dleast, .int .i64 dmost, .int .i64 dway, .bool dfold] 25))
    case first =>
      go_wp2_with fail
      all_goals ((try subst dleast); (try subst dmost); (try subst dway); (try subst dnum); (try subst dsn); go_meet; refine ⟨congrArg Value.bool ?_, rfl⟩; rw [HG1.out, HA1.out]; clear HR; simp_all <;> (try omega))
    case rest =>
      obtain ⟨rfl, rfl⟩ := hcut
      go_upto_region 8 with (fail)
      obtain ⟨g2, hg2⟩ : ∃ g, g = (g1 || a2) := ⟨_, rfl⟩
      have HG2 := Lib.hid hg2
      clear hg2
      go_cut [5] from 51 to 66 (fun z wc => z = .bool g2 ∧ wc = w.alloc (.cells #[.int .i64 11, .slice dsA dsn dsc, .slice dkA dkn dkc, .int .i64 dnum, .int .i64 dleast, .int .i64 dmost, .int .i64 dway, .bool dfold] 25))
      case first =>
        go_wp2_with fail
        all_goals ((try subst dleast); (try subst dmost); (try subst dway); (try subst dnum); (try subst dsn); go_meet; refine ⟨congrArg Value.bool ?_, rfl⟩; rw [HG2.out, HA2.out]; clear HR; simp_all <;> (try omega))
      case rest =>
        obtain ⟨rfl, rfl⟩ := hcut
        go_upto_region 12 with (fail)
        obtain ⟨g3, hg3⟩ : ∃ g, g = (g2 || a4) := ⟨_, rfl⟩
        have HG3 := Lib.hid hg3
        clear hg3
        go_cut [5] from 84 to 88 (fun z wc => z = .bool g3 ∧ wc = w.alloc (.cells #[.int .i64 11, .slice dsA dsn dsc, .slice dkA dkn dkc, .int .i64 dnum, .int .i64 dleast, .int .i64 dmost, .int .i64 dway, .bool dfold] 25))
        case first =>
          go_wp2_with fail
          all_goals ((try subst dleast); (try subst dmost); (try subst dway); (try subst dnum); (try subst dsn); go_meet; refine ⟨congrArg Value.bool ?_, rfl⟩; rw [HG3.out, HA4.out]; clear HR; simp_all <;> (try omega))
        case rest =>
          obtain ⟨rfl, rfl⟩ := hcut
          have HGA := Lib.hid (show (kb || a1 || a2 || a3 || a4) = g3 by rw [HG3.out, HG2.out, HG1.out]; rw [Za3.out]; try simp [Bool.or_assoc])
          rw [HGA.out] at HR
          go_wp2_with fail
          go_loopw [5, 6] (fun v i wr => ∃ (k : Nat), k ≤ dkn ∧ i = .int .i64 k ∧ Hid (v = .bool (g3 || (t.kids.take k).any fun x => kidBad 11 x.kind)) ∧ w.alloc (.cells #[.int .i64 11, .slice dsA dsn dsc, .slice dkA dkn dkc, .int .i64 dnum, .int .i64 dleast, .int .i64 dmost, .int .i64 dway, .bool dfold] 25) = wr) (fun _ i _ => dkn - (intOf i).toNat)
          case atStart => exact ⟨0, Nat.zero_le _, rfl, Lib.hid (by simp), rfl⟩
          case round =>
            obtain ⟨k, hk, rfl, HV, rfl⟩ := hrel
            have hv := HV.out
            subst hv
            clear HV
            by_cases hlt : k < dkn
            · obtain ⟨b1, off1, hl1, hA, hb1, c0, c1, c2, c3, c4, c5, c6, c7⟩ := (HN.out.kids.below HB0.out (Nat.le_refl _)).node_at hlt
              have hkl : k < t.kids.length := by rw [HK.out.1]; exact hlt
              have HKE := Lib.hid (HN.out.each.kind_at hkl hl1).1
              have HTK := Lib.hid (take_snoc' t.kids k hkl)
              obtain ⟨kid, hkid⟩ : ∃ x, x = t.kids[k] := ⟨_, rfl⟩
              rw [← hkid] at HKE HTK
              clear hkid
              obtain ⟨e, he⟩ : ∃ x, x = ds[k] := ⟨_, rfl⟩
              rw [← he] at c0 c1 c2 c3 c4 c5 c6 c7 HKE
              clear he
              obtain ⟨ek, esA, esn, esc, ekA, ekn, ekc, enum, eleast, emost, eway, efold⟩ := e
              simp only at hA c0 c1 c2 c3 c4 c5 c6 c7 HKE
              have HAA := Lib.hid hA
              subst hA
              have k2' : (k : Int) < (dkn : Int) := by omega
              obtain ⟨gg, hgg⟩ : ∃ b, b = (g3 || (t.kids.take k).any fun x => kidBad 11 x.kind) := ⟨_, rfl⟩
              rw [← hgg]
              have HGG := Lib.hid hgg
              clear hgg
              have HANY := Lib.hid (show (g3 || (t.kids.take (k + 1)).any fun x => kidBad 11 x.kind) = (gg || kidBad 11 ek) by rw [HTK.out, List.any_append, ← Bool.or_assoc, ← HGG.out, HKE.out]; simp)
              clear HKE
              cases gg
              all_goals
                go_wp2_with fail
                all_goals
                  (try subst dk)
                  go_roundw
                  case rel =>
                    first
                      | exact ⟨k + 1, by omega, by go_num, Lib.hid (congrArg Value.bool (by rw [HANY.out]; clear HR HTK HGG HGA HANY; first | rfl | (simp_all [kidBad] <;> (try omega)))), by first | rfl | trivial⟩
                      | exact ⟨k + 1, by omega, by omega, Lib.hid (by rw [HANY.out]; simp [kidBad])⟩
                      | exact ⟨k + 1, by omega, by omega, Lib.hid (by simpa using HANY.out)⟩
                      | exact ⟨k + 1, by omega, by omega, Lib.hid (by first | (have h := HANY.out; (try subst ek); simp [kidBad] at h; simpa [kidBad] using h) | (have h := HANY.out; clear HR HTK HGG HGA HANY; simp_all [kidBad]))⟩
                  case measure => simp [intOf]; omega
            · obtain rfl : dkn = k := by omega
              have HZ := Lib.hid (show (t.kids.take dkn) = t.kids from List.take_of_length_le (by rw [HK.out.1]; exact Nat.le_refl _))
              rw [HZ.out]
              obtain ⟨gg, hgg⟩ : ∃ b, b = (g3 || t.kids.any fun x => kidBad 11 x.kind) := ⟨_, rfl⟩
              rw [← hgg] at HR ⊢
              clear hgg
              cases gg
              case true =>
                have HR2 := Lib.hid (show rightE t = 1 by rw [HR.out]; rfl)
                go_wp2_with fail
                go_ret
                rw [HR2.out]
                exact ⟨rfl, HB0.out⟩
              case false =>
                have HR2 := Lib.hid (show rightE t = 0 by rw [HR.out]; rfl)
                go_wp2_with fail
                go_ret
                rw [HR2.out]
                exact ⟨rfl, HB0.out⟩

set_option maxRecDepth 100000 in
set_option maxHeartbeats 4000000 in
theorem right_agn (t : Tr) (d : ND) (w : World) (hn : NodeAt w w.heap.size t d) (hk : 1 ≤ t.kind ∧ t.kind ≤ 18) (hkk : t.kind = 18) :
    Calls Tryd.prog 18 #[d.agg] w fun e w' => e = .returned (.int .i64 (rightE t)) ∧ Below w.heap.size w w' := by
  obtain ⟨ds, hn⟩ := hn.of
  have HN := Lib.hid hn
  have HK := Lib.hid hn.knum
  have HB0 := Lib.hid (ND.box_below w d)
  have HX0 := Lib.hid (BoxN.new w d)
  have HKD := Lib.hid hn.kind
  have HLM := Lib.hid (And.intro hn.least (And.intro hn.most hn.way))
  obtain ⟨kb, a1, a2, a3, a4, hp⟩ : ∃ kb a1 a2 a3 a4, Parts t d kb a1 a2 a3 a4 := ⟨_, _, _, _, _, ⟨rfl, rfl, rfl, rfl, rfl⟩⟩
  have HALL := Lib.hid (hp.all hn)
  have HKL := Lib.hid (show kb = (decide ((d.kn : Int) < kLo d.kind) || (decide (0 ≤ kHi d.kind) && decide (kHi d.kind < (d.kn : Int)))) by rw [hp.kb, kids_lohi, hn.kind, hn.knum.1])
  have hkc := hn.kc1
  have hkm := hn.kc2
  unfold maxLen at hkm
  have HSC := Lib.hid (And.intro hn.sc1 hn.sc2)
  have HA1 := Lib.hid hp.a1
  have HA2 := Lib.hid hp.a2
  have HA3 := Lib.hid hp.a3
  have HA4 := Lib.hid hp.a4
  rw [← hn.kind] at hk
  rw [← hn.kind] at hkk
  clear hn hp
  obtain ⟨dk, dsA, dsn, dsc, dkA, dkn, dkc, dnum, dleast, dmost, dway, dfold⟩ := d
  unfold ND.agg
  simp only at hkc hkm hk HK HKD HLM HKL HSC HA1 HA2 HA3 HA4 hkk
  unfold ND.box at HB0 HX0
  simp only at HB0 HX0
  have HR := Lib.hid (show rightE t = if (kb || a1 || a2 || a3 || a4 || t.kids.any fun x => kidBad dk x.kind) = true then 1 else if dk = 2 then chk t.set else if dk = 12 then repE t else 0 by
    unfold rightE; rw [HALL.out, ← HKD.out, if_neg (by omega)])
  have k1 : ¬ dk < 1 := by omega
  have k2 : ¬ 18 < dk := by omega
  clear hk HALL HKD
  subst hkk
  obtain ⟨lo, hlo⟩ : ∃ x, x = kLo 18 := ⟨_, rfl⟩
  obtain ⟨hi, hhi⟩ : ∃ x, x = kHi 18 := ⟨_, rfl⟩
  have C44 := Lib.hid (fun w => kidsOf44 18 w)
  rw [← hlo, ← hhi] at C44 HKL
  have HLH := Lib.hid (And.intro hlo hhi)
  clear hlo hhi
  obtain ⟨x0, x1, x2, x3, x4, x5, x6, x7, x8⟩ := HX0.out
  go_enter Tryd.func18, Tryd.ntmps18
  go_upto_region 4 with (go_at_call 30; refine (C44.out _).mono ?_; rintro e w' ⟨rfl, rfl⟩)
  go_cut [5] from 22 to 37 (fun z wc => z = .bool kb ∧ wc = w.alloc (.cells #[.int .i64 18, .slice dsA dsn dsc, .slice dkA dkn dkc, .int .i64 dnum, .int .i64 dleast, .int .i64 dmost, .int .i64 dway, .bool dfold] 25))
  case first =>
    go_wp2_with fail
    all_goals (go_meet; refine ⟨congrArg Value.bool ?_, rfl⟩; rw [HKL.out]; clear HR; simp_all <;> (try omega))
  case rest =>
    obtain ⟨rfl, rfl⟩ := hcut
    have Za3 := Lib.hid (show a3 = false by rw [HA3.out]; simp)
    have Za4 := Lib.hid (show a4 = false by rw [HA4.out]; simp)
    go_upto_region 6 with (fail)
    obtain ⟨g1, hg1⟩ : ∃ g, g = (kb || a1) := ⟨_, rfl⟩
    have HG1 := Lib.hid hg1
    clear hg1
    go_cut [5] from 41 to 47 (fun z wc => z = .bool g1 ∧ wc = w.alloc (.cells #[.int .i64 18, .slice dsA dsn dsc, .slice dkA dkn dkc, .int .i64 dnum, .int .i64 dleast, .int .i64 dmost, .int .i64 dway, .bool dfold] 25))
    case first =>
      go_wp2_with fail
      all_goals ((try subst dleast); (try subst dmost); (try subst dway); (try subst dnum); (try subst dsn); go_meet; refine ⟨congrArg Value.bool ?_, rfl⟩; rw [HG1.out, HA1.out]; clear HR; simp_all <;> (try omega))
    case rest =>
      obtain ⟨rfl, rfl⟩ := hcut
      go_upto_region 8 with (fail)
      obtain ⟨g2, hg2⟩ : ∃ g, g = (g1 || a2) := ⟨_, rfl⟩
      have HG2 := Lib.hid hg2
      clear hg2
      go_cut [5] from 51 to 66 (fun z wc => z = .bool g2 ∧ wc = w.alloc (.cells #[.int .i64 18, .slice dsA dsn dsc, .slice dkA dkn dkc, .int .i64 dnum, .int .i64 dleast, .int .i64 dmost, .int .i64 dway, .bool dfold] 25))
      case first =>
        go_wp2_with fail
        all_goals ((try subst dleast); (try subst dmost); (try subst dway); (try subst dnum); (try subst dsn); go_meet; refine ⟨congrArg Value.bool ?_, rfl⟩; rw [HG2.out, HA2.out]; clear HR; simp_all <;> (try omega))
      case rest =>
        obtain ⟨rfl, rfl⟩ := hcut
        have HGA := Lib.hid (show (kb || a1 || a2 || a3 || a4) = g2 by rw [HG2.out, HG1.out]; rw [Za3.out, Za4.out]; try simp [Bool.or_assoc])
        rw [HGA.out] at HR
        go_wp2_with fail
        go_loopw [5, 6] (fun v i wr => ∃ (k : Nat), k ≤ dkn ∧ i = .int .i64 k ∧ Hid (v = .bool (g2 || (t.kids.take k).any fun x => kidBad 18 x.kind)) ∧ w.alloc (.cells #[.int .i64 18, .slice dsA dsn dsc, .slice dkA dkn dkc, .int .i64 dnum, .int .i64 dleast, .int .i64 dmost, .int .i64 dway, .bool dfold] 25) = wr) (fun _ i _ => dkn - (intOf i).toNat)
        case atStart => exact ⟨0, Nat.zero_le _, rfl, Lib.hid (by simp), rfl⟩
        case round =>
          obtain ⟨k, hk, rfl, HV, rfl⟩ := hrel
          have hv := HV.out
          subst hv
          clear HV
          by_cases hlt : k < dkn
          · obtain ⟨b1, off1, hl1, hA, hb1, c0, c1, c2, c3, c4, c5, c6, c7⟩ := (HN.out.kids.below HB0.out (Nat.le_refl _)).node_at hlt
            have hkl : k < t.kids.length := by rw [HK.out.1]; exact hlt
            have HKE := Lib.hid (HN.out.each.kind_at hkl hl1).1
            have HTK := Lib.hid (take_snoc' t.kids k hkl)
            obtain ⟨kid, hkid⟩ : ∃ x, x = t.kids[k] := ⟨_, rfl⟩
            rw [← hkid] at HKE HTK
            clear hkid
            obtain ⟨e, he⟩ : ∃ x, x = ds[k] := ⟨_, rfl⟩
            rw [← he] at c0 c1 c2 c3 c4 c5 c6 c7 HKE
            clear he
            obtain ⟨ek, esA, esn, esc, ekA, ekn, ekc, enum, eleast, emost, eway, efold⟩ := e
            simp only at hA c0 c1 c2 c3 c4 c5 c6 c7 HKE
            have HAA := Lib.hid hA
            subst hA
            have k2' : (k : Int) < (dkn : Int) := by omega
            obtain ⟨gg, hgg⟩ : ∃ b, b = (g2 || (t.kids.take k).any fun x => kidBad 18 x.kind) := ⟨_, rfl⟩
            rw [← hgg]
            have HGG := Lib.hid hgg
            clear hgg
            have HANY := Lib.hid (show (g2 || (t.kids.take (k + 1)).any fun x => kidBad 18 x.kind) = (gg || kidBad 18 ek) by rw [HTK.out, List.any_append, ← Bool.or_assoc, ← HGG.out, HKE.out]; simp)
            clear HKE
            cases gg
            all_goals
              go_wp2_with fail
              all_goals
                (try subst dk)
                go_roundw
                case rel =>
                  first
                    | exact ⟨k + 1, by omega, by go_num, Lib.hid (congrArg Value.bool (by rw [HANY.out]; clear HR HTK HGG HGA HANY; first | rfl | (simp_all [kidBad] <;> (try omega)))), by first | rfl | trivial⟩
                    | exact ⟨k + 1, by omega, by omega, Lib.hid (by rw [HANY.out]; simp [kidBad])⟩
                    | exact ⟨k + 1, by omega, by omega, Lib.hid (by simpa using HANY.out)⟩
                    | exact ⟨k + 1, by omega, by omega, Lib.hid (by first | (have h := HANY.out; (try subst ek); simp [kidBad] at h; simpa [kidBad] using h) | (have h := HANY.out; clear HR HTK HGG HGA HANY; simp_all [kidBad]))⟩
                case measure => simp [intOf]; omega
          · obtain rfl : dkn = k := by omega
            have HZ := Lib.hid (show (t.kids.take dkn) = t.kids from List.take_of_length_le (by rw [HK.out.1]; exact Nat.le_refl _))
            rw [HZ.out]
            obtain ⟨gg, hgg⟩ : ∃ b, b = (g2 || t.kids.any fun x => kidBad 18 x.kind) := ⟨_, rfl⟩
            rw [← hgg] at HR ⊢
            clear hgg
            cases gg
            case true =>
              have HR2 := Lib.hid (show rightE t = 1 by rw [HR.out]; rfl)
              go_wp2_with fail
              go_ret
              rw [HR2.out]
              exact ⟨rfl, HB0.out⟩
            case false =>
              have HR2 := Lib.hid (show rightE t = 0 by rw [HR.out]; rfl)
              go_wp2_with fail
              go_ret
              rw [HR2.out]
              exact ⟨rfl, HB0.out⟩

set_option maxRecDepth 100000 in
set_option maxHeartbeats 4000000 in
theorem right_oth (t : Tr) (d : ND) (w : World) (hn : NodeAt w w.heap.size t d) (hk : 1 ≤ t.kind ∧ t.kind ≤ 18) (n2 : t.kind ≠ 2) (n12 : t.kind ≠ 12) (n11 : t.kind ≠ 11) (n18 : t.kind ≠ 18) :
    Calls Tryd.prog 18 #[d.agg] w fun e w' => e = .returned (.int .i64 (rightE t)) ∧ Below w.heap.size w w' := by
  obtain ⟨ds, hn⟩ := hn.of
  have HN := Lib.hid hn
  have HK := Lib.hid hn.knum
  have HB0 := Lib.hid (ND.box_below w d)
  have HX0 := Lib.hid (BoxN.new w d)
  have HKD := Lib.hid hn.kind
  have HLM := Lib.hid (And.intro hn.least (And.intro hn.most hn.way))
  obtain ⟨kb, a1, a2, a3, a4, hp⟩ : ∃ kb a1 a2 a3 a4, Parts t d kb a1 a2 a3 a4 := ⟨_, _, _, _, _, ⟨rfl, rfl, rfl, rfl, rfl⟩⟩
  have HALL := Lib.hid (hp.all hn)
  have HKL := Lib.hid (show kb = (decide ((d.kn : Int) < kLo d.kind) || (decide (0 ≤ kHi d.kind) && decide (kHi d.kind < (d.kn : Int)))) by rw [hp.kb, kids_lohi, hn.kind, hn.knum.1])
  have hkc := hn.kc1
  have hkm := hn.kc2
  unfold maxLen at hkm
  have HSC := Lib.hid (And.intro hn.sc1 hn.sc2)
  have HA1 := Lib.hid hp.a1
  have HA2 := Lib.hid hp.a2
  have HA3 := Lib.hid hp.a3
  have HA4 := Lib.hid hp.a4
  rw [← hn.kind] at hk
  rw [← hn.kind] at n2 n12 n11 n18
  clear hn hp
  obtain ⟨dk, dsA, dsn, dsc, dkA, dkn, dkc, dnum, dleast, dmost, dway, dfold⟩ := d
  unfold ND.agg
  simp only at hkc hkm hk HK HKD HLM HKL HSC HA1 HA2 HA3 HA4 n2 n12 n11 n18
  unfold ND.box at HB0 HX0
  simp only at HB0 HX0
  have HR := Lib.hid (show rightE t = if (kb || a1 || a2 || a3 || a4 || t.kids.any fun x => kidBad dk x.kind) = true then 1 else if dk = 2 then chk t.set else if dk = 12 then repE t else 0 by
    unfold rightE; rw [HALL.out, ← HKD.out, if_neg (by omega)])
  have k1 : ¬ dk < 1 := by omega
  have k2 : ¬ 18 < dk := by omega
  clear hk HALL HKD
  have e2 : (dk == 2) = false := beq_eq_false_iff_ne.2 n2
  have m2 : (dk != 2) = true := bne_iff_ne.2 n2
  have e12 : (dk == 12) = false := beq_eq_false_iff_ne.2 n12
  have m12 : (dk != 12) = true := bne_iff_ne.2 n12
  have e11 : (dk == 11) = false := beq_eq_false_iff_ne.2 n11
  have m11 : (dk != 11) = true := bne_iff_ne.2 n11
  have e18 : (dk == 18) = false := beq_eq_false_iff_ne.2 n18
  have m18 : (dk != 18) = true := bne_iff_ne.2 n18
  rw [if_neg n2, if_neg n12] at HR
  clear n2 n12 n11 n18
  obtain ⟨lo, hlo⟩ : ∃ x, x = kLo dk := ⟨_, rfl⟩
  obtain ⟨hi, hhi⟩ : ∃ x, x = kHi dk := ⟨_, rfl⟩
  have C44 := Lib.hid (fun w => kidsOf44 dk w)
  rw [← hlo, ← hhi] at C44 HKL
  have HLH := Lib.hid (And.intro hlo hhi)
  clear hlo hhi
  obtain ⟨x0, x1, x2, x3, x4, x5, x6, x7, x8⟩ := HX0.out
  go_enter Tryd.func18, Tryd.ntmps18
  go_upto_region 4 with (go_at_call 30; refine (C44.out _).mono ?_; rintro e w' ⟨rfl, rfl⟩)
  go_cut [5] from 22 to 37 (fun z wc => z = .bool kb ∧ wc = w.alloc (.cells #[.int .i64 dk, .slice dsA dsn dsc, .slice dkA dkn dkc, .int .i64 dnum, .int .i64 dleast, .int .i64 dmost, .int .i64 dway, .bool dfold] 25))
  case first =>
    go_wp2_with fail
    all_goals (go_meet; refine ⟨congrArg Value.bool ?_, rfl⟩; rw [HKL.out]; clear HR; simp_all <;> (try omega))
  case rest =>
    obtain ⟨rfl, rfl⟩ := hcut
    go_upto_region 6 with (fail)
    obtain ⟨g1, hg1⟩ : ∃ g, g = (kb || a1) := ⟨_, rfl⟩
    have HG1 := Lib.hid hg1
    clear hg1
    go_cut [5] from 41 to 47 (fun z wc => z = .bool g1 ∧ wc = w.alloc (.cells #[.int .i64 dk, .slice dsA dsn dsc, .slice dkA dkn dkc, .int .i64 dnum, .int .i64 dleast, .int .i64 dmost, .int .i64 dway, .bool dfold] 25))
    case first =>
      go_wp2_with fail
      all_goals ((try subst dleast); (try subst dmost); (try subst dway); (try subst dnum); (try subst dsn); go_meet; refine ⟨congrArg Value.bool ?_, rfl⟩; rw [HG1.out, HA1.out]; clear HR; simp_all <;> (try omega))
    case rest =>
      obtain ⟨rfl, rfl⟩ := hcut
      go_upto_region 8 with (fail)
      obtain ⟨g2, hg2⟩ : ∃ g, g = (g1 || a2) := ⟨_, rfl⟩
      have HG2 := Lib.hid hg2
      clear hg2
      go_cut [5] from 51 to 66 (fun z wc => z = .bool g2 ∧ wc = w.alloc (.cells #[.int .i64 dk, .slice dsA dsn dsc, .slice dkA dkn dkc, .int .i64 dnum, .int .i64 dleast, .int .i64 dmost, .int .i64 dway, .bool dfold] 25))
      case first =>
        go_wp2_with fail
        all_goals ((try subst dleast); (try subst dmost); (try subst dway); (try subst dnum); (try subst dsn); go_meet; refine ⟨congrArg Value.bool ?_, rfl⟩; rw [HG2.out, HA2.out]; clear HR; simp_all <;> (try omega))
      case rest =>
        obtain ⟨rfl, rfl⟩ := hcut
        go_upto_region 10 with (fail)
        obtain ⟨g3, hg3⟩ : ∃ g, g = (g2 || a3) := ⟨_, rfl⟩
        have HG3 := Lib.hid hg3
        clear hg3
        go_cut [5] from 75 to 80 (fun z wc => z = .bool g3 ∧ wc = w.alloc (.cells #[.int .i64 dk, .slice dsA dsn dsc, .slice dkA dkn dkc, .int .i64 dnum, .int .i64 dleast, .int .i64 dmost, .int .i64 dway, .bool dfold] 25))
        case first =>
          go_wp2_with fail
          all_goals ((try subst dleast); (try subst dmost); (try subst dway); (try subst dnum); (try subst dsn); go_meet; refine ⟨congrArg Value.bool ?_, rfl⟩; rw [HG3.out, HA3.out]; clear HR; simp_all <;> (try omega))
        case rest =>
          obtain ⟨rfl, rfl⟩ := hcut
          go_upto_region 12 with (fail)
          obtain ⟨g4, hg4⟩ : ∃ g, g = (g3 || a4) := ⟨_, rfl⟩
          have HG4 := Lib.hid hg4
          clear hg4
          go_cut [5] from 84 to 88 (fun z wc => z = .bool g4 ∧ wc = w.alloc (.cells #[.int .i64 dk, .slice dsA dsn dsc, .slice dkA dkn dkc, .int .i64 dnum, .int .i64 dleast, .int .i64 dmost, .int .i64 dway, .bool dfold] 25))
          case first =>
            go_wp2_with fail
            all_goals ((try subst dleast); (try subst dmost); (try subst dway); (try subst dnum); (try subst dsn); go_meet; refine ⟨congrArg Value.bool ?_, rfl⟩; rw [HG4.out, HA4.out]; clear HR; simp_all <;> (try omega))
          case rest =>
            obtain ⟨rfl, rfl⟩ := hcut
            have HGA := Lib.hid (show (kb || a1 || a2 || a3 || a4) = g4 by rw [HG4.out, HG3.out, HG2.out, HG1.out]; try simp [Bool.or_assoc])
            rw [HGA.out] at HR
            go_wp2_with fail
            go_loopw [5, 6] (fun v i wr => ∃ (k : Nat), k ≤ dkn ∧ i = .int .i64 k ∧ Hid (v = .bool (g4 || (t.kids.take k).any fun x => kidBad dk x.kind)) ∧ w.alloc (.cells #[.int .i64 dk, .slice dsA dsn dsc, .slice dkA dkn dkc, .int .i64 dnum, .int .i64 dleast, .int .i64 dmost, .int .i64 dway, .bool dfold] 25) = wr) (fun _ i _ => dkn - (intOf i).toNat)
            case atStart => exact ⟨0, Nat.zero_le _, rfl, Lib.hid (by simp), rfl⟩
            case round =>
              obtain ⟨k, hk, rfl, HV, rfl⟩ := hrel
              have hv := HV.out
              subst hv
              clear HV
              by_cases hlt : k < dkn
              · obtain ⟨b1, off1, hl1, hA, hb1, c0, c1, c2, c3, c4, c5, c6, c7⟩ := (HN.out.kids.below HB0.out (Nat.le_refl _)).node_at hlt
                have hkl : k < t.kids.length := by rw [HK.out.1]; exact hlt
                have HKE := Lib.hid (HN.out.each.kind_at hkl hl1).1
                have HTK := Lib.hid (take_snoc' t.kids k hkl)
                obtain ⟨kid, hkid⟩ : ∃ x, x = t.kids[k] := ⟨_, rfl⟩
                rw [← hkid] at HKE HTK
                clear hkid
                obtain ⟨e, he⟩ : ∃ x, x = ds[k] := ⟨_, rfl⟩
                rw [← he] at c0 c1 c2 c3 c4 c5 c6 c7 HKE
                clear he
                obtain ⟨ek, esA, esn, esc, ekA, ekn, ekc, enum, eleast, emost, eway, efold⟩ := e
                simp only at hA c0 c1 c2 c3 c4 c5 c6 c7 HKE
                have HAA := Lib.hid hA
                subst hA
                have k2' : (k : Int) < (dkn : Int) := by omega
                obtain ⟨gg, hgg⟩ : ∃ b, b = (g4 || (t.kids.take k).any fun x => kidBad dk x.kind) := ⟨_, rfl⟩
                rw [← hgg]
                have HGG := Lib.hid hgg
                clear hgg
                have HANY := Lib.hid (show (g4 || (t.kids.take (k + 1)).any fun x => kidBad dk x.kind) = (gg || kidBad dk ek) by rw [HTK.out, List.any_append, ← Bool.or_assoc, ← HGG.out, HKE.out]; simp)
                clear HKE
                cases gg
                all_goals
                  go_wp2_with fail
                  all_goals
                    (try subst dk)
                    go_roundw
                    case rel =>
                      first
                        | exact ⟨k + 1, by omega, by go_num, Lib.hid (congrArg Value.bool (by rw [HANY.out]; clear HR HTK HGG HGA HANY; first | rfl | (simp_all [kidBad] <;> (try omega)))), by first | rfl | trivial⟩
                        | exact ⟨k + 1, by omega, by omega, Lib.hid (by rw [HANY.out]; simp [kidBad])⟩
                        | exact ⟨k + 1, by omega, by omega, Lib.hid (by simpa using HANY.out)⟩
                        | exact ⟨k + 1, by omega, by omega, Lib.hid (by first | (have h := HANY.out; (try subst ek); simp [kidBad] at h; simpa [kidBad] using h) | (have h := HANY.out; clear HR HTK HGG HGA HANY; simp_all [kidBad]))⟩
                    case measure => simp [intOf]; omega
              · obtain rfl : dkn = k := by omega
                have HZ := Lib.hid (show (t.kids.take dkn) = t.kids from List.take_of_length_le (by rw [HK.out.1]; exact Nat.le_refl _))
                rw [HZ.out]
                obtain ⟨gg, hgg⟩ : ∃ b, b = (g4 || t.kids.any fun x => kidBad dk x.kind) := ⟨_, rfl⟩
                rw [← hgg] at HR ⊢
                clear hgg
                cases gg
                case true =>
                  have HR2 := Lib.hid (show rightE t = 1 by rw [HR.out]; rfl)
                  go_wp2_with fail
                  go_ret
                  rw [HR2.out]
                  exact ⟨rfl, HB0.out⟩
                case false =>
                  have HR2 := Lib.hid (show rightE t = 0 by rw [HR.out]; rfl)
                  go_wp2_with fail
                  go_ret
                  rw [HR2.out]
                  exact ⟨rfl, HB0.out⟩

end Go.Proofs.YtbekjfoefjnidaaDoor
