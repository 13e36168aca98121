/-
  Contracts: fixed's scale rounded up, MulDivUp, Floor, Ceil.
-/
import Derived.Test.YtclohghongpfkaaW33
import Derived.Test.YtclohghongpfkaaIPlain2
namespace Go.Proofs.Ytclohghongpfkaa
set_option linter.unusedVariables false
set_option linter.unusedSimpArgs false
open Go.RowKit

/-- The quotient rounded up, out of sizes and the three signs. -/
theorem dv_parts1 (a b c : Int) : Wi.dv (a * b) c 1 = Wi.sg (Wi.ab a * Wi.ab b / Wi.ab c + if !Wi.scn a b c && !Wi.zb (Wi.ab a * Wi.ab b % Wi.ab c) then 1 else 0) (Wi.scn a b c) := by
  by_cases h : a * b = 0
  · have e := Wi.ab_prod a b
    rw [h] at e
    have e0 : Wi.ab a * Wi.ab b = 0 := by rw [← e]; decide
    rw [h, e0]
    unfold Wi.dv Wi.qs Wi.awb Wi.zb
    rw [show Wi.ab 0 = 0 from rfl]
    simp
    unfold Wi.sg
    split <;> split <;> rfl
  · have hn : Wi.ngq (a * b) c = Wi.scn a b c := by
      unfold Wi.ngq Wi.scn
      rw [Wi.ngb_prod h]
      unfold Wi.ngb
      cases (decide (a < 0) != decide (b < 0)) <;> cases decide (c < 0) <;> rfl
    unfold Wi.dv Wi.qs
    rw [hn, Wi.ab_prod]
    unfold Wi.awb
    rw [hn, Wi.ab_prod]
    simp
    cases Wi.scn a b c <;> simp

set_option maxRecDepth 100000 in
set_option maxHeartbeats 4000000 in
theorem scale1_c (a b c : Int) (w : World) (a1 : -9223372036854775808 ≤ a) (a2 : a ≤ 9223372036854775807) (b1 : -9223372036854775808 ≤ b) (b2 : b ≤ 9223372036854775807) (c1 : -9223372036854775808 ≤ c) (c2 : c ≤ 9223372036854775807) : Calls Try.prog 86 #[.int .i64 a, .int .i64 b, .int .i64 c, .int .u8 1] w fun e w' =>
    e = .returned (.tuple #[.int .i64 (if c = 0 then 0 else Wi.iv (Wi.dv (a * b) c 1)), .int .i64 (if c = 0 then 1 else Wi.er (Wi.dv (a * b) c 1))]) ∧ Below w.heap.size w w' := by
  by_cases hc : c = 0
  · subst hc
    go_enter Try.func86, Try.ntmps86
    go_wp2
    go_returns
    exact ⟨rfl, Below.refl _ _⟩
  rw [if_neg hc, if_neg hc]
  obtain ⟨d1, d2, d3, A0, Q0, q0, r0, F1, F2⟩ := down_facts a1 a2 b1 b2 c1 c2 hc
  have pa := ab_i a1 a2
  have pb := ab_i b1 b2
  have hcb : (c == 0) = false := by simpa using hc
  have hp := dv_parts1 a b c
  have hlr := Wi.Lr_bd (Wi.ab a * Wi.ab b)
  have hHL := Wi.HL (Wi.ab a * Wi.ab b)
  clear hc
  by_cases ha : a < 0 <;> by_cases hb : b < 0 <;> by_cases hc : c < 0
  · have hg : Wi.scn a b c = true := by unfold Wi.scn; simp [ha, hb, hc]
    rw [hg] at hp
    clear hg
    by_cases hge : Wi.ab c ≤ Wi.Hq (Wi.ab a * Wi.ab b)
    · have E := Lib.hid (ie_no (v := Wi.dv (a * b) c 1) (by have := F1 hge; rw [hp]; (first | rw [Wi.sg_t] | rw [Wi.sg_f]); split <;> omega))
      clear hp hHL F1 F2
      go_enter Try.func86, Try.ntmps86
      go_wp2_with fail
      refine (fsize_c _ _ c1 c2).mono ?_
      rintro e w1 ⟨rfl, rfl⟩
      go_wp2_with fail
      refine (fsize_c _ _ a1 a2).mono ?_
      rintro e w1 ⟨rfl, rfl⟩
      go_wp2_with fail
      refine (fsize_c _ _ b1 b2).mono ?_
      rintro e w1 ⟨rfl, rfl⟩
      go_wp2_with fail
      refine (mul64_c _ _ _ pa.1 (by omega) pb.1 (by omega)).mono ?_
      rintro e w1 ⟨rfl, rfl⟩
      go_wp2
      go_returns
      exact ⟨ret_ints E.out.1 E.out.2, Below.refl _ _⟩
    · have F3 := F2 hge
      have HH := Lib.hid hHL
      clear hHL F1 F2
      have E := Lib.hid hp
      clear hp
      simp only [Bool.not_true, Bool.false_and, Bool.false_eq_true, if_false, Int.add_zero] at E
      go_enter Try.func86, Try.ntmps86
      go_wp2_with fail
      refine (fsize_c _ _ c1 c2).mono ?_
      rintro e w1 ⟨rfl, rfl⟩
      go_wp2_with fail
      refine (fsize_c _ _ a1 a2).mono ?_
      rintro e w1 ⟨rfl, rfl⟩
      go_wp2_with fail
      refine (fsize_c _ _ b1 b2).mono ?_
      rintro e w1 ⟨rfl, rfl⟩
      go_wp2_with fail
      refine (mul64_c _ _ _ pa.1 (by omega) pb.1 (by omega)).mono ?_
      rintro e w1 ⟨rfl, rfl⟩
      go_wp2_with fail
      refine (div64_c _ _ _ _ Q0 (by omega) hlr.1 hlr.2 d2).mono ?_
      rw [← HH.out]
      rintro e w1 ⟨rfl, n, rfl⟩
      go_wp2_with fail
      refine (fsigned_c _ _ _ (by omega) (by omega)).mono ?_
      rintro e w1 ⟨rfl, rfl⟩
      go_wp2
      go_returns
      rw [E.out]
      exact ⟨rfl, bdn _ n⟩
  · have hg : Wi.scn a b c = false := by unfold Wi.scn; simp [ha, hb, hc]
    rw [hg] at hp
    clear hg
    by_cases hge : Wi.ab c ≤ Wi.Hq (Wi.ab a * Wi.ab b)
    · have E := Lib.hid (ie_no (v := Wi.dv (a * b) c 1) (by have := F1 hge; rw [hp]; (first | rw [Wi.sg_t] | rw [Wi.sg_f]); split <;> omega))
      clear hp hHL F1 F2
      go_enter Try.func86, Try.ntmps86
      go_wp2_with fail
      refine (fsize_c _ _ c1 c2).mono ?_
      rintro e w1 ⟨rfl, rfl⟩
      go_wp2_with fail
      refine (fsize_c _ _ a1 a2).mono ?_
      rintro e w1 ⟨rfl, rfl⟩
      go_wp2_with fail
      refine (fsize_c _ _ b1 b2).mono ?_
      rintro e w1 ⟨rfl, rfl⟩
      go_wp2_with fail
      refine (mul64_c _ _ _ pa.1 (by omega) pb.1 (by omega)).mono ?_
      rintro e w1 ⟨rfl, rfl⟩
      go_wp2
      go_returns
      exact ⟨ret_ints E.out.1 E.out.2, Below.refl _ _⟩
    · have F3 := F2 hge
      have HH := Lib.hid hHL
      clear hHL F1 F2
      by_cases hr : 0 < Wi.ab a * Wi.ab b % Wi.ab c
      · have hz : Wi.zb (Wi.ab a * Wi.ab b % Wi.ab c) = false := decide_eq_false (by omega)
        rw [hz] at hp
        clear hz
        simp only [Bool.not_true, Bool.not_false, Bool.and_false, Bool.and_true, Bool.false_eq_true, if_false, if_true, Int.add_zero] at hp
        by_cases hm : Wi.ab a * Wi.ab b / Wi.ab c = 18446744073709551615
        · have E := Lib.hid (ie_no (v := Wi.dv (a * b) c 1) (by rw [hp, (sgi _).1]; omega))
          have hqm : (Wi.ab a * Wi.ab b / Wi.ab c == 18446744073709551615) = true := by simpa using hm
          clear hp hm
          go_enter Try.func86, Try.ntmps86
          go_wp2_with fail
          refine (fsize_c _ _ c1 c2).mono ?_
          rintro e w1 ⟨rfl, rfl⟩
          go_wp2_with fail
          refine (fsize_c _ _ a1 a2).mono ?_
          rintro e w1 ⟨rfl, rfl⟩
          go_wp2_with fail
          refine (fsize_c _ _ b1 b2).mono ?_
          rintro e w1 ⟨rfl, rfl⟩
          go_wp2_with fail
          refine (mul64_c _ _ _ pa.1 (by omega) pb.1 (by omega)).mono ?_
          rintro e w1 ⟨rfl, rfl⟩
          go_wp2_with fail
          refine (div64_c _ _ _ _ Q0 (by omega) hlr.1 hlr.2 d2).mono ?_
          rw [← HH.out]
          rintro e w1 ⟨rfl, n, rfl⟩
          go_wp2
          go_returns
          exact ⟨ret_ints E.out.1 E.out.2, bdn _ n⟩
        · have E := Lib.hid hp
          have hqm : (Wi.ab a * Wi.ab b / Wi.ab c == 18446744073709551615) = false := by simpa using hm
          have hq1 := IntWalk.u64_in (Wi.ab a * Wi.ab b / Wi.ab c + 1) ⟨by omega, by omega⟩
          clear hp
          go_enter Try.func86, Try.ntmps86
          go_wp2_with fail
          refine (fsize_c _ _ c1 c2).mono ?_
          rintro e w1 ⟨rfl, rfl⟩
          go_wp2_with fail
          refine (fsize_c _ _ a1 a2).mono ?_
          rintro e w1 ⟨rfl, rfl⟩
          go_wp2_with fail
          refine (fsize_c _ _ b1 b2).mono ?_
          rintro e w1 ⟨rfl, rfl⟩
          go_wp2_with fail
          refine (mul64_c _ _ _ pa.1 (by omega) pb.1 (by omega)).mono ?_
          rintro e w1 ⟨rfl, rfl⟩
          go_wp2_with fail
          refine (div64_c _ _ _ _ Q0 (by omega) hlr.1 hlr.2 d2).mono ?_
          rw [← HH.out]
          rintro e w1 ⟨rfl, n, rfl⟩
          go_wp2_with fail
          refine (fsigned_c _ _ _ (by omega) (by omega)).mono ?_
          rintro e w1 ⟨rfl, rfl⟩
          go_wp2
          go_returns
          rw [E.out]
          exact ⟨rfl, bdn _ n⟩
      · have hz : Wi.zb (Wi.ab a * Wi.ab b % Wi.ab c) = true := decide_eq_true (by omega)
        rw [hz] at hp
        clear hz
        simp only [Bool.not_true, Bool.not_false, Bool.and_false, Bool.and_true, Bool.false_eq_true, if_false, if_true, Int.add_zero] at hp
        have E := Lib.hid hp
        clear hp
        go_enter Try.func86, Try.ntmps86
        go_wp2_with fail
        refine (fsize_c _ _ c1 c2).mono ?_
        rintro e w1 ⟨rfl, rfl⟩
        go_wp2_with fail
        refine (fsize_c _ _ a1 a2).mono ?_
        rintro e w1 ⟨rfl, rfl⟩
        go_wp2_with fail
        refine (fsize_c _ _ b1 b2).mono ?_
        rintro e w1 ⟨rfl, rfl⟩
        go_wp2_with fail
        refine (mul64_c _ _ _ pa.1 (by omega) pb.1 (by omega)).mono ?_
        rintro e w1 ⟨rfl, rfl⟩
        go_wp2_with fail
        refine (div64_c _ _ _ _ Q0 (by omega) hlr.1 hlr.2 d2).mono ?_
        rw [← HH.out]
        rintro e w1 ⟨rfl, n, rfl⟩
        go_wp2_with fail
        refine (fsigned_c _ _ _ (by omega) (by omega)).mono ?_
        rintro e w1 ⟨rfl, rfl⟩
        go_wp2
        go_returns
        rw [E.out]
        exact ⟨rfl, bdn _ n⟩
  · have hg : Wi.scn a b c = false := by unfold Wi.scn; simp [ha, hb, hc]
    rw [hg] at hp
    clear hg
    by_cases hge : Wi.ab c ≤ Wi.Hq (Wi.ab a * Wi.ab b)
    · have E := Lib.hid (ie_no (v := Wi.dv (a * b) c 1) (by have := F1 hge; rw [hp]; (first | rw [Wi.sg_t] | rw [Wi.sg_f]); split <;> omega))
      clear hp hHL F1 F2
      go_enter Try.func86, Try.ntmps86
      go_wp2_with fail
      refine (fsize_c _ _ c1 c2).mono ?_
      rintro e w1 ⟨rfl, rfl⟩
      go_wp2_with fail
      refine (fsize_c _ _ a1 a2).mono ?_
      rintro e w1 ⟨rfl, rfl⟩
      go_wp2_with fail
      refine (fsize_c _ _ b1 b2).mono ?_
      rintro e w1 ⟨rfl, rfl⟩
      go_wp2_with fail
      refine (mul64_c _ _ _ pa.1 (by omega) pb.1 (by omega)).mono ?_
      rintro e w1 ⟨rfl, rfl⟩
      go_wp2
      go_returns
      exact ⟨ret_ints E.out.1 E.out.2, Below.refl _ _⟩
    · have F3 := F2 hge
      have HH := Lib.hid hHL
      clear hHL F1 F2
      by_cases hr : 0 < Wi.ab a * Wi.ab b % Wi.ab c
      · have hz : Wi.zb (Wi.ab a * Wi.ab b % Wi.ab c) = false := decide_eq_false (by omega)
        rw [hz] at hp
        clear hz
        simp only [Bool.not_true, Bool.not_false, Bool.and_false, Bool.and_true, Bool.false_eq_true, if_false, if_true, Int.add_zero] at hp
        by_cases hm : Wi.ab a * Wi.ab b / Wi.ab c = 18446744073709551615
        · have E := Lib.hid (ie_no (v := Wi.dv (a * b) c 1) (by rw [hp, (sgi _).1]; omega))
          have hqm : (Wi.ab a * Wi.ab b / Wi.ab c == 18446744073709551615) = true := by simpa using hm
          clear hp hm
          go_enter Try.func86, Try.ntmps86
          go_wp2_with fail
          refine (fsize_c _ _ c1 c2).mono ?_
          rintro e w1 ⟨rfl, rfl⟩
          go_wp2_with fail
          refine (fsize_c _ _ a1 a2).mono ?_
          rintro e w1 ⟨rfl, rfl⟩
          go_wp2_with fail
          refine (fsize_c _ _ b1 b2).mono ?_
          rintro e w1 ⟨rfl, rfl⟩
          go_wp2_with fail
          refine (mul64_c _ _ _ pa.1 (by omega) pb.1 (by omega)).mono ?_
          rintro e w1 ⟨rfl, rfl⟩
          go_wp2_with fail
          refine (div64_c _ _ _ _ Q0 (by omega) hlr.1 hlr.2 d2).mono ?_
          rw [← HH.out]
          rintro e w1 ⟨rfl, n, rfl⟩
          go_wp2
          go_returns
          exact ⟨ret_ints E.out.1 E.out.2, bdn _ n⟩
        · have E := Lib.hid hp
          have hqm : (Wi.ab a * Wi.ab b / Wi.ab c == 18446744073709551615) = false := by simpa using hm
          have hq1 := IntWalk.u64_in (Wi.ab a * Wi.ab b / Wi.ab c + 1) ⟨by omega, by omega⟩
          clear hp
          go_enter Try.func86, Try.ntmps86
          go_wp2_with fail
          refine (fsize_c _ _ c1 c2).mono ?_
          rintro e w1 ⟨rfl, rfl⟩
          go_wp2_with fail
          refine (fsize_c _ _ a1 a2).mono ?_
          rintro e w1 ⟨rfl, rfl⟩
          go_wp2_with fail
          refine (fsize_c _ _ b1 b2).mono ?_
          rintro e w1 ⟨rfl, rfl⟩
          go_wp2_with fail
          refine (mul64_c _ _ _ pa.1 (by omega) pb.1 (by omega)).mono ?_
          rintro e w1 ⟨rfl, rfl⟩
          go_wp2_with fail
          refine (div64_c _ _ _ _ Q0 (by omega) hlr.1 hlr.2 d2).mono ?_
          rw [← HH.out]
          rintro e w1 ⟨rfl, n, rfl⟩
          go_wp2_with fail
          refine (fsigned_c _ _ _ (by omega) (by omega)).mono ?_
          rintro e w1 ⟨rfl, rfl⟩
          go_wp2
          go_returns
          rw [E.out]
          exact ⟨rfl, bdn _ n⟩
      · have hz : Wi.zb (Wi.ab a * Wi.ab b % Wi.ab c) = true := decide_eq_true (by omega)
        rw [hz] at hp
        clear hz
        simp only [Bool.not_true, Bool.not_false, Bool.and_false, Bool.and_true, Bool.false_eq_true, if_false, if_true, Int.add_zero] at hp
        have E := Lib.hid hp
        clear hp
        go_enter Try.func86, Try.ntmps86
        go_wp2_with fail
        refine (fsize_c _ _ c1 c2).mono ?_
        rintro e w1 ⟨rfl, rfl⟩
        go_wp2_with fail
        refine (fsize_c _ _ a1 a2).mono ?_
        rintro e w1 ⟨rfl, rfl⟩
        go_wp2_with fail
        refine (fsize_c _ _ b1 b2).mono ?_
        rintro e w1 ⟨rfl, rfl⟩
        go_wp2_with fail
        refine (mul64_c _ _ _ pa.1 (by omega) pb.1 (by omega)).mono ?_
        rintro e w1 ⟨rfl, rfl⟩
        go_wp2_with fail
        refine (div64_c _ _ _ _ Q0 (by omega) hlr.1 hlr.2 d2).mono ?_
        rw [← HH.out]
        rintro e w1 ⟨rfl, n, rfl⟩
        go_wp2_with fail
        refine (fsigned_c _ _ _ (by omega) (by omega)).mono ?_
        rintro e w1 ⟨rfl, rfl⟩
        go_wp2
        go_returns
        rw [E.out]
        exact ⟨rfl, bdn _ n⟩
  · have hg : Wi.scn a b c = true := by unfold Wi.scn; simp [ha, hb, hc]
    rw [hg] at hp
    clear hg
    by_cases hge : Wi.ab c ≤ Wi.Hq (Wi.ab a * Wi.ab b)
    · have E := Lib.hid (ie_no (v := Wi.dv (a * b) c 1) (by have := F1 hge; rw [hp]; (first | rw [Wi.sg_t] | rw [Wi.sg_f]); split <;> omega))
      clear hp hHL F1 F2
      go_enter Try.func86, Try.ntmps86
      go_wp2_with fail
      refine (fsize_c _ _ c1 c2).mono ?_
      rintro e w1 ⟨rfl, rfl⟩
      go_wp2_with fail
      refine (fsize_c _ _ a1 a2).mono ?_
      rintro e w1 ⟨rfl, rfl⟩
      go_wp2_with fail
      refine (fsize_c _ _ b1 b2).mono ?_
      rintro e w1 ⟨rfl, rfl⟩
      go_wp2_with fail
      refine (mul64_c _ _ _ pa.1 (by omega) pb.1 (by omega)).mono ?_
      rintro e w1 ⟨rfl, rfl⟩
      go_wp2
      go_returns
      exact ⟨ret_ints E.out.1 E.out.2, Below.refl _ _⟩
    · have F3 := F2 hge
      have HH := Lib.hid hHL
      clear hHL F1 F2
      have E := Lib.hid hp
      clear hp
      simp only [Bool.not_true, Bool.false_and, Bool.false_eq_true, if_false, Int.add_zero] at E
      go_enter Try.func86, Try.ntmps86
      go_wp2_with fail
      refine (fsize_c _ _ c1 c2).mono ?_
      rintro e w1 ⟨rfl, rfl⟩
      go_wp2_with fail
      refine (fsize_c _ _ a1 a2).mono ?_
      rintro e w1 ⟨rfl, rfl⟩
      go_wp2_with fail
      refine (fsize_c _ _ b1 b2).mono ?_
      rintro e w1 ⟨rfl, rfl⟩
      go_wp2_with fail
      refine (mul64_c _ _ _ pa.1 (by omega) pb.1 (by omega)).mono ?_
      rintro e w1 ⟨rfl, rfl⟩
      go_wp2_with fail
      refine (div64_c _ _ _ _ Q0 (by omega) hlr.1 hlr.2 d2).mono ?_
      rw [← HH.out]
      rintro e w1 ⟨rfl, n, rfl⟩
      go_wp2_with fail
      refine (fsigned_c _ _ _ (by omega) (by omega)).mono ?_
      rintro e w1 ⟨rfl, rfl⟩
      go_wp2
      go_returns
      rw [E.out]
      exact ⟨rfl, bdn _ n⟩
  · have hg : Wi.scn a b c = false := by unfold Wi.scn; simp [ha, hb, hc]
    rw [hg] at hp
    clear hg
    by_cases hge : Wi.ab c ≤ Wi.Hq (Wi.ab a * Wi.ab b)
    · have E := Lib.hid (ie_no (v := Wi.dv (a * b) c 1) (by have := F1 hge; rw [hp]; (first | rw [Wi.sg_t] | rw [Wi.sg_f]); split <;> omega))
      clear hp hHL F1 F2
      go_enter Try.func86, Try.ntmps86
      go_wp2_with fail
      refine (fsize_c _ _ c1 c2).mono ?_
      rintro e w1 ⟨rfl, rfl⟩
      go_wp2_with fail
      refine (fsize_c _ _ a1 a2).mono ?_
      rintro e w1 ⟨rfl, rfl⟩
      go_wp2_with fail
      refine (fsize_c _ _ b1 b2).mono ?_
      rintro e w1 ⟨rfl, rfl⟩
      go_wp2_with fail
      refine (mul64_c _ _ _ pa.1 (by omega) pb.1 (by omega)).mono ?_
      rintro e w1 ⟨rfl, rfl⟩
      go_wp2
      go_returns
      exact ⟨ret_ints E.out.1 E.out.2, Below.refl _ _⟩
    · have F3 := F2 hge
      have HH := Lib.hid hHL
      clear hHL F1 F2
      by_cases hr : 0 < Wi.ab a * Wi.ab b % Wi.ab c
      · have hz : Wi.zb (Wi.ab a * Wi.ab b % Wi.ab c) = false := decide_eq_false (by omega)
        rw [hz] at hp
        clear hz
        simp only [Bool.not_true, Bool.not_false, Bool.and_false, Bool.and_true, Bool.false_eq_true, if_false, if_true, Int.add_zero] at hp
        by_cases hm : Wi.ab a * Wi.ab b / Wi.ab c = 18446744073709551615
        · have E := Lib.hid (ie_no (v := Wi.dv (a * b) c 1) (by rw [hp, (sgi _).1]; omega))
          have hqm : (Wi.ab a * Wi.ab b / Wi.ab c == 18446744073709551615) = true := by simpa using hm
          clear hp hm
          go_enter Try.func86, Try.ntmps86
          go_wp2_with fail
          refine (fsize_c _ _ c1 c2).mono ?_
          rintro e w1 ⟨rfl, rfl⟩
          go_wp2_with fail
          refine (fsize_c _ _ a1 a2).mono ?_
          rintro e w1 ⟨rfl, rfl⟩
          go_wp2_with fail
          refine (fsize_c _ _ b1 b2).mono ?_
          rintro e w1 ⟨rfl, rfl⟩
          go_wp2_with fail
          refine (mul64_c _ _ _ pa.1 (by omega) pb.1 (by omega)).mono ?_
          rintro e w1 ⟨rfl, rfl⟩
          go_wp2_with fail
          refine (div64_c _ _ _ _ Q0 (by omega) hlr.1 hlr.2 d2).mono ?_
          rw [← HH.out]
          rintro e w1 ⟨rfl, n, rfl⟩
          go_wp2
          go_returns
          exact ⟨ret_ints E.out.1 E.out.2, bdn _ n⟩
        · have E := Lib.hid hp
          have hqm : (Wi.ab a * Wi.ab b / Wi.ab c == 18446744073709551615) = false := by simpa using hm
          have hq1 := IntWalk.u64_in (Wi.ab a * Wi.ab b / Wi.ab c + 1) ⟨by omega, by omega⟩
          clear hp
          go_enter Try.func86, Try.ntmps86
          go_wp2_with fail
          refine (fsize_c _ _ c1 c2).mono ?_
          rintro e w1 ⟨rfl, rfl⟩
          go_wp2_with fail
          refine (fsize_c _ _ a1 a2).mono ?_
          rintro e w1 ⟨rfl, rfl⟩
          go_wp2_with fail
          refine (fsize_c _ _ b1 b2).mono ?_
          rintro e w1 ⟨rfl, rfl⟩
          go_wp2_with fail
          refine (mul64_c _ _ _ pa.1 (by omega) pb.1 (by omega)).mono ?_
          rintro e w1 ⟨rfl, rfl⟩
          go_wp2_with fail
          refine (div64_c _ _ _ _ Q0 (by omega) hlr.1 hlr.2 d2).mono ?_
          rw [← HH.out]
          rintro e w1 ⟨rfl, n, rfl⟩
          go_wp2_with fail
          refine (fsigned_c _ _ _ (by omega) (by omega)).mono ?_
          rintro e w1 ⟨rfl, rfl⟩
          go_wp2
          go_returns
          rw [E.out]
          exact ⟨rfl, bdn _ n⟩
      · have hz : Wi.zb (Wi.ab a * Wi.ab b % Wi.ab c) = true := decide_eq_true (by omega)
        rw [hz] at hp
        clear hz
        simp only [Bool.not_true, Bool.not_false, Bool.and_false, Bool.and_true, Bool.false_eq_true, if_false, if_true, Int.add_zero] at hp
        have E := Lib.hid hp
        clear hp
        go_enter Try.func86, Try.ntmps86
        go_wp2_with fail
        refine (fsize_c _ _ c1 c2).mono ?_
        rintro e w1 ⟨rfl, rfl⟩
        go_wp2_with fail
        refine (fsize_c _ _ a1 a2).mono ?_
        rintro e w1 ⟨rfl, rfl⟩
        go_wp2_with fail
        refine (fsize_c _ _ b1 b2).mono ?_
        rintro e w1 ⟨rfl, rfl⟩
        go_wp2_with fail
        refine (mul64_c _ _ _ pa.1 (by omega) pb.1 (by omega)).mono ?_
        rintro e w1 ⟨rfl, rfl⟩
        go_wp2_with fail
        refine (div64_c _ _ _ _ Q0 (by omega) hlr.1 hlr.2 d2).mono ?_
        rw [← HH.out]
        rintro e w1 ⟨rfl, n, rfl⟩
        go_wp2_with fail
        refine (fsigned_c _ _ _ (by omega) (by omega)).mono ?_
        rintro e w1 ⟨rfl, rfl⟩
        go_wp2
        go_returns
        rw [E.out]
        exact ⟨rfl, bdn _ n⟩
  · have hg : Wi.scn a b c = true := by unfold Wi.scn; simp [ha, hb, hc]
    rw [hg] at hp
    clear hg
    by_cases hge : Wi.ab c ≤ Wi.Hq (Wi.ab a * Wi.ab b)
    · have E := Lib.hid (ie_no (v := Wi.dv (a * b) c 1) (by have := F1 hge; rw [hp]; (first | rw [Wi.sg_t] | rw [Wi.sg_f]); split <;> omega))
      clear hp hHL F1 F2
      go_enter Try.func86, Try.ntmps86
      go_wp2_with fail
      refine (fsize_c _ _ c1 c2).mono ?_
      rintro e w1 ⟨rfl, rfl⟩
      go_wp2_with fail
      refine (fsize_c _ _ a1 a2).mono ?_
      rintro e w1 ⟨rfl, rfl⟩
      go_wp2_with fail
      refine (fsize_c _ _ b1 b2).mono ?_
      rintro e w1 ⟨rfl, rfl⟩
      go_wp2_with fail
      refine (mul64_c _ _ _ pa.1 (by omega) pb.1 (by omega)).mono ?_
      rintro e w1 ⟨rfl, rfl⟩
      go_wp2
      go_returns
      exact ⟨ret_ints E.out.1 E.out.2, Below.refl _ _⟩
    · have F3 := F2 hge
      have HH := Lib.hid hHL
      clear hHL F1 F2
      have E := Lib.hid hp
      clear hp
      simp only [Bool.not_true, Bool.false_and, Bool.false_eq_true, if_false, Int.add_zero] at E
      go_enter Try.func86, Try.ntmps86
      go_wp2_with fail
      refine (fsize_c _ _ c1 c2).mono ?_
      rintro e w1 ⟨rfl, rfl⟩
      go_wp2_with fail
      refine (fsize_c _ _ a1 a2).mono ?_
      rintro e w1 ⟨rfl, rfl⟩
      go_wp2_with fail
      refine (fsize_c _ _ b1 b2).mono ?_
      rintro e w1 ⟨rfl, rfl⟩
      go_wp2_with fail
      refine (mul64_c _ _ _ pa.1 (by omega) pb.1 (by omega)).mono ?_
      rintro e w1 ⟨rfl, rfl⟩
      go_wp2_with fail
      refine (div64_c _ _ _ _ Q0 (by omega) hlr.1 hlr.2 d2).mono ?_
      rw [← HH.out]
      rintro e w1 ⟨rfl, n, rfl⟩
      go_wp2_with fail
      refine (fsigned_c _ _ _ (by omega) (by omega)).mono ?_
      rintro e w1 ⟨rfl, rfl⟩
      go_wp2
      go_returns
      rw [E.out]
      exact ⟨rfl, bdn _ n⟩
  · have hg : Wi.scn a b c = true := by unfold Wi.scn; simp [ha, hb, hc]
    rw [hg] at hp
    clear hg
    by_cases hge : Wi.ab c ≤ Wi.Hq (Wi.ab a * Wi.ab b)
    · have E := Lib.hid (ie_no (v := Wi.dv (a * b) c 1) (by have := F1 hge; rw [hp]; (first | rw [Wi.sg_t] | rw [Wi.sg_f]); split <;> omega))
      clear hp hHL F1 F2
      go_enter Try.func86, Try.ntmps86
      go_wp2_with fail
      refine (fsize_c _ _ c1 c2).mono ?_
      rintro e w1 ⟨rfl, rfl⟩
      go_wp2_with fail
      refine (fsize_c _ _ a1 a2).mono ?_
      rintro e w1 ⟨rfl, rfl⟩
      go_wp2_with fail
      refine (fsize_c _ _ b1 b2).mono ?_
      rintro e w1 ⟨rfl, rfl⟩
      go_wp2_with fail
      refine (mul64_c _ _ _ pa.1 (by omega) pb.1 (by omega)).mono ?_
      rintro e w1 ⟨rfl, rfl⟩
      go_wp2
      go_returns
      exact ⟨ret_ints E.out.1 E.out.2, Below.refl _ _⟩
    · have F3 := F2 hge
      have HH := Lib.hid hHL
      clear hHL F1 F2
      have E := Lib.hid hp
      clear hp
      simp only [Bool.not_true, Bool.false_and, Bool.false_eq_true, if_false, Int.add_zero] at E
      go_enter Try.func86, Try.ntmps86
      go_wp2_with fail
      refine (fsize_c _ _ c1 c2).mono ?_
      rintro e w1 ⟨rfl, rfl⟩
      go_wp2_with fail
      refine (fsize_c _ _ a1 a2).mono ?_
      rintro e w1 ⟨rfl, rfl⟩
      go_wp2_with fail
      refine (fsize_c _ _ b1 b2).mono ?_
      rintro e w1 ⟨rfl, rfl⟩
      go_wp2_with fail
      refine (mul64_c _ _ _ pa.1 (by omega) pb.1 (by omega)).mono ?_
      rintro e w1 ⟨rfl, rfl⟩
      go_wp2_with fail
      refine (div64_c _ _ _ _ Q0 (by omega) hlr.1 hlr.2 d2).mono ?_
      rw [← HH.out]
      rintro e w1 ⟨rfl, n, rfl⟩
      go_wp2_with fail
      refine (fsigned_c _ _ _ (by omega) (by omega)).mono ?_
      rintro e w1 ⟨rfl, rfl⟩
      go_wp2
      go_returns
      rw [E.out]
      exact ⟨rfl, bdn _ n⟩
  · have hg : Wi.scn a b c = false := by unfold Wi.scn; simp [ha, hb, hc]
    rw [hg] at hp
    clear hg
    by_cases hge : Wi.ab c ≤ Wi.Hq (Wi.ab a * Wi.ab b)
    · have E := Lib.hid (ie_no (v := Wi.dv (a * b) c 1) (by have := F1 hge; rw [hp]; (first | rw [Wi.sg_t] | rw [Wi.sg_f]); split <;> omega))
      clear hp hHL F1 F2
      go_enter Try.func86, Try.ntmps86
      go_wp2_with fail
      refine (fsize_c _ _ c1 c2).mono ?_
      rintro e w1 ⟨rfl, rfl⟩
      go_wp2_with fail
      refine (fsize_c _ _ a1 a2).mono ?_
      rintro e w1 ⟨rfl, rfl⟩
      go_wp2_with fail
      refine (fsize_c _ _ b1 b2).mono ?_
      rintro e w1 ⟨rfl, rfl⟩
      go_wp2_with fail
      refine (mul64_c _ _ _ pa.1 (by omega) pb.1 (by omega)).mono ?_
      rintro e w1 ⟨rfl, rfl⟩
      go_wp2
      go_returns
      exact ⟨ret_ints E.out.1 E.out.2, Below.refl _ _⟩
    · have F3 := F2 hge
      have HH := Lib.hid hHL
      clear hHL F1 F2
      by_cases hr : 0 < Wi.ab a * Wi.ab b % Wi.ab c
      · have hz : Wi.zb (Wi.ab a * Wi.ab b % Wi.ab c) = false := decide_eq_false (by omega)
        rw [hz] at hp
        clear hz
        simp only [Bool.not_true, Bool.not_false, Bool.and_false, Bool.and_true, Bool.false_eq_true, if_false, if_true, Int.add_zero] at hp
        by_cases hm : Wi.ab a * Wi.ab b / Wi.ab c = 18446744073709551615
        · have E := Lib.hid (ie_no (v := Wi.dv (a * b) c 1) (by rw [hp, (sgi _).1]; omega))
          have hqm : (Wi.ab a * Wi.ab b / Wi.ab c == 18446744073709551615) = true := by simpa using hm
          clear hp hm
          go_enter Try.func86, Try.ntmps86
          go_wp2_with fail
          refine (fsize_c _ _ c1 c2).mono ?_
          rintro e w1 ⟨rfl, rfl⟩
          go_wp2_with fail
          refine (fsize_c _ _ a1 a2).mono ?_
          rintro e w1 ⟨rfl, rfl⟩
          go_wp2_with fail
          refine (fsize_c _ _ b1 b2).mono ?_
          rintro e w1 ⟨rfl, rfl⟩
          go_wp2_with fail
          refine (mul64_c _ _ _ pa.1 (by omega) pb.1 (by omega)).mono ?_
          rintro e w1 ⟨rfl, rfl⟩
          go_wp2_with fail
          refine (div64_c _ _ _ _ Q0 (by omega) hlr.1 hlr.2 d2).mono ?_
          rw [← HH.out]
          rintro e w1 ⟨rfl, n, rfl⟩
          go_wp2
          go_returns
          exact ⟨ret_ints E.out.1 E.out.2, bdn _ n⟩
        · have E := Lib.hid hp
          have hqm : (Wi.ab a * Wi.ab b / Wi.ab c == 18446744073709551615) = false := by simpa using hm
          have hq1 := IntWalk.u64_in (Wi.ab a * Wi.ab b / Wi.ab c + 1) ⟨by omega, by omega⟩
          clear hp
          go_enter Try.func86, Try.ntmps86
          go_wp2_with fail
          refine (fsize_c _ _ c1 c2).mono ?_
          rintro e w1 ⟨rfl, rfl⟩
          go_wp2_with fail
          refine (fsize_c _ _ a1 a2).mono ?_
          rintro e w1 ⟨rfl, rfl⟩
          go_wp2_with fail
          refine (fsize_c _ _ b1 b2).mono ?_
          rintro e w1 ⟨rfl, rfl⟩
          go_wp2_with fail
          refine (mul64_c _ _ _ pa.1 (by omega) pb.1 (by omega)).mono ?_
          rintro e w1 ⟨rfl, rfl⟩
          go_wp2_with fail
          refine (div64_c _ _ _ _ Q0 (by omega) hlr.1 hlr.2 d2).mono ?_
          rw [← HH.out]
          rintro e w1 ⟨rfl, n, rfl⟩
          go_wp2_with fail
          refine (fsigned_c _ _ _ (by omega) (by omega)).mono ?_
          rintro e w1 ⟨rfl, rfl⟩
          go_wp2
          go_returns
          rw [E.out]
          exact ⟨rfl, bdn _ n⟩
      · have hz : Wi.zb (Wi.ab a * Wi.ab b % Wi.ab c) = true := decide_eq_true (by omega)
        rw [hz] at hp
        clear hz
        simp only [Bool.not_true, Bool.not_false, Bool.and_false, Bool.and_true, Bool.false_eq_true, if_false, if_true, Int.add_zero] at hp
        have E := Lib.hid hp
        clear hp
        go_enter Try.func86, Try.ntmps86
        go_wp2_with fail
        refine (fsize_c _ _ c1 c2).mono ?_
        rintro e w1 ⟨rfl, rfl⟩
        go_wp2_with fail
        refine (fsize_c _ _ a1 a2).mono ?_
        rintro e w1 ⟨rfl, rfl⟩
        go_wp2_with fail
        refine (fsize_c _ _ b1 b2).mono ?_
        rintro e w1 ⟨rfl, rfl⟩
        go_wp2_with fail
        refine (mul64_c _ _ _ pa.1 (by omega) pb.1 (by omega)).mono ?_
        rintro e w1 ⟨rfl, rfl⟩
        go_wp2_with fail
        refine (div64_c _ _ _ _ Q0 (by omega) hlr.1 hlr.2 d2).mono ?_
        rw [← HH.out]
        rintro e w1 ⟨rfl, n, rfl⟩
        go_wp2_with fail
        refine (fsigned_c _ _ _ (by omega) (by omega)).mono ?_
        rintro e w1 ⟨rfl, rfl⟩
        go_wp2
        go_returns
        rw [E.out]
        exact ⟨rfl, bdn _ n⟩
set_option maxRecDepth 100000 in
set_option maxHeartbeats 4000000 in
theorem muldivup_c (a b c : Int) (w : World) (a1 : -9223372036854775808 ≤ a) (a2 : a ≤ 9223372036854775807) (b1 : -9223372036854775808 ≤ b) (b2 : b ≤ 9223372036854775807) (c1 : -9223372036854775808 ≤ c) (c2 : c ≤ 9223372036854775807) : Calls Try.prog 65 #[.int .i64 a, .int .i64 b, .int .i64 c] w fun e w' =>
    e = .returned (.tuple #[.int .i64 (if c = 0 then 0 else Wi.iv (Wi.dv (a * b) c 1)), .int .i64 (if c = 0 then 1 else Wi.er (Wi.dv (a * b) c 1))]) ∧ Below w.heap.size w w' := by
  have K := scale1_c a b c w a1 a2 b1 b2 c1 c2
  generalize (if c = 0 then (0 : Int) else Wi.iv (Wi.dv (a * b) c 1)) = r1 at K ⊢
  generalize (if c = 0 then (1 : Int) else Wi.er (Wi.dv (a * b) c 1)) = r2 at K ⊢
  go_enter Try.func65, Try.ntmps65
  go_wp2_with fail
  refine K.mono ?_
  rintro e w1 ⟨rfl, hb⟩
  go_wp2
  go_returns
  exact ⟨rfl, hb⟩
set_option maxRecDepth 100000 in
set_option maxHeartbeats 4000000 in
theorem floor_c (a c : Int) (w : World) (a1 : -9223372036854775808 ≤ a) (a2 : a ≤ 9223372036854775807) (c1 : -9223372036854775808 ≤ c) (c2 : c ≤ 9223372036854775807) : Calls Try.prog 60 #[.int .i64 a, .int .i64 c] w fun e w' =>
    e = .returned (.tuple #[.int .i64 (if c = 0 then 0 else Wi.iv (Wi.dv (a * 1) c (-1))), .int .i64 (if c = 0 then 1 else Wi.er (Wi.dv (a * 1) c (-1)))]) ∧ Below w.heap.size w w' := by
  have K := scale0_c a 1 c w a1 a2 (by omega) (by omega) c1 c2
  generalize (if c = 0 then (0 : Int) else Wi.iv (Wi.dv (a * 1) c (-1))) = r1 at K ⊢
  generalize (if c = 0 then (1 : Int) else Wi.er (Wi.dv (a * 1) c (-1))) = r2 at K ⊢
  go_enter Try.func60, Try.ntmps60
  go_wp2_with fail
  refine K.mono ?_
  rintro e w1 ⟨rfl, hb⟩
  go_wp2
  go_returns
  exact ⟨rfl, hb⟩
set_option maxRecDepth 100000 in
set_option maxHeartbeats 4000000 in
theorem ceil_c (a c : Int) (w : World) (a1 : -9223372036854775808 ≤ a) (a2 : a ≤ 9223372036854775807) (c1 : -9223372036854775808 ≤ c) (c2 : c ≤ 9223372036854775807) : Calls Try.prog 61 #[.int .i64 a, .int .i64 c] w fun e w' =>
    e = .returned (.tuple #[.int .i64 (if c = 0 then 0 else Wi.iv (Wi.dv (a * 1) c 1)), .int .i64 (if c = 0 then 1 else Wi.er (Wi.dv (a * 1) c 1))]) ∧ Below w.heap.size w w' := by
  have K := scale1_c a 1 c w a1 a2 (by omega) (by omega) c1 c2
  generalize (if c = 0 then (0 : Int) else Wi.iv (Wi.dv (a * 1) c 1)) = r1 at K ⊢
  generalize (if c = 0 then (1 : Int) else Wi.er (Wi.dv (a * 1) c 1)) = r2 at K ⊢
  go_enter Try.func61, Try.ntmps61
  go_wp2_with fail
  refine K.mono ?_
  rintro e w1 ⟨rfl, hb⟩
  go_wp2
  go_returns
  exact ⟨rfl, hb⟩
end Go.Proofs.Ytclohghongpfkaa
