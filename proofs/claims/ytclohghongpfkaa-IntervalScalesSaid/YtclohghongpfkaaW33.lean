/-
  Contracts: fixed's 'size', 'signed', 'scale' rounded down, and 'MulDiv'.
-/
import Derived.Test.YtclohghongpfkaaW5
import Derived.Test.YtclohghongpfkaaW16
import Derived.Test.YtclohghongpfkaaPlain10
namespace Go.Proofs.Ytclohghongpfkaa
set_option linter.unusedVariables false
set_option linter.unusedSimpArgs false
open Go.RowKit

set_option maxHeartbeats 1000000 in
theorem fsize_c (a : Int) (w : World) (h1 : -9223372036854775808 ≤ a) (h2 : a ≤ 9223372036854775807) : Calls Try.prog 101 #[.int .i64 a] w fun e w' =>
    e = .returned (.int .u64 (Wi.ab a)) ∧ w = w' := by
  by_cases h : a < 0
  · obtain ⟨u, n, u1, u2, hu, eu⟩ := u_ex a h1 h2
    have e2 : IntKind.u64.wrap (-u) = -a := by have := hu.out; rw [IntKind.wrap_u64]; omega
    have e := Lib.hid (Wi.ab_neg h)
    go_enter Try.func101, Try.ntmps101
    go_wp2
    go_returns
    exact ⟨ret_int e.out.symm, rfl⟩
  · have e := Lib.hid (@Wi.ab_pos a (by omega))
    go_enter Try.func101, Try.ntmps101
    go_wp2
    go_returns
    exact ⟨ret_int e.out.symm, rfl⟩
theorem ie_yes {v : Int} (h : -9223372036854775808 ≤ v) (h2 : v ≤ 9223372036854775807) : v = Wi.iv v ∧ 0 = Wi.er v := by
  unfold Wi.iv Wi.er Wi.ib
  rw [if_pos ⟨by omega, by omega⟩, decide_eq_true ⟨by omega, by omega⟩]
  exact ⟨rfl, rfl⟩
theorem ie_no {v : Int} (h : v < -9223372036854775808 ∨ 9223372036854775807 < v) : 0 = Wi.iv v ∧ 2 = Wi.er v := by
  have n : ¬ Wi.in64 v := fun q => by unfold Wi.in64 at q; omega
  unfold Wi.iv Wi.er
  rw [if_neg n, Wi.ib_no n]
  exact ⟨rfl, rfl⟩
set_option maxHeartbeats 1000000 in
theorem fsigned_c (n : Int) (g : Bool) (w : World) (h1 : 0 ≤ n) (h2 : n ≤ 18446744073709551615) : Calls Try.prog 103 #[.int .u64 n, .bool g] w fun e w' =>
    e = .returned (.tuple #[.int .i64 (Wi.iv (Wi.sg n g)), .int .i64 (Wi.er (Wi.sg n g))]) ∧ w = w' := by
  cases g
  · rw [Wi.sg_f]
    by_cases h : n < 9223372036854775808
    · have e1 := IntWalk.i64_in n ⟨by omega, by omega⟩
      have E := Lib.hid (ie_yes (v := n) (by omega) (by omega))
      go_enter Try.func103, Try.ntmps103
      go_wp2
      go_returns
      exact ⟨ret_ints E.out.1 E.out.2, rfl⟩
    · have E := Lib.hid (ie_no (v := n) (by omega))
      go_enter Try.func103, Try.ntmps103
      go_wp2
      go_returns
      exact ⟨ret_ints E.out.1 E.out.2, rfl⟩
  · rw [Wi.sg_t]
    by_cases h : n ≤ 9223372036854775808
    · obtain ⟨u, e1, e2⟩ : ∃ u, IntKind.u64.wrap (-n) = u ∧ IntKind.i64.wrap u = -n := ⟨_, rfl, by rw [IntKind.wrap_i64, IntKind.wrap_u64]; omega⟩
      have E := Lib.hid (ie_yes (v := -n) (by omega) (by omega))
      go_enter Try.func103, Try.ntmps103
      go_wp2
      go_returns
      exact ⟨ret_ints E.out.1 E.out.2, rfl⟩
    · have E := Lib.hid (ie_no (v := -n) (by omega))
      go_enter Try.func103, Try.ntmps103
      go_wp2
      go_returns
      exact ⟨ret_ints E.out.1 E.out.2, rfl⟩
/-- What the sizes' quotient says of the number. -/
theorem down_facts {a b c : Int} (a1 : -9223372036854775808 ≤ a) (a2 : a ≤ 9223372036854775807) (b1 : -9223372036854775808 ≤ b) (b2 : b ≤ 9223372036854775807) (c1 : -9223372036854775808 ≤ c) (c2 : c ≤ 9223372036854775807) (hc : c ≠ 0) :
    0 ≤ Wi.ab c ∧ Wi.ab c ≤ 18446744073709551615 ∧ 0 < Wi.ab c ∧ 0 ≤ Wi.ab a * Wi.ab b ∧ 0 ≤ Wi.Hq (Wi.ab a * Wi.ab b) ∧ 0 ≤ Wi.ab a * Wi.ab b / Wi.ab c ∧ 0 ≤ Wi.ab a * Wi.ab b % Wi.ab c ∧
    (Wi.ab c ≤ Wi.Hq (Wi.ab a * Wi.ab b) → 18446744073709551616 ≤ Wi.ab a * Wi.ab b / Wi.ab c) ∧ (¬ Wi.ab c ≤ Wi.Hq (Wi.ab a * Wi.ab b) → Wi.ab a * Wi.ab b / Wi.ab c ≤ 18446744073709551615) := by
  have p := ab_i a1 a2
  have q := ab_i b1 b2
  have r := ab_i c1 c2
  have s := Wi.ab_pos' hc
  have t := Int.mul_nonneg p.1 q.1
  generalize Wi.ab a * Wi.ab b = A at *
  generalize Wi.ab c = d at *
  refine ⟨r.1, by omega, s, t, by unfold Wi.Hq; omega, Int.ediv_nonneg t r.1, Int.emod_nonneg _ (by omega), fun h => ?_, fun h => ?_⟩
  · refine (Int.le_ediv_iff_mul_le s).mpr ?_
    unfold Wi.Hq at h; omega
  · have : A / d < 18446744073709551616 := by
      refine (Int.ediv_lt_iff_lt_mul s).mpr ?_
      unfold Wi.Hq at h; omega
    omega
theorem sgi (s : Int) : Wi.sg s false = s ∧ Wi.sg s true = -s := ⟨rfl, rfl⟩
set_option maxRecDepth 100000 in
set_option maxHeartbeats 4000000 in
theorem scale0_c (a b c : Int) (w : World) (a1 : -9223372036854775808 ≤ a) (a2 : a ≤ 9223372036854775807) (b1 : -9223372036854775808 ≤ b) (b2 : b ≤ 9223372036854775807) (c1 : -9223372036854775808 ≤ c) (c2 : c ≤ 9223372036854775807) : Calls Try.prog 86 #[.int .i64 a, .int .i64 b, .int .i64 c, .int .u8 0] w fun e w' =>
    e = .returned (.tuple #[.int .i64 (if c = 0 then 0 else Wi.iv (Wi.dv (a * b) c (-1))), .int .i64 (if c = 0 then 1 else Wi.er (Wi.dv (a * b) c (-1)))]) ∧ Below w.heap.size w w' := by
  by_cases hc : c = 0
  · subst hc
    go_enter Try.func86, Try.ntmps86
    go_wp2
    go_returns
    exact ⟨rfl, Below.refl _ _⟩
  rw [if_neg hc, if_neg hc]
  obtain ⟨d1, d2, d3, A0, Q0, q0, r0, F1, F2⟩ := down_facts a1 a2 b1 b2 c1 c2 hc
  have pa := ab_i a1 a2
  have pb := ab_i b1 b2
  have hcb : (c == 0) = false := by simpa using hc
  have hp := Wi.dv_parts a b c
  have hlr := Wi.Lr_bd (Wi.ab a * Wi.ab b)
  have hHL := Wi.HL (Wi.ab a * Wi.ab b)
  clear hc
  by_cases ha : a < 0 <;> by_cases hb : b < 0 <;> by_cases hc : c < 0
  · have hg : Wi.scn a b c = true := by unfold Wi.scn; simp [ha, hb, hc]
    rw [hg] at hp
    clear hg
    by_cases hge : Wi.ab c ≤ Wi.Hq (Wi.ab a * Wi.ab b)
    · have E := Lib.hid (ie_no (v := Wi.dv (a * b) c (-1)) (by have := F1 hge; rw [hp]; (first | rw [Wi.sg_t] | rw [Wi.sg_f]); split <;> omega))
      clear hp hHL F1 F2
      go_enter Try.func86, Try.ntmps86
      go_wp2_with fail
      refine (fsize_c _ _ c1 c2).mono ?_
      rintro e w1 ⟨rfl, rfl⟩
      go_wp2_with fail
      refine (fsize_c _ _ a1 a2).mono ?_
      rintro e w1 ⟨rfl, rfl⟩
      go_wp2_with fail
      refine (fsize_c _ _ b1 b2).mono ?_
      rintro e w1 ⟨rfl, rfl⟩
      go_wp2_with fail
      refine (mul64_c _ _ _ pa.1 (by omega) pb.1 (by omega)).mono ?_
      rintro e w1 ⟨rfl, rfl⟩
      go_wp2
      go_returns
      exact ⟨ret_ints E.out.1 E.out.2, Below.refl _ _⟩
    · have F3 := F2 hge
      have HH := Lib.hid hHL
      clear hHL F1 F2
      by_cases hr : 0 < Wi.ab a * Wi.ab b % Wi.ab c
      · have hz : Wi.zb (Wi.ab a * Wi.ab b % Wi.ab c) = false := decide_eq_false (by omega)
        rw [hz] at hp
        clear hz
        simp only [Bool.not_true, Bool.not_false, Bool.and_false, Bool.and_true, Bool.false_eq_true, if_false, if_true, Int.add_zero] at hp
        by_cases hm : Wi.ab a * Wi.ab b / Wi.ab c = 18446744073709551615
        · have E := Lib.hid (ie_no (v := Wi.dv (a * b) c (-1)) (by rw [hp, (sgi _).2]; omega))
          have hqm : (Wi.ab a * Wi.ab b / Wi.ab c == 18446744073709551615) = true := by simpa using hm
          clear hp hm
          go_enter Try.func86, Try.ntmps86
          go_wp2_with fail
          refine (fsize_c _ _ c1 c2).mono ?_
          rintro e w1 ⟨rfl, rfl⟩
          go_wp2_with fail
          refine (fsize_c _ _ a1 a2).mono ?_
          rintro e w1 ⟨rfl, rfl⟩
          go_wp2_with fail
          refine (fsize_c _ _ b1 b2).mono ?_
          rintro e w1 ⟨rfl, rfl⟩
          go_wp2_with fail
          refine (mul64_c _ _ _ pa.1 (by omega) pb.1 (by omega)).mono ?_
          rintro e w1 ⟨rfl, rfl⟩
          go_wp2_with fail
          refine (div64_c _ _ _ _ Q0 (by omega) hlr.1 hlr.2 d2).mono ?_
          rw [← HH.out]
          rintro e w1 ⟨rfl, n, rfl⟩
          go_wp2
          go_returns
          exact ⟨ret_ints E.out.1 E.out.2, bdn _ n⟩
        · have E := Lib.hid hp
          have hqm : (Wi.ab a * Wi.ab b / Wi.ab c == 18446744073709551615) = false := by simpa using hm
          have hq1 := IntWalk.u64_in (Wi.ab a * Wi.ab b / Wi.ab c + 1) ⟨by omega, by omega⟩
          clear hp
          go_enter Try.func86, Try.ntmps86
          go_wp2_with fail
          refine (fsize_c _ _ c1 c2).mono ?_
          rintro e w1 ⟨rfl, rfl⟩
          go_wp2_with fail
          refine (fsize_c _ _ a1 a2).mono ?_
          rintro e w1 ⟨rfl, rfl⟩
          go_wp2_with fail
          refine (fsize_c _ _ b1 b2).mono ?_
          rintro e w1 ⟨rfl, rfl⟩
          go_wp2_with fail
          refine (mul64_c _ _ _ pa.1 (by omega) pb.1 (by omega)).mono ?_
          rintro e w1 ⟨rfl, rfl⟩
          go_wp2_with fail
          refine (div64_c _ _ _ _ Q0 (by omega) hlr.1 hlr.2 d2).mono ?_
          rw [← HH.out]
          rintro e w1 ⟨rfl, n, rfl⟩
          go_wp2_with fail
          refine (fsigned_c _ _ _ (by omega) (by omega)).mono ?_
          rintro e w1 ⟨rfl, rfl⟩
          go_wp2
          go_returns
          rw [E.out]
          exact ⟨rfl, bdn _ n⟩
      · have hz : Wi.zb (Wi.ab a * Wi.ab b % Wi.ab c) = true := decide_eq_true (by omega)
        rw [hz] at hp
        clear hz
        simp only [Bool.not_true, Bool.not_false, Bool.and_false, Bool.and_true, Bool.false_eq_true, if_false, if_true, Int.add_zero] at hp
        have E := Lib.hid hp
        clear hp
        go_enter Try.func86, Try.ntmps86
        go_wp2_with fail
        refine (fsize_c _ _ c1 c2).mono ?_
        rintro e w1 ⟨rfl, rfl⟩
        go_wp2_with fail
        refine (fsize_c _ _ a1 a2).mono ?_
        rintro e w1 ⟨rfl, rfl⟩
        go_wp2_with fail
        refine (fsize_c _ _ b1 b2).mono ?_
        rintro e w1 ⟨rfl, rfl⟩
        go_wp2_with fail
        refine (mul64_c _ _ _ pa.1 (by omega) pb.1 (by omega)).mono ?_
        rintro e w1 ⟨rfl, rfl⟩
        go_wp2_with fail
        refine (div64_c _ _ _ _ Q0 (by omega) hlr.1 hlr.2 d2).mono ?_
        rw [← HH.out]
        rintro e w1 ⟨rfl, n, rfl⟩
        go_wp2_with fail
        refine (fsigned_c _ _ _ (by omega) (by omega)).mono ?_
        rintro e w1 ⟨rfl, rfl⟩
        go_wp2
        go_returns
        rw [E.out]
        exact ⟨rfl, bdn _ n⟩
  · have hg : Wi.scn a b c = false := by unfold Wi.scn; simp [ha, hb, hc]
    rw [hg] at hp
    clear hg
    by_cases hge : Wi.ab c ≤ Wi.Hq (Wi.ab a * Wi.ab b)
    · have E := Lib.hid (ie_no (v := Wi.dv (a * b) c (-1)) (by have := F1 hge; rw [hp]; (first | rw [Wi.sg_t] | rw [Wi.sg_f]); split <;> omega))
      clear hp hHL F1 F2
      go_enter Try.func86, Try.ntmps86
      go_wp2_with fail
      refine (fsize_c _ _ c1 c2).mono ?_
      rintro e w1 ⟨rfl, rfl⟩
      go_wp2_with fail
      refine (fsize_c _ _ a1 a2).mono ?_
      rintro e w1 ⟨rfl, rfl⟩
      go_wp2_with fail
      refine (fsize_c _ _ b1 b2).mono ?_
      rintro e w1 ⟨rfl, rfl⟩
      go_wp2_with fail
      refine (mul64_c _ _ _ pa.1 (by omega) pb.1 (by omega)).mono ?_
      rintro e w1 ⟨rfl, rfl⟩
      go_wp2
      go_returns
      exact ⟨ret_ints E.out.1 E.out.2, Below.refl _ _⟩
    · have F3 := F2 hge
      have HH := Lib.hid hHL
      clear hHL F1 F2
      have E := Lib.hid hp
      clear hp
      simp only [Bool.false_and, Bool.false_eq_true, if_false, Int.add_zero] at E
      go_enter Try.func86, Try.ntmps86
      go_wp2_with fail
      refine (fsize_c _ _ c1 c2).mono ?_
      rintro e w1 ⟨rfl, rfl⟩
      go_wp2_with fail
      refine (fsize_c _ _ a1 a2).mono ?_
      rintro e w1 ⟨rfl, rfl⟩
      go_wp2_with fail
      refine (fsize_c _ _ b1 b2).mono ?_
      rintro e w1 ⟨rfl, rfl⟩
      go_wp2_with fail
      refine (mul64_c _ _ _ pa.1 (by omega) pb.1 (by omega)).mono ?_
      rintro e w1 ⟨rfl, rfl⟩
      go_wp2_with fail
      refine (div64_c _ _ _ _ Q0 (by omega) hlr.1 hlr.2 d2).mono ?_
      rw [← HH.out]
      rintro e w1 ⟨rfl, n, rfl⟩
      go_wp2_with fail
      refine (fsigned_c _ _ _ (by omega) (by omega)).mono ?_
      rintro e w1 ⟨rfl, rfl⟩
      go_wp2
      go_returns
      rw [E.out]
      exact ⟨rfl, bdn _ n⟩
  · have hg : Wi.scn a b c = false := by unfold Wi.scn; simp [ha, hb, hc]
    rw [hg] at hp
    clear hg
    by_cases hge : Wi.ab c ≤ Wi.Hq (Wi.ab a * Wi.ab b)
    · have E := Lib.hid (ie_no (v := Wi.dv (a * b) c (-1)) (by have := F1 hge; rw [hp]; (first | rw [Wi.sg_t] | rw [Wi.sg_f]); split <;> omega))
      clear hp hHL F1 F2
      go_enter Try.func86, Try.ntmps86
      go_wp2_with fail
      refine (fsize_c _ _ c1 c2).mono ?_
      rintro e w1 ⟨rfl, rfl⟩
      go_wp2_with fail
      refine (fsize_c _ _ a1 a2).mono ?_
      rintro e w1 ⟨rfl, rfl⟩
      go_wp2_with fail
      refine (fsize_c _ _ b1 b2).mono ?_
      rintro e w1 ⟨rfl, rfl⟩
      go_wp2_with fail
      refine (mul64_c _ _ _ pa.1 (by omega) pb.1 (by omega)).mono ?_
      rintro e w1 ⟨rfl, rfl⟩
      go_wp2
      go_returns
      exact ⟨ret_ints E.out.1 E.out.2, Below.refl _ _⟩
    · have F3 := F2 hge
      have HH := Lib.hid hHL
      clear hHL F1 F2
      have E := Lib.hid hp
      clear hp
      simp only [Bool.false_and, Bool.false_eq_true, if_false, Int.add_zero] at E
      go_enter Try.func86, Try.ntmps86
      go_wp2_with fail
      refine (fsize_c _ _ c1 c2).mono ?_
      rintro e w1 ⟨rfl, rfl⟩
      go_wp2_with fail
      refine (fsize_c _ _ a1 a2).mono ?_
      rintro e w1 ⟨rfl, rfl⟩
      go_wp2_with fail
      refine (fsize_c _ _ b1 b2).mono ?_
      rintro e w1 ⟨rfl, rfl⟩
      go_wp2_with fail
      refine (mul64_c _ _ _ pa.1 (by omega) pb.1 (by omega)).mono ?_
      rintro e w1 ⟨rfl, rfl⟩
      go_wp2_with fail
      refine (div64_c _ _ _ _ Q0 (by omega) hlr.1 hlr.2 d2).mono ?_
      rw [← HH.out]
      rintro e w1 ⟨rfl, n, rfl⟩
      go_wp2_with fail
      refine (fsigned_c _ _ _ (by omega) (by omega)).mono ?_
      rintro e w1 ⟨rfl, rfl⟩
      go_wp2
      go_returns
      rw [E.out]
      exact ⟨rfl, bdn _ n⟩
  · have hg : Wi.scn a b c = true := by unfold Wi.scn; simp [ha, hb, hc]
    rw [hg] at hp
    clear hg
    by_cases hge : Wi.ab c ≤ Wi.Hq (Wi.ab a * Wi.ab b)
    · have E := Lib.hid (ie_no (v := Wi.dv (a * b) c (-1)) (by have := F1 hge; rw [hp]; (first | rw [Wi.sg_t] | rw [Wi.sg_f]); split <;> omega))
      clear hp hHL F1 F2
      go_enter Try.func86, Try.ntmps86
      go_wp2_with fail
      refine (fsize_c _ _ c1 c2).mono ?_
      rintro e w1 ⟨rfl, rfl⟩
      go_wp2_with fail
      refine (fsize_c _ _ a1 a2).mono ?_
      rintro e w1 ⟨rfl, rfl⟩
      go_wp2_with fail
      refine (fsize_c _ _ b1 b2).mono ?_
      rintro e w1 ⟨rfl, rfl⟩
      go_wp2_with fail
      refine (mul64_c _ _ _ pa.1 (by omega) pb.1 (by omega)).mono ?_
      rintro e w1 ⟨rfl, rfl⟩
      go_wp2
      go_returns
      exact ⟨ret_ints E.out.1 E.out.2, Below.refl _ _⟩
    · have F3 := F2 hge
      have HH := Lib.hid hHL
      clear hHL F1 F2
      by_cases hr : 0 < Wi.ab a * Wi.ab b % Wi.ab c
      · have hz : Wi.zb (Wi.ab a * Wi.ab b % Wi.ab c) = false := decide_eq_false (by omega)
        rw [hz] at hp
        clear hz
        simp only [Bool.not_true, Bool.not_false, Bool.and_false, Bool.and_true, Bool.false_eq_true, if_false, if_true, Int.add_zero] at hp
        by_cases hm : Wi.ab a * Wi.ab b / Wi.ab c = 18446744073709551615
        · have E := Lib.hid (ie_no (v := Wi.dv (a * b) c (-1)) (by rw [hp, (sgi _).2]; omega))
          have hqm : (Wi.ab a * Wi.ab b / Wi.ab c == 18446744073709551615) = true := by simpa using hm
          clear hp hm
          go_enter Try.func86, Try.ntmps86
          go_wp2_with fail
          refine (fsize_c _ _ c1 c2).mono ?_
          rintro e w1 ⟨rfl, rfl⟩
          go_wp2_with fail
          refine (fsize_c _ _ a1 a2).mono ?_
          rintro e w1 ⟨rfl, rfl⟩
          go_wp2_with fail
          refine (fsize_c _ _ b1 b2).mono ?_
          rintro e w1 ⟨rfl, rfl⟩
          go_wp2_with fail
          refine (mul64_c _ _ _ pa.1 (by omega) pb.1 (by omega)).mono ?_
          rintro e w1 ⟨rfl, rfl⟩
          go_wp2_with fail
          refine (div64_c _ _ _ _ Q0 (by omega) hlr.1 hlr.2 d2).mono ?_
          rw [← HH.out]
          rintro e w1 ⟨rfl, n, rfl⟩
          go_wp2
          go_returns
          exact ⟨ret_ints E.out.1 E.out.2, bdn _ n⟩
        · have E := Lib.hid hp
          have hqm : (Wi.ab a * Wi.ab b / Wi.ab c == 18446744073709551615) = false := by simpa using hm
          have hq1 := IntWalk.u64_in (Wi.ab a * Wi.ab b / Wi.ab c + 1) ⟨by omega, by omega⟩
          clear hp
          go_enter Try.func86, Try.ntmps86
          go_wp2_with fail
          refine (fsize_c _ _ c1 c2).mono ?_
          rintro e w1 ⟨rfl, rfl⟩
          go_wp2_with fail
          refine (fsize_c _ _ a1 a2).mono ?_
          rintro e w1 ⟨rfl, rfl⟩
          go_wp2_with fail
          refine (fsize_c _ _ b1 b2).mono ?_
          rintro e w1 ⟨rfl, rfl⟩
          go_wp2_with fail
          refine (mul64_c _ _ _ pa.1 (by omega) pb.1 (by omega)).mono ?_
          rintro e w1 ⟨rfl, rfl⟩
          go_wp2_with fail
          refine (div64_c _ _ _ _ Q0 (by omega) hlr.1 hlr.2 d2).mono ?_
          rw [← HH.out]
          rintro e w1 ⟨rfl, n, rfl⟩
          go_wp2_with fail
          refine (fsigned_c _ _ _ (by omega) (by omega)).mono ?_
          rintro e w1 ⟨rfl, rfl⟩
          go_wp2
          go_returns
          rw [E.out]
          exact ⟨rfl, bdn _ n⟩
      · have hz : Wi.zb (Wi.ab a * Wi.ab b % Wi.ab c) = true := decide_eq_true (by omega)
        rw [hz] at hp
        clear hz
        simp only [Bool.not_true, Bool.not_false, Bool.and_false, Bool.and_true, Bool.false_eq_true, if_false, if_true, Int.add_zero] at hp
        have E := Lib.hid hp
        clear hp
        go_enter Try.func86, Try.ntmps86
        go_wp2_with fail
        refine (fsize_c _ _ c1 c2).mono ?_
        rintro e w1 ⟨rfl, rfl⟩
        go_wp2_with fail
        refine (fsize_c _ _ a1 a2).mono ?_
        rintro e w1 ⟨rfl, rfl⟩
        go_wp2_with fail
        refine (fsize_c _ _ b1 b2).mono ?_
        rintro e w1 ⟨rfl, rfl⟩
        go_wp2_with fail
        refine (mul64_c _ _ _ pa.1 (by omega) pb.1 (by omega)).mono ?_
        rintro e w1 ⟨rfl, rfl⟩
        go_wp2_with fail
        refine (div64_c _ _ _ _ Q0 (by omega) hlr.1 hlr.2 d2).mono ?_
        rw [← HH.out]
        rintro e w1 ⟨rfl, n, rfl⟩
        go_wp2_with fail
        refine (fsigned_c _ _ _ (by omega) (by omega)).mono ?_
        rintro e w1 ⟨rfl, rfl⟩
        go_wp2
        go_returns
        rw [E.out]
        exact ⟨rfl, bdn _ n⟩
  · have hg : Wi.scn a b c = false := by unfold Wi.scn; simp [ha, hb, hc]
    rw [hg] at hp
    clear hg
    by_cases hge : Wi.ab c ≤ Wi.Hq (Wi.ab a * Wi.ab b)
    · have E := Lib.hid (ie_no (v := Wi.dv (a * b) c (-1)) (by have := F1 hge; rw [hp]; (first | rw [Wi.sg_t] | rw [Wi.sg_f]); split <;> omega))
      clear hp hHL F1 F2
      go_enter Try.func86, Try.ntmps86
      go_wp2_with fail
      refine (fsize_c _ _ c1 c2).mono ?_
      rintro e w1 ⟨rfl, rfl⟩
      go_wp2_with fail
      refine (fsize_c _ _ a1 a2).mono ?_
      rintro e w1 ⟨rfl, rfl⟩
      go_wp2_with fail
      refine (fsize_c _ _ b1 b2).mono ?_
      rintro e w1 ⟨rfl, rfl⟩
      go_wp2_with fail
      refine (mul64_c _ _ _ pa.1 (by omega) pb.1 (by omega)).mono ?_
      rintro e w1 ⟨rfl, rfl⟩
      go_wp2
      go_returns
      exact ⟨ret_ints E.out.1 E.out.2, Below.refl _ _⟩
    · have F3 := F2 hge
      have HH := Lib.hid hHL
      clear hHL F1 F2
      have E := Lib.hid hp
      clear hp
      simp only [Bool.false_and, Bool.false_eq_true, if_false, Int.add_zero] at E
      go_enter Try.func86, Try.ntmps86
      go_wp2_with fail
      refine (fsize_c _ _ c1 c2).mono ?_
      rintro e w1 ⟨rfl, rfl⟩
      go_wp2_with fail
      refine (fsize_c _ _ a1 a2).mono ?_
      rintro e w1 ⟨rfl, rfl⟩
      go_wp2_with fail
      refine (fsize_c _ _ b1 b2).mono ?_
      rintro e w1 ⟨rfl, rfl⟩
      go_wp2_with fail
      refine (mul64_c _ _ _ pa.1 (by omega) pb.1 (by omega)).mono ?_
      rintro e w1 ⟨rfl, rfl⟩
      go_wp2_with fail
      refine (div64_c _ _ _ _ Q0 (by omega) hlr.1 hlr.2 d2).mono ?_
      rw [← HH.out]
      rintro e w1 ⟨rfl, n, rfl⟩
      go_wp2_with fail
      refine (fsigned_c _ _ _ (by omega) (by omega)).mono ?_
      rintro e w1 ⟨rfl, rfl⟩
      go_wp2
      go_returns
      rw [E.out]
      exact ⟨rfl, bdn _ n⟩
  · have hg : Wi.scn a b c = true := by unfold Wi.scn; simp [ha, hb, hc]
    rw [hg] at hp
    clear hg
    by_cases hge : Wi.ab c ≤ Wi.Hq (Wi.ab a * Wi.ab b)
    · have E := Lib.hid (ie_no (v := Wi.dv (a * b) c (-1)) (by have := F1 hge; rw [hp]; (first | rw [Wi.sg_t] | rw [Wi.sg_f]); split <;> omega))
      clear hp hHL F1 F2
      go_enter Try.func86, Try.ntmps86
      go_wp2_with fail
      refine (fsize_c _ _ c1 c2).mono ?_
      rintro e w1 ⟨rfl, rfl⟩
      go_wp2_with fail
      refine (fsize_c _ _ a1 a2).mono ?_
      rintro e w1 ⟨rfl, rfl⟩
      go_wp2_with fail
      refine (fsize_c _ _ b1 b2).mono ?_
      rintro e w1 ⟨rfl, rfl⟩
      go_wp2_with fail
      refine (mul64_c _ _ _ pa.1 (by omega) pb.1 (by omega)).mono ?_
      rintro e w1 ⟨rfl, rfl⟩
      go_wp2
      go_returns
      exact ⟨ret_ints E.out.1 E.out.2, Below.refl _ _⟩
    · have F3 := F2 hge
      have HH := Lib.hid hHL
      clear hHL F1 F2
      by_cases hr : 0 < Wi.ab a * Wi.ab b % Wi.ab c
      · have hz : Wi.zb (Wi.ab a * Wi.ab b % Wi.ab c) = false := decide_eq_false (by omega)
        rw [hz] at hp
        clear hz
        simp only [Bool.not_true, Bool.not_false, Bool.and_false, Bool.and_true, Bool.false_eq_true, if_false, if_true, Int.add_zero] at hp
        by_cases hm : Wi.ab a * Wi.ab b / Wi.ab c = 18446744073709551615
        · have E := Lib.hid (ie_no (v := Wi.dv (a * b) c (-1)) (by rw [hp, (sgi _).2]; omega))
          have hqm : (Wi.ab a * Wi.ab b / Wi.ab c == 18446744073709551615) = true := by simpa using hm
          clear hp hm
          go_enter Try.func86, Try.ntmps86
          go_wp2_with fail
          refine (fsize_c _ _ c1 c2).mono ?_
          rintro e w1 ⟨rfl, rfl⟩
          go_wp2_with fail
          refine (fsize_c _ _ a1 a2).mono ?_
          rintro e w1 ⟨rfl, rfl⟩
          go_wp2_with fail
          refine (fsize_c _ _ b1 b2).mono ?_
          rintro e w1 ⟨rfl, rfl⟩
          go_wp2_with fail
          refine (mul64_c _ _ _ pa.1 (by omega) pb.1 (by omega)).mono ?_
          rintro e w1 ⟨rfl, rfl⟩
          go_wp2_with fail
          refine (div64_c _ _ _ _ Q0 (by omega) hlr.1 hlr.2 d2).mono ?_
          rw [← HH.out]
          rintro e w1 ⟨rfl, n, rfl⟩
          go_wp2
          go_returns
          exact ⟨ret_ints E.out.1 E.out.2, bdn _ n⟩
        · have E := Lib.hid hp
          have hqm : (Wi.ab a * Wi.ab b / Wi.ab c == 18446744073709551615) = false := by simpa using hm
          have hq1 := IntWalk.u64_in (Wi.ab a * Wi.ab b / Wi.ab c + 1) ⟨by omega, by omega⟩
          clear hp
          go_enter Try.func86, Try.ntmps86
          go_wp2_with fail
          refine (fsize_c _ _ c1 c2).mono ?_
          rintro e w1 ⟨rfl, rfl⟩
          go_wp2_with fail
          refine (fsize_c _ _ a1 a2).mono ?_
          rintro e w1 ⟨rfl, rfl⟩
          go_wp2_with fail
          refine (fsize_c _ _ b1 b2).mono ?_
          rintro e w1 ⟨rfl, rfl⟩
          go_wp2_with fail
          refine (mul64_c _ _ _ pa.1 (by omega) pb.1 (by omega)).mono ?_
          rintro e w1 ⟨rfl, rfl⟩
          go_wp2_with fail
          refine (div64_c _ _ _ _ Q0 (by omega) hlr.1 hlr.2 d2).mono ?_
          rw [← HH.out]
          rintro e w1 ⟨rfl, n, rfl⟩
          go_wp2_with fail
          refine (fsigned_c _ _ _ (by omega) (by omega)).mono ?_
          rintro e w1 ⟨rfl, rfl⟩
          go_wp2
          go_returns
          rw [E.out]
          exact ⟨rfl, bdn _ n⟩
      · have hz : Wi.zb (Wi.ab a * Wi.ab b % Wi.ab c) = true := decide_eq_true (by omega)
        rw [hz] at hp
        clear hz
        simp only [Bool.not_true, Bool.not_false, Bool.and_false, Bool.and_true, Bool.false_eq_true, if_false, if_true, Int.add_zero] at hp
        have E := Lib.hid hp
        clear hp
        go_enter Try.func86, Try.ntmps86
        go_wp2_with fail
        refine (fsize_c _ _ c1 c2).mono ?_
        rintro e w1 ⟨rfl, rfl⟩
        go_wp2_with fail
        refine (fsize_c _ _ a1 a2).mono ?_
        rintro e w1 ⟨rfl, rfl⟩
        go_wp2_with fail
        refine (fsize_c _ _ b1 b2).mono ?_
        rintro e w1 ⟨rfl, rfl⟩
        go_wp2_with fail
        refine (mul64_c _ _ _ pa.1 (by omega) pb.1 (by omega)).mono ?_
        rintro e w1 ⟨rfl, rfl⟩
        go_wp2_with fail
        refine (div64_c _ _ _ _ Q0 (by omega) hlr.1 hlr.2 d2).mono ?_
        rw [← HH.out]
        rintro e w1 ⟨rfl, n, rfl⟩
        go_wp2_with fail
        refine (fsigned_c _ _ _ (by omega) (by omega)).mono ?_
        rintro e w1 ⟨rfl, rfl⟩
        go_wp2
        go_returns
        rw [E.out]
        exact ⟨rfl, bdn _ n⟩
  · have hg : Wi.scn a b c = true := by unfold Wi.scn; simp [ha, hb, hc]
    rw [hg] at hp
    clear hg
    by_cases hge : Wi.ab c ≤ Wi.Hq (Wi.ab a * Wi.ab b)
    · have E := Lib.hid (ie_no (v := Wi.dv (a * b) c (-1)) (by have := F1 hge; rw [hp]; (first | rw [Wi.sg_t] | rw [Wi.sg_f]); split <;> omega))
      clear hp hHL F1 F2
      go_enter Try.func86, Try.ntmps86
      go_wp2_with fail
      refine (fsize_c _ _ c1 c2).mono ?_
      rintro e w1 ⟨rfl, rfl⟩
      go_wp2_with fail
      refine (fsize_c _ _ a1 a2).mono ?_
      rintro e w1 ⟨rfl, rfl⟩
      go_wp2_with fail
      refine (fsize_c _ _ b1 b2).mono ?_
      rintro e w1 ⟨rfl, rfl⟩
      go_wp2_with fail
      refine (mul64_c _ _ _ pa.1 (by omega) pb.1 (by omega)).mono ?_
      rintro e w1 ⟨rfl, rfl⟩
      go_wp2
      go_returns
      exact ⟨ret_ints E.out.1 E.out.2, Below.refl _ _⟩
    · have F3 := F2 hge
      have HH := Lib.hid hHL
      clear hHL F1 F2
      by_cases hr : 0 < Wi.ab a * Wi.ab b % Wi.ab c
      · have hz : Wi.zb (Wi.ab a * Wi.ab b % Wi.ab c) = false := decide_eq_false (by omega)
        rw [hz] at hp
        clear hz
        simp only [Bool.not_true, Bool.not_false, Bool.and_false, Bool.and_true, Bool.false_eq_true, if_false, if_true, Int.add_zero] at hp
        by_cases hm : Wi.ab a * Wi.ab b / Wi.ab c = 18446744073709551615
        · have E := Lib.hid (ie_no (v := Wi.dv (a * b) c (-1)) (by rw [hp, (sgi _).2]; omega))
          have hqm : (Wi.ab a * Wi.ab b / Wi.ab c == 18446744073709551615) = true := by simpa using hm
          clear hp hm
          go_enter Try.func86, Try.ntmps86
          go_wp2_with fail
          refine (fsize_c _ _ c1 c2).mono ?_
          rintro e w1 ⟨rfl, rfl⟩
          go_wp2_with fail
          refine (fsize_c _ _ a1 a2).mono ?_
          rintro e w1 ⟨rfl, rfl⟩
          go_wp2_with fail
          refine (fsize_c _ _ b1 b2).mono ?_
          rintro e w1 ⟨rfl, rfl⟩
          go_wp2_with fail
          refine (mul64_c _ _ _ pa.1 (by omega) pb.1 (by omega)).mono ?_
          rintro e w1 ⟨rfl, rfl⟩
          go_wp2_with fail
          refine (div64_c _ _ _ _ Q0 (by omega) hlr.1 hlr.2 d2).mono ?_
          rw [← HH.out]
          rintro e w1 ⟨rfl, n, rfl⟩
          go_wp2
          go_returns
          exact ⟨ret_ints E.out.1 E.out.2, bdn _ n⟩
        · have E := Lib.hid hp
          have hqm : (Wi.ab a * Wi.ab b / Wi.ab c == 18446744073709551615) = false := by simpa using hm
          have hq1 := IntWalk.u64_in (Wi.ab a * Wi.ab b / Wi.ab c + 1) ⟨by omega, by omega⟩
          clear hp
          go_enter Try.func86, Try.ntmps86
          go_wp2_with fail
          refine (fsize_c _ _ c1 c2).mono ?_
          rintro e w1 ⟨rfl, rfl⟩
          go_wp2_with fail
          refine (fsize_c _ _ a1 a2).mono ?_
          rintro e w1 ⟨rfl, rfl⟩
          go_wp2_with fail
          refine (fsize_c _ _ b1 b2).mono ?_
          rintro e w1 ⟨rfl, rfl⟩
          go_wp2_with fail
          refine (mul64_c _ _ _ pa.1 (by omega) pb.1 (by omega)).mono ?_
          rintro e w1 ⟨rfl, rfl⟩
          go_wp2_with fail
          refine (div64_c _ _ _ _ Q0 (by omega) hlr.1 hlr.2 d2).mono ?_
          rw [← HH.out]
          rintro e w1 ⟨rfl, n, rfl⟩
          go_wp2_with fail
          refine (fsigned_c _ _ _ (by omega) (by omega)).mono ?_
          rintro e w1 ⟨rfl, rfl⟩
          go_wp2
          go_returns
          rw [E.out]
          exact ⟨rfl, bdn _ n⟩
      · have hz : Wi.zb (Wi.ab a * Wi.ab b % Wi.ab c) = true := decide_eq_true (by omega)
        rw [hz] at hp
        clear hz
        simp only [Bool.not_true, Bool.not_false, Bool.and_false, Bool.and_true, Bool.false_eq_true, if_false, if_true, Int.add_zero] at hp
        have E := Lib.hid hp
        clear hp
        go_enter Try.func86, Try.ntmps86
        go_wp2_with fail
        refine (fsize_c _ _ c1 c2).mono ?_
        rintro e w1 ⟨rfl, rfl⟩
        go_wp2_with fail
        refine (fsize_c _ _ a1 a2).mono ?_
        rintro e w1 ⟨rfl, rfl⟩
        go_wp2_with fail
        refine (fsize_c _ _ b1 b2).mono ?_
        rintro e w1 ⟨rfl, rfl⟩
        go_wp2_with fail
        refine (mul64_c _ _ _ pa.1 (by omega) pb.1 (by omega)).mono ?_
        rintro e w1 ⟨rfl, rfl⟩
        go_wp2_with fail
        refine (div64_c _ _ _ _ Q0 (by omega) hlr.1 hlr.2 d2).mono ?_
        rw [← HH.out]
        rintro e w1 ⟨rfl, n, rfl⟩
        go_wp2_with fail
        refine (fsigned_c _ _ _ (by omega) (by omega)).mono ?_
        rintro e w1 ⟨rfl, rfl⟩
        go_wp2
        go_returns
        rw [E.out]
        exact ⟨rfl, bdn _ n⟩
  · have hg : Wi.scn a b c = false := by unfold Wi.scn; simp [ha, hb, hc]
    rw [hg] at hp
    clear hg
    by_cases hge : Wi.ab c ≤ Wi.Hq (Wi.ab a * Wi.ab b)
    · have E := Lib.hid (ie_no (v := Wi.dv (a * b) c (-1)) (by have := F1 hge; rw [hp]; (first | rw [Wi.sg_t] | rw [Wi.sg_f]); split <;> omega))
      clear hp hHL F1 F2
      go_enter Try.func86, Try.ntmps86
      go_wp2_with fail
      refine (fsize_c _ _ c1 c2).mono ?_
      rintro e w1 ⟨rfl, rfl⟩
      go_wp2_with fail
      refine (fsize_c _ _ a1 a2).mono ?_
      rintro e w1 ⟨rfl, rfl⟩
      go_wp2_with fail
      refine (fsize_c _ _ b1 b2).mono ?_
      rintro e w1 ⟨rfl, rfl⟩
      go_wp2_with fail
      refine (mul64_c _ _ _ pa.1 (by omega) pb.1 (by omega)).mono ?_
      rintro e w1 ⟨rfl, rfl⟩
      go_wp2
      go_returns
      exact ⟨ret_ints E.out.1 E.out.2, Below.refl _ _⟩
    · have F3 := F2 hge
      have HH := Lib.hid hHL
      clear hHL F1 F2
      have E := Lib.hid hp
      clear hp
      simp only [Bool.false_and, Bool.false_eq_true, if_false, Int.add_zero] at E
      go_enter Try.func86, Try.ntmps86
      go_wp2_with fail
      refine (fsize_c _ _ c1 c2).mono ?_
      rintro e w1 ⟨rfl, rfl⟩
      go_wp2_with fail
      refine (fsize_c _ _ a1 a2).mono ?_
      rintro e w1 ⟨rfl, rfl⟩
      go_wp2_with fail
      refine (fsize_c _ _ b1 b2).mono ?_
      rintro e w1 ⟨rfl, rfl⟩
      go_wp2_with fail
      refine (mul64_c _ _ _ pa.1 (by omega) pb.1 (by omega)).mono ?_
      rintro e w1 ⟨rfl, rfl⟩
      go_wp2_with fail
      refine (div64_c _ _ _ _ Q0 (by omega) hlr.1 hlr.2 d2).mono ?_
      rw [← HH.out]
      rintro e w1 ⟨rfl, n, rfl⟩
      go_wp2_with fail
      refine (fsigned_c _ _ _ (by omega) (by omega)).mono ?_
      rintro e w1 ⟨rfl, rfl⟩
      go_wp2
      go_returns
      rw [E.out]
      exact ⟨rfl, bdn _ n⟩
set_option maxRecDepth 100000 in
set_option maxHeartbeats 4000000 in
theorem muldiv_c (a b c : Int) (w : World) (a1 : -9223372036854775808 ≤ a) (a2 : a ≤ 9223372036854775807) (b1 : -9223372036854775808 ≤ b) (b2 : b ≤ 9223372036854775807) (c1 : -9223372036854775808 ≤ c) (c2 : c ≤ 9223372036854775807) : Calls Try.prog 64 #[.int .i64 a, .int .i64 b, .int .i64 c] w fun e w' =>
    e = .returned (.tuple #[.int .i64 (if c = 0 then 0 else Wi.iv (Wi.dv (a * b) c (-1))), .int .i64 (if c = 0 then 1 else Wi.er (Wi.dv (a * b) c (-1)))]) ∧ Below w.heap.size w w' := by
  have K := scale0_c a b c w a1 a2 b1 b2 c1 c2
  generalize (if c = 0 then (0 : Int) else Wi.iv (Wi.dv (a * b) c (-1))) = r1 at K ⊢
  generalize (if c = 0 then (1 : Int) else Wi.er (Wi.dv (a * b) c (-1))) = r2 at K ⊢
  go_enter Try.func64, Try.ntmps64
  go_wp2_with fail
  refine K.mono ?_
  rintro e w1 ⟨rfl, hb⟩
  go_wp2
  go_returns
  exact ⟨rfl, hb⟩
end Go.Proofs.Ytclohghongpfkaa
