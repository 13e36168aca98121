/-
  The walk of WideRoots.
-/
import Derived.Test.YtnkgoojjnikaeaaW23
import Derived.Test.YtnkgoojjnikaeaaBlk
namespace Go.Proofs.Ytnkgoojjnikaeaa
set_option linter.unusedVariables false
set_option linter.unusedSimpArgs false
open Go.RowKit

theorem ab_sq (a : Int) : Wi.ab a * Wi.ab a = a * a := by unfold Wi.ab; split <;> simp only [Int.neg_mul_neg]
theorem sq_ab {a : Int} (h : 0 ≤ a * a) : Wi.sqV (a * a) = Wi.ab a := by
  refine Wi.sqV_pos h ⟨?_, ?_, ?_, Wi.ab a, by simp⟩
  · unfold Wi.ab; split <;> omega
  · rw [ab_sq]; omega
  · have n : 0 ≤ Wi.ab a := by unfold Wi.ab; split <;> omega
    have e := ab_sq a
    simp only [Int.pow_zero]
    rw [Int.add_mul, Int.mul_add]; omega

set_option maxRecDepth 100000 in
set_option maxHeartbeats 4000000 in
theorem law_roots (h l x a : Int) (w : World) (H : Wi.Wd h l x) (a1 : -9223372036854775808 ≤ a) (a2 : a ≤ 9223372036854775807) : Calls Try.prog 4 #[.agg #[.int .i64 h, .int .u64 l], .int .i64 a] w fun e w' =>
    e = .returned (.bool true) ∧ Below w.heap.size w w' := by
  have ma : Wi.Wd (Wi.Hq (a * a)) (Wi.Lr (a * a)) (a * a) := Wi.wd_self (mul_W a1 a2 a1 a2)
  have hn : (0 : Int) ≤ a * a := by rw [← ab_sq]; exact Int.mul_nonneg (ab_i a1 a2).1 (ab_i a1 a2).1
  have e1 := Lib.hid (sq_ab hn)
  have e2 := Lib.hid (show Wi.sqB (a * a) = true from decide_eq_true hn)
  clear hn
  by_cases hs : a < 0
  · obtain ⟨u, n, u1, u2, hu, eu⟩ := u_ex a a1 a2
    have ew : IntKind.u64.wrap (-u) = -a := by have := hu.out; rw [IntKind.wrap_u64]; omega
    rw [Wi.ab_neg hs] at e1
    go_enter Try.func4, Try.ntmps4
    have X := Blk.new w 24 #[.int .i64 h, .int .u64 l]
    have hB := ba w (.cells #[.int .i64 h, .int .u64 l] 24)
    go_wp2_with fail
    refine (awake_c _).mono ?_
    rintro e w1 ⟨rfl, hb⟩
    replace X := X.keep hb
    replace hB := bt hB hb
    clear hb
    obtain ⟨c00, c01, c02, c03⟩ := X.open2
    go_wp2_with fail
    refine (sqrt_c _ _ _ _ H).mono ?_
    rintro e w2 ⟨rfl, hb⟩
    clear c00 c01 c02 c03
    replace X := X.keep hb
    replace hB := bt hB hb
    clear hb
    obtain ⟨c00, c01, c02, c03⟩ := X.open2
    go_wp2_with fail
    refine (rsqrt_c _ _ _ _ H).mono ?_
    rintro e w3 ⟨rfl, hb⟩
    clear c00 c01 c02 c03
    replace X := X.keep hb
    replace hB := bt hB hb
    clear hb
    go_wp2_with fail
    refine (mul_c _ _ _ a1 a2 a1 a2).mono ?_
    rintro e w4 ⟨rfl, hb⟩
    replace X := X.keep hb
    replace hB := bt hB hb
    clear hb
    go_wp2_with fail
    refine (sqrt_c _ _ _ _ ma).mono ?_
    rw [e1.out, e2.out]
    rintro e w5 ⟨rfl, hb⟩
    replace X := X.keep hb
    replace hB := bt hB hb
    clear hb
    go_wp2_with fail
    go_returns
    exact ⟨rfl, hB⟩
  · have eu := IntWalk.u64_in a ⟨by omega, by omega⟩
    rw [Wi.ab_pos (by omega)] at e1
    go_enter Try.func4, Try.ntmps4
    have X := Blk.new w 24 #[.int .i64 h, .int .u64 l]
    have hB := ba w (.cells #[.int .i64 h, .int .u64 l] 24)
    go_wp2_with fail
    refine (awake_c _).mono ?_
    rintro e w1 ⟨rfl, hb⟩
    replace X := X.keep hb
    replace hB := bt hB hb
    clear hb
    obtain ⟨c00, c01, c02, c03⟩ := X.open2
    go_wp2_with fail
    refine (sqrt_c _ _ _ _ H).mono ?_
    rintro e w2 ⟨rfl, hb⟩
    clear c00 c01 c02 c03
    replace X := X.keep hb
    replace hB := bt hB hb
    clear hb
    obtain ⟨c00, c01, c02, c03⟩ := X.open2
    go_wp2_with fail
    refine (rsqrt_c _ _ _ _ H).mono ?_
    rintro e w3 ⟨rfl, hb⟩
    clear c00 c01 c02 c03
    replace X := X.keep hb
    replace hB := bt hB hb
    clear hb
    go_wp2_with fail
    refine (mul_c _ _ _ a1 a2 a1 a2).mono ?_
    rintro e w4 ⟨rfl, hb⟩
    replace X := X.keep hb
    replace hB := bt hB hb
    clear hb
    go_wp2_with fail
    refine (sqrt_c _ _ _ _ ma).mono ?_
    rw [e1.out, e2.out]
    rintro e w5 ⟨rfl, hb⟩
    replace X := X.keep hb
    replace hB := bt hB hb
    clear hb
    go_wp2_with fail
    go_returns
    exact ⟨rfl, hB⟩
end Go.Proofs.Ytnkgoojjnikaeaa
