/-
  Plain: the square root as a number; no program in sight.
-/
import Derived.Test.YtgkbjkgafiojjaaPlain
namespace Go.Proofs.Ytgkbjkgafiojjaa
set_option linter.unusedVariables false
set_option linter.unusedSimpArgs false
namespace Wi
open Classical in
noncomputable def sqv (x : Int) : Int := if h : ∃ r, Rt x r 0 then Classical.choose h else 0
theorem sqv_of {x r : Int} (h : Rt x r 0) : sqv x = r := by
  unfold sqv
  rw [dif_pos ⟨r, h⟩]
  exact rt_uniq2 (Classical.choose_spec (⟨r, h⟩ : ∃ r, Rt x r 0)) h
noncomputable def sqV (x : Int) : Int := if x < 0 then 0 else sqv x
def sqB (x : Int) : Bool := decide (0 ≤ x)
theorem sqV_neg {x : Int} (h : x < 0) : sqV x = 0 := if_pos h
theorem sqV_pos {x r : Int} (h : 0 ≤ x) (hr : Rt x r 0) : sqV x = r := by unfold sqV; rw [if_neg (by omega), sqv_of hr]
/-- A root so far and its next bit. -/
theorem rt_next {x r : Int} {n : Nat} (hx : inS x) (h : Rt x r (n + 1)) (hn : n < 64) : ∃ m : Int, 0 ≤ m ∧ r = m * 2 ^ (n + 1) ∧ r + 2 ^ n ≤ 18446744073709551615 ∧ (2 : Int) ^ n ≤ 9223372036854775808 ∧ 1 ≤ (2 : Int) ^ n := by
  obtain ⟨a, b, d, m, e⟩ := h
  have hp : (0 : Int) < 2 ^ n := Int.pow_pos (by decide)
  have hm : 0 ≤ m := by
    apply Classical.byContradiction
    intro q
    have : m * 2 ^ (n + 1) ≤ (-1) * 2 ^ (n + 1) := Int.mul_le_mul_of_nonneg_right (by omega) (Int.le_of_lt (Int.pow_pos (by decide)))
    have hp2 : (0 : Int) < 2 ^ (n + 1) := Int.pow_pos (by decide)
    omega
  have e2 : (2 : Int) ^ n ≤ 9223372036854775808 := by
    have h63 : (2 : Int) ^ n ≤ 2 ^ 63 := by
      have := Nat.pow_le_pow_right (show 0 < 2 by decide) (show n ≤ 63 by omega)
      exact_mod_cast this
    have e3 : (2 : Int) ^ 63 = 9223372036854775808 := by decide
    omega
  refine ⟨m, hm, e, ?_, e2, hp⟩
  have hr := rt_bd hx ⟨a, b, d, m, e⟩
  -- r is a multiple of 2^(n+1), as 2^64 is
  have e4 : (18446744073709551616 : Int) = 2 ^ (63 - n) * 2 ^ (n + 1) := by
    rw [← Int.pow_add, show 63 - n + (n + 1) = 64 by omega]; rfl
  have e5 : m + 1 ≤ 2 ^ (63 - n) := by
    apply Classical.byContradiction
    intro q
    have h1 : (2 : Int) ^ (63 - n) * 2 ^ (n + 1) ≤ m * 2 ^ (n + 1) := Int.mul_le_mul_of_nonneg_right (by omega) (Int.le_of_lt (Int.pow_pos (by decide)))
    omega
  have h2 : (m + 1) * 2 ^ (n + 1) ≤ 2 ^ (63 - n) * 2 ^ (n + 1) := Int.mul_le_mul_of_nonneg_right e5 (Int.le_of_lt (Int.pow_pos (by decide)))
  rw [Int.add_mul, Int.one_mul, ← e, ← e4, Int.pow_succ] at h2
  omega
end Wi
end Go.Proofs.Ytgkbjkgafiojjaa
