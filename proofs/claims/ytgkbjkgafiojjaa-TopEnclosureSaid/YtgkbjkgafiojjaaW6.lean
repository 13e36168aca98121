/-
  Contracts: a number times an int64; the reference's words for sizes and signs.
-/
import Derived.Test.YtgkbjkgafiojjaaW5
namespace Go.Proofs.Ytgkbjkgafiojjaa
set_option linter.unusedVariables false
set_option linter.unusedSimpArgs false
open Go.RowKit

theorem times_facts {x a : Int} (hx : Wi.inW x) (h1 : -9223372036854775808 ≤ a) (h2 : a ≤ 9223372036854775807) :
    0 ≤ Wi.Hq (Wi.ab x) ∧ Wi.Hq (Wi.ab x) ≤ 9223372036854775808 ∧ 0 ≤ Wi.Lr (Wi.ab x) ∧ Wi.Lr (Wi.ab x) ≤ 18446744073709551615 ∧ 0 ≤ Wi.ab a ∧ Wi.ab a ≤ 9223372036854775808 ∧
    0 ≤ Wi.Hq (Wi.Lr (Wi.ab x) * Wi.ab a) ∧ Wi.Hq (Wi.Lr (Wi.ab x) * Wi.ab a) ≤ 18446744073709551615 ∧ 0 ≤ Wi.Lr (Wi.Lr (Wi.ab x) * Wi.ab a) ∧ Wi.Lr (Wi.Lr (Wi.ab x) * Wi.ab a) ≤ 18446744073709551615 ∧
    0 ≤ Wi.Hq (Wi.Hq (Wi.ab x) * Wi.ab a) ∧ Wi.Hq (Wi.Hq (Wi.ab x) * Wi.ab a) ≤ 4611686018427387904 ∧ 0 ≤ Wi.Lr (Wi.Hq (Wi.ab x) * Wi.ab a) ∧ Wi.Lr (Wi.Hq (Wi.ab x) * Wi.ab a) ≤ 18446744073709551615 := by
  have p := (Wi.ab_bd hx).2
  have p0 := (Wi.ab_bd hx).1.1
  have q := ab_i h1 h2
  have e1 : 0 ≤ Wi.Hq (Wi.ab x) ∧ Wi.Hq (Wi.ab x) ≤ 9223372036854775808 := by unfold Wi.Hq; omega
  have e2 := Wi.Lr_bd (Wi.ab x)
  have e3 := Int.mul_nonneg e2.1 q.1
  have e4 := Int.mul_le_mul e2.2 q.2 q.1 (by omega)
  have e5 := Int.mul_nonneg e1.1 q.1
  have e6 := Int.mul_le_mul e1.2 q.2 q.1 (by omega)
  have e7 := Wi.Lr_bd (Wi.Lr (Wi.ab x) * Wi.ab a)
  have e8 := Wi.Lr_bd (Wi.Hq (Wi.ab x) * Wi.ab a)
  refine ⟨e1.1, e1.2, e2.1, e2.2, q.1, q.2, ?_, ?_, e7.1, e7.2, ?_, ?_, e8.1, e8.2⟩ <;> (generalize Wi.Lr (Wi.ab x) * Wi.ab a = P at *; generalize Wi.Hq (Wi.ab x) * Wi.ab a = Q at *; unfold Wi.Hq; omega)
/-- The product of the sizes, out of its parts. -/
theorem times_sum (x a : Int) : Wi.ab x * Wi.ab a = (Wi.Hq (Wi.Hq (Wi.ab x) * Wi.ab a) * 18446744073709551616 + Wi.Lr (Wi.Hq (Wi.ab x) * Wi.ab a)) * 18446744073709551616 + (Wi.Hq (Wi.Lr (Wi.ab x) * Wi.ab a) * 18446744073709551616 + Wi.Lr (Wi.Lr (Wi.ab x) * Wi.ab a)) := by
  have h := Wi.HL (Wi.ab x)
  rw [← Wi.HL, ← Wi.HL]
  generalize Wi.ab x = s at *
  generalize Wi.ab a = m at *
  generalize Wi.Hq s = u at *
  generalize Wi.Lr s = v at *
  subst h
  rw [Int.add_mul, Int.mul_assoc, Int.mul_comm 18446744073709551616, ← Int.mul_assoc]
theorem ab_times (x a : Int) : Wi.sg (Wi.ab x * Wi.ab a) (!Wi.ngb x == decide (a < 0)) = x * a := ab_mul x a
theorem sg_big {s : Int} (n : Bool) (h : 340282366920938463463374607431768211456 ≤ s) : Wi.sg s n < -170141183460469231731687303715884105728 ∨ 170141183460469231731687303715884105728 ≤ Wi.sg s n := by
  cases n <;> simp only [Wi.sg_t, Wi.sg_f] <;> omega
end Go.Proofs.Ytgkbjkgafiojjaa
