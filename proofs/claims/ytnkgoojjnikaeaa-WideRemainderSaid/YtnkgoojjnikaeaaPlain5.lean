/-
  Plain: division of two words by one, half word by half word (Knuth's algorithm D); no program in sight.
-/
import Derived.Test.YtnkgoojjnikaeaaPlain
namespace Go.Proofs.Ytnkgoojjnikaeaa
set_option linter.unusedVariables false
set_option linter.unusedSimpArgs false
namespace Wi
/-- A digit of the quotient is being estimated: q is at least it, and r is what it leaves of the upper part. -/
structure Est (a c U u q r : Int) : Prop where
  a1 : 2147483648 ≤ a
  a2 : a ≤ 4294967295
  c1 : 0 ≤ c
  c2 : c ≤ 4294967295
  u1 : 0 ≤ u
  u2 : u ≤ 4294967295
  hU : U < a * 4294967296 + c
  U0 : 0 ≤ U
  hr : U = q * a + r
  r0 : 0 ≤ r
  q0 : 0 ≤ q
  q2 : q ≤ 4294967297
  hq : (U * 4294967296 + u) / (a * 4294967296 + c) ≤ q
theorem est_y {a c U u q r : Int} (h : Est a c U u q r) : 0 < a * 4294967296 + c := by have := h.a1; have := h.c1; omega
theorem est_d {a c U u q r : Int} (h : Est a c U u q r) : 0 ≤ (U * 4294967296 + u) / (a * 4294967296 + c) ∧ (U * 4294967296 + u) / (a * 4294967296 + c) ≤ 4294967295 := by
  have hy := est_y h
  have := h.U0; have := h.u1; have := h.u2; have := h.hU
  refine ⟨Int.ediv_nonneg (by omega) (by omega), ?_⟩
  have : (U * 4294967296 + u) / (a * 4294967296 + c) < 4294967296 := Int.ediv_lt_of_lt_mul hy (by omega)
  omega
/-- Times the divisor, in parts. -/
theorem est_mul {a c U u q r : Int} (h : Est a c U u q r) : q * (a * 4294967296 + c) = (U - r) * 4294967296 + q * c := by
  have e := h.hr
  rw [Int.mul_add, ← Int.mul_assoc]
  have : q * a = U - r := by omega
  rw [this]
theorem est_first {a c U u : Int} (a1 : 2147483648 ≤ a) (a2 : a ≤ 4294967295) (c1 : 0 ≤ c) (c2 : c ≤ 4294967295) (u1 : 0 ≤ u) (u2 : u ≤ 4294967295) (U0 : 0 ≤ U) (hU : U < a * 4294967296 + c) :
    Est a c U u (U / a) (U % a) ∧ U % a < 4294967296 := by
  have e := Int.mul_ediv_add_emod U a
  have m0 := Int.emod_nonneg U (show a ≠ 0 by omega)
  have m1 := Int.emod_lt_of_pos U (show 0 < a by omega)
  have q0 := Int.ediv_nonneg U0 (show 0 ≤ a by omega)
  have hy : 0 < a * 4294967296 + c := by omega
  have q2 : U / a < 4294967298 := Int.ediv_lt_of_lt_mul (by omega) (by
    have : 4294967298 * a = a * 4294967296 + 2 * a := by omega
    omega)
  refine ⟨⟨a1, a2, c1, c2, u1, u2, hU, U0, by rw [Int.mul_comm (U / a)]; omega, m0, q0, by omega, ?_⟩, by omega⟩
  have : (U * 4294967296 + u) / (a * 4294967296 + c) < U / a + 1 := Int.ediv_lt_of_lt_mul hy (by
    have e2 : (U / a + 1) * (a * 4294967296 + c) = (a * (U / a) + a) * 4294967296 + (U / a + 1) * c := by
      rw [Int.mul_add, ← Int.mul_assoc, Int.add_mul, Int.one_mul, Int.mul_comm (U / a) a]
    have e3 : 0 ≤ (U / a + 1) * c := Int.mul_nonneg (by omega) c1
    rw [e2]
    omega)
  omega
/-- The estimate is too great: one less. -/
theorem est_next {a c U u q r : Int} (h : Est a c U u q r) (t : 4294967296 ≤ q ∨ r * 4294967296 + u < q * c) : Est a c U u (q - 1) (r + a) ∧ 1 ≤ q := by
  have hd := est_d h
  have hy := est_y h
  have key : (U * 4294967296 + u) / (a * 4294967296 + c) < q := by
    rcases t with t | t
    · omega
    · refine Int.ediv_lt_of_lt_mul hy ?_
      rw [est_mul h]
      have := h.hr
      omega
  have a1 := h.a1
  have r0 := h.r0
  have q2 := h.q2
  refine ⟨⟨h.a1, h.a2, h.c1, h.c2, h.u1, h.u2, h.hU, h.U0, ?_, by omega, by omega, by omega, by omega⟩, by omega⟩
  have := h.hr
  rw [Int.sub_mul, Int.one_mul]; omega
/-- The estimate is right: its test says so. -/
theorem est_done {a c U u q r : Int} (h : Est a c U u q r) (t : q * c ≤ r * 4294967296 + u) : q = (U * 4294967296 + u) / (a * 4294967296 + c) := by
  have hy := est_y h
  have : q ≤ (U * 4294967296 + u) / (a * 4294967296 + c) := by
    refine Int.le_ediv_of_mul_le hy ?_
    rw [est_mul h]
    have := h.hr
    omega
  have := h.hq
  omega
/-- The estimate is right: what it leaves is no half word any more. -/
theorem est_break {a c U u q r : Int} (h : Est a c U u q r) (hr : 4294967296 ≤ r) (hq : q ≤ 4294967296) : q = (U * 4294967296 + u) / (a * 4294967296 + c) := by
  refine est_done h ?_
  have := Int.mul_le_mul hq h.c2 h.c1 (by omega)
  have := h.u1
  omega
/-- The two digits make the quotient. -/
theorem knuth {hi lo y0 S y U u1 u0 q1 V q0 : Int} (hS : 1 ≤ S) (hy0 : 0 < y0) (hy : y = y0 * S) (hT : (hi * 18446744073709551616 + lo) * S = (U * 4294967296 + u1) * 4294967296 + u0)
    (h1 : q1 = (U * 4294967296 + u1) / y) (hV : V = U * 4294967296 + u1 - q1 * y) (h0 : q0 = (V * 4294967296 + u0) / y) :
    q1 * 4294967296 + q0 = (hi * 18446744073709551616 + lo) / y0 ∧ (V * 4294967296 + u0 - q0 * y) / S = (hi * 18446744073709551616 + lo) % y0 := by
  generalize hi * 18446744073709551616 + lo = X at *
  have hyp : 0 < y := by rw [hy]; exact Int.mul_pos hy0 (by omega)
  have e1 : X * S = q1 * 4294967296 * y + (V * 4294967296 + u0) := by
    rw [hT, hV, Int.sub_mul]
    have : q1 * y * 4294967296 = q1 * 4294967296 * y := by rw [Int.mul_assoc, Int.mul_comm y, ← Int.mul_assoc]
    omega
  have e2 : X * S / y = q1 * 4294967296 + q0 := by
    rw [e1, Int.add_comm, Int.add_mul_ediv_right _ _ (by omega), ← h0]; omega
  have e3 : X * S / (y0 * S) = X / y0 := Int.mul_ediv_mul_of_pos_left _ _ (by omega)
  rw [← hy, e2] at e3
  refine ⟨e3, ?_⟩
  have e4 : V * 4294967296 + u0 - q0 * y = X * S % y := by
    have := Int.mul_ediv_add_emod (X * S) y
    rw [e2, Int.mul_add, Int.mul_comm y q0, Int.mul_comm y] at this
    omega
  rw [e4, hy, Int.mul_comm X, Int.mul_comm y0, Int.mul_emod_mul_of_pos _ _ (show 0 < S by omega)]
  exact Int.mul_ediv_cancel_left _ (by omega)
end Wi
end Go.Proofs.Ytnkgoojjnikaeaa
