/-
  Plain: the quotient rounded down and what it leaves; no program in sight.
-/
import Derived.Test.YtgkbjkgafiojjaaPlain3
namespace Go.Proofs.Ytgkbjkgafiojjaa
set_option linter.unusedVariables false
set_option linter.unusedSimpArgs false
namespace Wi
theorem floor_of {x y D : Int} (hy : 0 < y) (h1 : D * y ≤ x) (h2 : x < (D + 1) * y) : D = x / y := by
  have a := (Int.le_ediv_iff_mul_le hy).mpr h1
  have b := (Int.ediv_lt_iff_lt_mul hy).mpr h2
  omega
theorem dv_floor {x y : Int} (hy : 0 < y) : dv x y (-1) = x / y := by
  have ey : ab y = y := by unfold ab; rw [if_neg (by omega)]
  have ny : ngb y = false := decide_eq_false (by omega)
  by_cases hx : x < 0
  · have ex : ab x = -x := by unfold ab; rw [if_pos hx]
    have nx : ngb x = true := decide_eq_true hx
    have hn : ngq x y = true := by unfold ngq; rw [nx, ny]; rfl
    have hd := Int.mul_ediv_add_emod (-x) y
    have r0 := Int.emod_nonneg (-x) (show y ≠ 0 by omega)
    have r1 := Int.emod_lt_of_pos (-x) hy
    rw [Int.mul_comm] at hd
    have hw : awb x y (-1) = !zb (-x % y) := by unfold awb; rw [ex, ey, hn]; simp
    unfold dv qs
    rw [hw, hn, ex, ey]
    unfold sg zb
    by_cases hz : -x % y = 0
    · simp only [hz, decide_true, Bool.not_true, if_true]
      refine floor_of hy ?_ ?_
      · rw [show ((if false = true then (1 : Int) else 0)) = 0 from rfl, Int.add_zero, Int.neg_mul]; omega
      · rw [show ((if false = true then (1 : Int) else 0)) = 0 from rfl, Int.add_zero, Int.add_mul, Int.neg_mul]; omega
    · simp only [hz, decide_false, Bool.not_false, if_true]
      refine floor_of hy ?_ ?_
      · rw [Int.neg_mul, Int.add_mul]; omega
      · rw [Int.add_mul, Int.neg_mul, Int.add_mul]; omega
  · have ex : ab x = x := by unfold ab; rw [if_neg hx]
    have nx : ngb x = false := decide_eq_false hx
    have hn : ngq x y = false := by unfold ngq; rw [nx, ny]; rfl
    have hw : awb x y (-1) = false := by unfold awb; rw [hn]; simp
    unfold dv
    rw [qs_f hw, hn, ex, ey]
    rfl
/-- Where the quotient and what it leaves can be held. -/
theorem rem_facts {h l x a : Int} (H : Wd h l x) (hh : h ≠ -9223372036854775808) (a1 : 1 ≤ a) (a2 : a ≤ 9223372036854775807) :
    dV x a (-1) = x / a ∧ dB x a (-1) = true ∧ rv (x / a * a) = x / a * a ∧ okb (x / a * a) = true ∧ rv (x - x / a * a) = x % a ∧ okb (x - x / a * a) = true ∧ inW (x / a * a) ∧ 0 ≤ x % a ∧ x % a < a := by
  obtain ⟨h1, h2, h3, h4, hv⟩ := H.bd
  have r0 := Int.emod_nonneg x (show a ≠ 0 by omega)
  have r1 := Int.emod_lt_of_pos x (show 0 < a by omega)
  have hd := Int.mul_ediv_add_emod x a
  rw [Int.mul_comm] at hd
  have w2 : inW (x / a * a) := by unfold inW; omega
  have w1 : inW (x / a) := by
    have := H.hv
    unfold inW at this ⊢
    have q1 : -170141183460469231731687303715884105728 ≤ x / a := by
      refine (Int.le_ediv_iff_mul_le (by omega)).mpr ?_
      have := Int.mul_le_mul_of_nonneg_left a1 (show (0 : Int) ≤ 170141183460469231731687303715884105728 by omega)
      omega
    have q2 : x / a < 170141183460469231731687303715884105728 := by
      refine (Int.ediv_lt_iff_lt_mul (by omega)).mpr ?_
      have := Int.mul_le_mul_of_nonneg_left a1 (show (0 : Int) ≤ 170141183460469231731687303715884105728 by omega)
      omega
    exact ⟨q1, q2⟩
  have e3 : x - x / a * a = x % a := by omega
  have w3 : inW (x % a) := by unfold inW; omega
  rw [dV_n (by omega), dB_n (by omega), dv_floor (by omega), rv_yes w1, okb_yes w1, rv_yes w2, okb_yes w2, e3, rv_yes w3, okb_yes w3]
  exact ⟨rfl, rfl, rfl, rfl, rfl, rfl, w2, r0, r1⟩
end Wi
end Go.Proofs.Ytgkbjkgafiojjaa
