/-
  Plain: rounded quotients out of sizes; no program in sight.
-/
import Derived.Test.YtgkbjkgafiojjaaPlain
namespace Go.Proofs.Ytgkbjkgafiojjaa
set_option linter.unusedVariables false
set_option linter.unusedSimpArgs false
namespace Wi
/-- Whether the sign of a quotient is negative. -/
def ngq (x y : Int) : Bool := !ngb x == ngb y
/-- Whether the size of a quotient is rounded up: downwards (way -1), upwards (way 1), to the nearest (way 0). -/
def awb (x y way : Int) : Bool :=
  if way = 0 then decide (ab y - ab x % ab y < ab x % ab y) || (decide (ab x % ab y = ab y - ab x % ab y) && !ngq x y)
  else !zb (ab x % ab y) && (decide (way < 0) && ngq x y || decide (0 < way) && !ngq x y)
def qs (x y way : Int) : Int := ab x / ab y + if awb x y way then 1 else 0
/-- The quotient, rounded. -/
def dv (x y way : Int) : Int := sg (qs x y way) (ngq x y)
/-- The quotient's value and whether there is one. -/
def dV (x y way : Int) : Int := if y = 0 then 0 else rv (dv x y way)
def dB (x y way : Int) : Bool := if y = 0 then false else okb (dv x y way)
theorem dV_0 (x way : Int) : dV x 0 way = 0 := if_pos rfl
theorem dB_0 (x way : Int) : dB x 0 way = false := if_pos rfl
theorem dV_n {y : Int} (h : y ≠ 0) (x way : Int) : dV x y way = rv (dv x y way) := if_neg h
theorem dB_n {y : Int} (h : y ≠ 0) (x way : Int) : dB x y way = okb (dv x y way) := if_neg h
theorem qs_t {x y way : Int} (h : awb x y way = true) : qs x y way = ab x / ab y + 1 := by unfold qs; rw [h]; rfl
theorem qs_f {x y way : Int} (h : awb x y way = false) : qs x y way = ab x / ab y := by unfold qs; rw [h]; simp
theorem ab_pos' {y : Int} (h : y ≠ 0) : 0 < ab y := by unfold ab; split <;> omega
theorem rem_bd {x y : Int} (h : y ≠ 0) : 0 ≤ ab x % ab y ∧ ab x % ab y < ab y := ⟨Int.emod_nonneg _ (by have := ab_pos' h; omega), Int.emod_lt_of_pos _ (ab_pos' h)⟩
theorem quo_bd {x y : Int} (h : y ≠ 0) : 0 ≤ ab x / ab y ∧ ab x / ab y ≤ ab x := by
  have p := ab_pos' h
  have q : 0 ≤ ab x := by unfold ab; split <;> omega
  exact ⟨Int.ediv_nonneg q (by omega), Int.ediv_le_self _ q⟩
theorem in_dV (x y way : Int) : inW (dV x y way) := by
  unfold dV; split
  · unfold inW; omega
  · exact in_rv _
end Wi
end Go.Proofs.Ytgkbjkgafiojjaa
