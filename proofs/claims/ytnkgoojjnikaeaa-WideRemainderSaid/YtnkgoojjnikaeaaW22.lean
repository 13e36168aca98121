/-
  Contracts: what the laws share: 'same', 'awake'.
-/
import Derived.Test.YtnkgoojjnikaeaaW19
import Derived.Test.YtnkgoojjnikaeaaW15
import Derived.Test.YtnkgoojjnikaeaaW14
import Derived.Test.YtnkgoojjnikaeaaW21
namespace Go.Proofs.Ytnkgoojjnikaeaa
set_option linter.unusedVariables false
set_option linter.unusedSimpArgs false
open Go.RowKit

set_option maxHeartbeats 1000000 in
theorem same_c (h l : Int) (b : Bool) (w : World) : Calls Try.prog 16 #[.agg #[.int .i64 h, .int .u64 l], .bool b, .agg #[.int .i64 h, .int .u64 l], .bool b] w fun e w' =>
    e = .returned (.bool true) ∧ Below w.heap.size w w' := by
  go_enter Try.func16, Try.ntmps16
  go_wp2_with fail
  go_returns
  exact ⟨rfl, by go_grown⟩

theorem aw1 : (-9223372036854775808 : Int) * -9223372036854775808 = 85070591730234615865843651857942052864 := by decide
theorem aw2 : Wi.Hq 85070591730234615865843651857942052864 = 4611686018427387904 := by decide
theorem aw3 : Wi.Lr 85070591730234615865843651857942052864 = 0 := by decide
theorem aw4 : Wi.inW 85070591730234615865843651857942052864 := by unfold Wi.inW; omega
theorem aw5 : Wi.okb (85070591730234615865843651857942052864 + 85070591730234615865843651857942052864) = false := by decide
theorem aw6 : Wi.Wd (-9223372036854775808) 0 (-170141183460469231731687303715884105728) := ⟨by decide, by decide, by unfold Wi.inW; omega⟩
theorem aw7 : Wi.okb (Wi.ab (-170141183460469231731687303715884105728)) = false := by decide
theorem aw8 : Wi.dV (-7) 2 (-1) = -4 := by decide
theorem aw9 : Wi.dB (-7) 2 (-1) = true := by decide
theorem aw10 : Wi.dV (-7) 2 1 = -3 := by decide
theorem aw11 : Wi.dB (-7) 2 1 = true := by decide
theorem aw12 : Wi.dV (-7) 2 0 = -3 := by decide
theorem aw13 : Wi.dB (-7) 2 0 = true := by decide
theorem aw14 : Wi.sqV 85070591730234615865843651857942052864 = 9223372036854775808 := Wi.sqV_pos (by omega) ⟨by omega, by omega, by simp, 9223372036854775808, by simp⟩
theorem aw15 : Wi.sqB 85070591730234615865843651857942052864 = true := by decide
def s007 : ByteArray := ⟨#[48, 48, 55]⟩
theorem aw16 : Wi.pE s007 = 4 := by
  have h : Wi.png s007 = false := by decide
  have t : Wi.ptx s007 = s007 := if_neg (by rw [h]; decide)
  unfold Wi.pE
  rw [h, t]
  refine (Wi.te_form (fun q => ?_)).1
  have := (q.2.1 (by decide)).1
  exact absurd this (by decide)
def sP : ByteArray := ⟨#[49, 56, 52, 52, 54, 55, 52, 52, 48, 55, 51, 55, 48, 57, 53, 53, 49, 54, 49, 54]⟩
def sM : ByteArray := ⟨#[45, 49, 56, 52, 52, 54, 55, 52, 52, 48, 55, 51, 55, 48, 57, 53, 53, 49, 54, 49, 54]⟩
theorem nd64 : Wi.ndv 18446744073709551616 = 20 := Wi.ndv_of (by omega) ⟨by omega, by decide, fun _ => by decide⟩
theorem aw17 : Wi.TT 18446744073709551616 = sP := by
  unfold Wi.TT
  rw [show Wi.ab 18446744073709551616 = 18446744073709551616 from by decide, nd64, show Wi.ngb 18446744073709551616 = false from by decide]
  decide
theorem aw18 : Wi.TT (-18446744073709551616) = sM := by
  unfold Wi.TT
  rw [show Wi.ab (-18446744073709551616) = 18446744073709551616 from by decide, nd64, show Wi.ngb (-18446744073709551616) = true from by decide]
  decide
end Go.Proofs.Ytnkgoojjnikaeaa
