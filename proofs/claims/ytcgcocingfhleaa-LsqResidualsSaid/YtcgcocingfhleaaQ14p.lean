/-
  Whether a point meets a measurement, in words.
-/
import Derived.Test.YtcgcocingfhleaaQ9
import Derived.Test.YtcgcocingfhleaaQ5
namespace Go.Proofs.Ytcgcocingfhleaa
set_option linter.unusedVariables false
set_option linter.unusedSimpArgs false
open Go.RowKit
attribute [local irreducible] World.setCell World.cell?

def hold (s a b z d g px py : Int) : Bool := Lq.vm s a b z d g && (Lq.pv px py && decide (-d ≤ a * px + b * py - z ∧ a * px + b * py - z ≤ d))
theorem hold_1 {s a b z d g px py : Int} (h : Lq.vm s a b z d g = false) : hold s a b z d g px py = false := by unfold hold; rw [h]; rfl
theorem hold_2 {s a b z d g px py : Int} (h : Lq.vm s a b z d g = true) (h2 : Lq.pv px py = false) : hold s a b z d g px py = false := by unfold hold; rw [h, h2]; rfl
theorem hold_3 {s a b z d g px py : Int} {t : Bool} (h : Lq.vm s a b z d g = true) (h2 : Lq.pv px py = true) (h3 : decide (-d ≤ a * px + b * py - z ∧ a * px + b * py - z ≤ d) = t) : hold s a b z d g px py = t := by unfold hold; rw [h, h2, h3]; rfl
theorem fabs_c (a : Int) (w : World) (a1 : -9223372036854775808 < a) (a2 : a ≤ 9223372036854775807) : Calls Try.prog 57 #[.int .i64 a] w fun e w' => e = .returned (.int .i64 (Wi.ab a)) ∧ Below w.heap.size w w' := by
  have h0 : (a == -9223372036854775808) = false := by simp; omega
  by_cases h : a < 0
  · rw [Wi.ab_neg h]
    go_enter Try.func57, Try.ntmps57
    go_wp2_with fail
    go_returns
    exact ⟨rfl, Below.refl _ _⟩
  · rw [Wi.ab_pos (by omega)]
    go_enter Try.func57, Try.ntmps57
    go_wp2_with fail
    go_returns
    exact ⟨rfl, Below.refl _ _⟩
theorem vm_bd {s a b z d g : Int} (h : Lq.vm s a b z d g = true) : -256 ≤ a ∧ a ≤ 256 ∧ -256 ≤ b ∧ b ≤ 256 ∧ -4294967296 ≤ z ∧ z ≤ 4294967296 ∧ 0 ≤ d ∧ d ≤ 4294967296 := by
  unfold Lq.vm at h
  rw [decide_eq_true_iff] at h
  omega
theorem ms_bd {a b z px py : Int} (a1 : -256 ≤ a) (a2 : a ≤ 256) (b1 : -256 ≤ b) (b2 : b ≤ 256) (z1 : -4294967296 ≤ z) (z2 : z ≤ 4294967296) (x1 : -2000000 ≤ px) (x2 : px ≤ 2000000) (y1 : -2000000 ≤ py) (y2 : py ≤ 2000000) :
    -512000000 ≤ a * px ∧ a * px ≤ 512000000 ∧ -512000000 ≤ b * py ∧ b * py ≤ 512000000 ∧ -5318967296 ≤ a * px + b * py - z ∧ a * px + b * py - z ≤ 5318967296 := by
  have p1 := Lq.mul_bd (a := a) (b := px) ⟨a1, a2⟩ ⟨x1, x2⟩
  have p2 := Lq.mul_bd (a := b) (b := py) ⟨b1, b2⟩ ⟨y1, y2⟩
  omega
end Go.Proofs.Ytcgcocingfhleaa
