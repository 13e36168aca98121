/-
  Plain: a product of two words over a third, rounded down, out of sizes; no program in sight.
-/
import Derived.Test.YtgkbjkgafiojjaaPlain9
namespace Go.Proofs.Ytgkbjkgafiojjaa
set_option linter.unusedVariables false
set_option linter.unusedSimpArgs false
namespace Wi
def er (v : Int) : Int := if ib v then 0 else 2
theorem ab_prod (a b : Int) : ab (a * b) = ab a * ab b := by
  have pa : a < 0 ∨ 0 ≤ a := by omega
  have pb : b < 0 ∨ 0 ≤ b := by omega
  rcases pa with pa | pa <;> rcases pb with pb | pb
  · have h : 0 ≤ a * b := by have := Int.mul_pos_of_neg_of_neg pa pb; omega
    unfold ab
    rw [if_neg (by omega), if_pos pa, if_pos pb, Int.neg_mul_neg]
  · have h := Int.mul_nonneg (show 0 ≤ -a by omega) pb
    rw [Int.neg_mul] at h
    unfold ab
    rw [if_pos pa, if_neg (show ¬ b < 0 by omega)]
    split
    · rw [Int.neg_mul]
    · have : a * b = 0 := by omega
      rw [Int.neg_mul]; omega
  · have h := Int.mul_nonneg pa (show 0 ≤ -b by omega)
    rw [Int.mul_neg] at h
    unfold ab
    rw [if_pos pb, if_neg (show ¬ a < 0 by omega)]
    split
    · rw [Int.mul_neg]
    · have : a * b = 0 := by omega
      rw [Int.mul_neg]; omega
  · have h := Int.mul_nonneg pa pb
    unfold ab
    rw [if_neg (show ¬ a < 0 by omega), if_neg (show ¬ b < 0 by omega), if_neg (by omega)]
theorem ngb_prod {a b : Int} (h : a * b ≠ 0) : ngb (a * b) = (decide (a < 0) != decide (b < 0)) := by
  have a0 : a ≠ 0 := fun q => h (by rw [q, Int.zero_mul])
  have b0 : b ≠ 0 := fun q => h (by rw [q, Int.mul_zero])
  have pa : a < 0 ∨ 0 < a := by omega
  have pb : b < 0 ∨ 0 < b := by omega
  unfold ngb
  rcases pa with pa | pa <;> rcases pb with pb | pb
  · have := Int.mul_pos_of_neg_of_neg pa pb
    rw [decide_eq_false (show ¬ a * b < 0 by omega), decide_eq_true pa, decide_eq_true pb]; rfl
  · have := Int.mul_neg_of_neg_of_pos pa pb
    rw [decide_eq_true this, decide_eq_true pa, decide_eq_false (show ¬ b < 0 by omega)]; rfl
  · have := Int.mul_neg_of_pos_of_neg pa pb
    rw [decide_eq_true this, decide_eq_true pb, decide_eq_false (show ¬ a < 0 by omega)]; rfl
  · have := Int.mul_pos pa pb
    rw [decide_eq_false (show ¬ a * b < 0 by omega), decide_eq_false (show ¬ a < 0 by omega), decide_eq_false (show ¬ b < 0 by omega)]; rfl
def scn (a b c : Int) : Bool := (decide (a < 0) != decide (b < 0)) != decide (c < 0)
/-- The quotient rounded down, out of sizes and the three signs. -/
theorem dv_parts (a b c : Int) : dv (a * b) c (-1) = sg (ab a * ab b / ab c + if scn a b c && !zb (ab a * ab b % ab c) then 1 else 0) (scn a b c) := by
  by_cases h : a * b = 0
  · have e := ab_prod a b
    rw [h] at e
    have e0 : ab a * ab b = 0 := by rw [← e]; decide
    rw [h, e0]
    unfold dv qs awb zb
    rw [show ab 0 = 0 from rfl]
    simp
    unfold sg
    split <;> split <;> rfl
  · have hn : ngq (a * b) c = scn a b c := by
      unfold ngq scn
      rw [ngb_prod h]
      unfold ngb
      cases (decide (a < 0) != decide (b < 0)) <;> cases decide (c < 0) <;> rfl
    unfold dv qs
    rw [hn, ab_prod]
    unfold awb
    rw [hn, ab_prod]
    simp
    cases scn a b c <;> simp
end Wi
end Go.Proofs.Ytgkbjkgafiojjaa
