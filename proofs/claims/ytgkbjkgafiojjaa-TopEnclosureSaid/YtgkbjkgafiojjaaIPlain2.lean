/-
  Plain: the least and the greatest of some numbers; no program in sight.
-/
import Derived.Test.YtgkbjkgafiojjaaIPlain
namespace Go.Proofs.Ytgkbjkgafiojjaa
set_option linter.unusedVariables false
set_option linter.unusedSimpArgs false
namespace Iv
/-! The least and the greatest of some numbers, one after the other -/
def mnU (N : Nat → Int) : Nat → Int
  | 0 => N 0
  | k + 1 => if N k < mnU N k then N k else mnU N k
def mxU (N : Nat → Int) : Nat → Int
  | 0 => N 0
  | k + 1 => if mxU N k < N k then N k else mxU N k
theorem mnU_yes {N : Nat → Int} {k : Nat} (h : N k < mnU N k) : mnU N (k + 1) = N k := if_pos h
theorem mnU_no {N : Nat → Int} {k : Nat} (h : ¬ N k < mnU N k) : mnU N (k + 1) = mnU N k := if_neg h
theorem mxU_yes {N : Nat → Int} {k : Nat} (h : mxU N k < N k) : mxU N (k + 1) = N k := if_pos h
theorem mxU_no {N : Nat → Int} {k : Nat} (h : ¬ mxU N k < N k) : mxU N (k + 1) = mxU N k := if_neg h
theorem mnU_W {N : Nat → Int} {n : Nat} (hn : 0 < n) (h : ∀ i, i < n → Wi.inW (N i)) : ∀ k, k ≤ n → Wi.inW (mnU N k)
  | 0, _ => h 0 hn
  | k + 1, hk => by
    unfold mnU
    split
    · exact h k (by omega)
    · exact mnU_W hn h k (by omega)
theorem mxU_W {N : Nat → Int} {n : Nat} (hn : 0 < n) (h : ∀ i, i < n → Wi.inW (N i)) : ∀ k, k ≤ n → Wi.inW (mxU N k)
  | 0, _ => h 0 hn
  | k + 1, hk => by
    unfold mxU
    split
    · exact h k (by omega)
    · exact mxU_W hn h k (by omega)
theorem cm_nl {x y : Int} (h : ¬ x < y) : ∃ z, Wi.cm x y = z ∧ decide (z < 0) = false ∧ (y < x → decide (0 < z) = true) := by
  refine ⟨_, rfl, ?_, fun q => ?_⟩
  · unfold Wi.cm; rw [if_neg h]; split <;> decide
  · rw [Wi.cm_gt q]; decide
theorem cm_ng {x y : Int} (h : ¬ y < x) : ∃ z, Wi.cm x y = z ∧ decide (0 < z) = false := by
  refine ⟨_, rfl, ?_⟩
  unfold Wi.cm
  split
  · decide
  · rw [if_pos (by omega)]; decide
theorem sat_rs' (a b : Int) : rs (sat a) (sat b) = rs a b := by
  by_cases v : Vd a b
  · have e1 : sat a = a := by unfold Vd at v; unfold sat; rw [if_neg (by omega), if_neg (by omega)]
    have e2 : sat b = b := by unfold Vd at v; unfold sat; rw [if_neg (by omega), if_neg (by omega)]
    rw [e1, e2]
  · rw [rs_no v, rs_no]
    unfold Vd at v ⊢
    unfold sat
    split <;> split <;> (try split) <;> (try split) <;> omega
end Iv
end Go.Proofs.Ytgkbjkgafiojjaa
