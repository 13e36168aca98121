/-
  Plain: the choice of the nearest node.
-/
import Derived.Test.YtbmfkncfenkjoaaL1
namespace Go.Proofs.Ytbmfkncfenkjoaa
set_option linter.unusedVariables false
set_option linter.unusedSimpArgs false
namespace Ce
/-- Of the first v nodes, the nearest one that is not done (-1: none). -/
def Sel (C D : Nat → Int) (F : Nat → Bool) (v : Nat) (a : Int) : Prop :=
  (a = -1 ∧ ∀ u, u < v → F u = true ∨ C u < 0) ∨ ∃ t : Nat, a = (t : Int) ∧ t < v ∧ F t = false ∧ 0 ≤ C t ∧ ∀ u, u < v → F u = false → 0 ≤ C u → le2 (C t) (D t) (C u) (D u)
variable {C D : Nat → Int} {F : Nat → Bool} {v : Nat} {a : Int}
theorem Sel.start : Sel C D F 0 (-1) := .inl ⟨rfl, fun u hu => absurd hu (Nat.not_lt_zero _)⟩
theorem Sel.skip (h : Sel C D F v a) (hv : F v = true ∨ C v < 0) : Sel C D F (v + 1) a := by
  rcases h with ⟨h1, h2⟩ | ⟨t, h1, h2, h3, h4, h5⟩
  · refine .inl ⟨h1, fun u hu => ?_⟩
    by_cases e : u = v
    · rw [e]; exact hv
    · exact h2 u (by omega)
  · refine .inr ⟨t, h1, by omega, h3, h4, fun u hu f c => ?_⟩
    by_cases e : u = v
    · subst e
      rcases hv with q | q
      · rw [f] at q; cases q
      · omega
    · exact h5 u (by omega) f c
theorem Sel.first (h : Sel C D F v a) (ha : a < 0) (hf : F v = false) (hc : 0 ≤ C v) : Sel C D F (v + 1) (v : Int) := by
  rcases h with ⟨h1, h2⟩ | ⟨t, h1, h2⟩
  · refine .inr ⟨v, rfl, by omega, hf, hc, fun u hu f c => ?_⟩
    by_cases e : u = v
    · rw [e]; exact le2_refl _ _
    · rcases h2 u (by omega) with q | q
      · rw [f] at q; cases q
      · omega
  · omega
theorem Sel.turn {t : Nat} (h : Sel C D F v (t : Int)) (hf : F v = false) (hc : 0 ≤ C v) (hb : bet (C t) (D t) (C v) (D v) = true) : Sel C D F (v + 1) (v : Int) := by
  rcases h with ⟨h1, h2⟩ | ⟨t', h1, h2, h3, h4, h5⟩
  · omega
  · obtain rfl : t = t' := by omega
    rw [bet_iff] at hb
    refine .inr ⟨v, rfl, by omega, hf, hc, fun u hu f c => ?_⟩
    by_cases e : u = v
    · rw [e]; exact le2_refl _ _
    · have := h5 u (by omega) f c
      unfold le2 at *; unfold lt2 at hb; omega
theorem Sel.stay {t : Nat} (h : Sel C D F v (t : Int)) (hb : bet (C t) (D t) (C v) (D v) = false) : Sel C D F (v + 1) (t : Int) := by
  rcases h with ⟨h1, h2⟩ | ⟨t', h1, h2, h3, h4, h5⟩
  · omega
  · obtain rfl : t = t' := by omega
    rw [bet_no] at hb
    refine .inr ⟨t, rfl, by omega, h3, h4, fun u hu f c => ?_⟩
    by_cases e : u = v
    · subst e; unfold le2; unfold lt2 at hb; omega
    · exact h5 u (by omega) f c
theorem Sel.lt {t : Nat} (h : Sel C D F v (t : Int)) : t < v ∧ F t = false ∧ 0 ≤ C t := by
  rcases h with ⟨h1, h2⟩ | ⟨t', h1, h2, h3, h4, h5⟩
  · omega
  · obtain rfl : t = t' := by omega
    exact ⟨h2, h3, h4⟩
end Ce
end Go.Proofs.Ytbmfkncfenkjoaa
