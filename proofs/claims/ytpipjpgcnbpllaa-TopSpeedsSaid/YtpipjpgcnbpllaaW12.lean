/-
  Contracts: the reference's All, Conflicts and Excess.
-/
import Derived.Test.YtpipjpgcnbpllaaW11
namespace Go.Proofs.Ytpipjpgcnbpllaa
set_option linter.unusedVariables false
set_option linter.unusedSimpArgs false
open Go.RowKit

/-- The list that is gathered. -/
structure One (B0 : Nat) (l : List (Nat × Nat)) (v : Value) (wr : World) : Prop where
  h : ∃ A c, v = .slice A l.length c ∧ Own wr B0 42 2 A l.length c (iv (Co.cf l))
theorem One.nil (B0 : Nat) (w : World) : One B0 [] (.slice none 0 0) w := ⟨none, 0, rfl, Own.nil _ _ _ _ _⟩
theorem One.to {B0 : Nat} {l l' : List (Nat × Nat)} {v : Value} {w : World} (h : One B0 l v w) (e : l = l') : One B0 l' v w := e ▸ h
theorem One.keep {B0 : Nat} {l : List (Nat × Nat)} {v : Value} {w w' : World} (h : One B0 l v w) (hb : Below w.heap.size w w') : One B0 l v w' := by
  obtain ⟨A, c, e, o⟩ := h.h
  exact ⟨A, c, e, o.keep hb⟩

end Go.Proofs.Ytpipjpgcnbpllaa
