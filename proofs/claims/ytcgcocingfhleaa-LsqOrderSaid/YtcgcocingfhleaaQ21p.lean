/-
  Words for LsqOrder.
-/
import Derived.Test.YtcgcocingfhleaaQApp
import Derived.Test.YtcgcocingfhleaaQ15
import Derived.Test.YtcgcocingfhleaaInv
namespace Go.Proofs.Ytcgcocingfhleaa
set_option linter.unusedVariables false
set_option linter.unusedSimpArgs false
open Go.RowKit
attribute [local irreducible] World.setCell World.cell?

def oa : Nat → Option Addr
  | 0 => none
  | g + 1 => some ⟨g, 0, none⟩
theorem oa_form {w : World} {b : Nat} {e : TypeId} {q : Nat} {A : Option Addr} {n c : Nat} {V : Nat → Nat → Value} (h : Own w b e q A n c V) : ∃ u, oa u = A := by
  obtain ⟨_, _, ⟨rfl, _⟩ | ⟨g, rfl, _⟩⟩ := h.form
  · exact ⟨0, rfl⟩
  · exact ⟨g + 1, rfl⟩
theorem app_0 (V V2 : Nat → Nat → Value) (i f : Nat) : app 0 V V2 i f = V2 i f := by unfold app; rw [if_neg (by omega)]; rfl
theorem Own.top {w : World} {B0 : Nat} {e : TypeId} {q n c : Nat} {A : Option Addr} {V : Nat → Nat → Value} (h : Own w B0 e q A n c V) {g : Nat} (hg : ob A = some g) : g < w.heap.size := by
  obtain ⟨_, _, ⟨rfl, _⟩ | ⟨g', rfl, _, hl⟩⟩ := h.form
  · cases hg
  · have : g' = g := by simpa [ob] using hg
    omega
end Go.Proofs.Ytcgcocingfhleaa
