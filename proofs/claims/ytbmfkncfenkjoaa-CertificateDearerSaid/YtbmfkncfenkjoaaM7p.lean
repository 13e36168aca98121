/-
  Words for Dearer.
-/
import Derived.Test.YtbmfkncfenkjoaaArgB
import Derived.Test.YtbmfkncfenkjoaaPlain6
import Derived.Test.YtbmfkncfenkjoaaInv2
namespace Go.Proofs.Ytbmfkncfenkjoaa
set_option linter.unusedVariables false
set_option linter.unusedSimpArgs false
open Go.RowKit
attribute [local irreducible] World.setCell World.cell?

def oa : Nat → Option Addr
  | 0 => none
  | g + 1 => some ⟨g, 0, none⟩
theorem oa_form {w : World} {b : Nat} {e : TypeId} {q : Nat} {A : Option Addr} {n c : Nat} {V : Nat → Nat → Value} (h : Own w b e q A n c V) : ∃ u, oa u = A := by
  obtain ⟨_, _, ⟨rfl, _⟩ | ⟨g, rfl, _⟩⟩ := h.form
  · exact ⟨0, rfl⟩
  · exact ⟨g + 1, rfl⟩
theorem app_0 (V V2 : Nat → Nat → Value) (i f : Nat) : app 0 V V2 i f = V2 i f := by unfold app; rw [if_neg (by omega)]; rfl
theorem own_empty_E {w : World} {base : Nat} (e : TypeId) (V : Nat → Nat → Value) (hb : base ≤ w.heap.size) : Own (w.alloc (.cells #[] e)) base e 3 (some ⟨w.heap.size, 0, none⟩) 0 0 V :=
  ⟨_, World.ownsRow_lit (size := 3) w #[] 0 hb (by rw [maxLen_eq]; omega) (by simp), fun i j hi => absurd hi (by omega)⟩
theorem ap5_ {A : Option Addr} {g2 g7 k : Nat} (h2 : g2 ≠ g7) (h7 : g7 < k) (hob : ob A = ob (some ⟨g2, 0, none⟩) ∨ ob A = some k) : ob A ≠ some g7 := by
  rcases hob with z | z
  · rw [z]; simpa [ob] using h2
  · rw [z]; simp; omega
theorem Own.E2 {w : World} {b g m c : Nat} {e : TypeId} {E : Nat → Nat → Int} (h : Own w b e 3 (some ⟨g, 0, none⟩) m c (iv E)) {k : Nat} (hk : k < m) {x : Int} (hx : E k 2 = x) : w.cell? ⟨g, k * 3 + 2, none⟩ = some (.int .i64 x) := by rw [← hx]; exact h.cell hk (show 2 < 3 by omega)
end Go.Proofs.Ytbmfkncfenkjoaa
