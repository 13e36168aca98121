/-
  One block known whole.
-/
import Derived.Test.YtoebjiocmnonnaaW7
namespace Go.Proofs.Ytoebjiocmnonnaa
set_option linter.unusedVariables false
open Go.RowKit

/-- Block g holds just the cells cs, none of them frozen. -/
def Blk (w : World) (g : Nat) (t : TypeId) (cs : Array Value) : Prop := w.heap[g]? = some (.cells cs t (0, 0))
section
variable {w w' : World} {g : Nat} {t : TypeId} {cs : Array Value}
theorem Blk.lt (h : Blk w g t cs) : g < w.heap.size := by
  rcases Nat.lt_or_ge g w.heap.size with hlt | hge
  · exact hlt
  · unfold Blk at h; rw [Array.getElem?_eq_none hge] at h; cases h
theorem Blk.cell (h : Blk w g t cs) (i : Nat) : w.cell? ⟨g, i, none⟩ = cs[i]? := Go.Joins.cell_of_block h i
theorem Blk.frozen (h : Blk w g t cs) (i : Nat) : w.frozen? ⟨g, i, none⟩ = false := by
  unfold Blk at h
  simp [World.frozen?, h]
theorem Blk.new (w : World) (t : TypeId) (cs : Array Value) : Blk (w.alloc (.cells cs t)) w.heap.size t cs := heap_alloc_new w _
theorem Blk.new1 (w : World) (o : Obj) (t : TypeId) (cs : Array Value) : Blk ((w.alloc o).alloc (.cells cs t)) (w.heap.size + 1) t cs := by
  have h := Blk.new (w.alloc o) t cs
  simpa using h
theorem Blk.new2 (w : World) (o o2 : Obj) (t : TypeId) (cs : Array Value) : Blk (((w.alloc o).alloc o2).alloc (.cells cs t)) (w.heap.size + 1 + 1) t cs := by
  have h := Blk.new ((w.alloc o).alloc o2) t cs
  simpa using h
theorem Blk.drew (h : Blk w g t cs) : Blk w.drew g t cs := h
theorem Blk.drewN (h : Blk w g t cs) (n : Nat) : Blk (w.drewN n) g t cs := h
theorem Blk.alloc (h : Blk w g t cs) (o : Obj) : Blk (w.alloc o) g t cs := (Below.heap_alloc w o g h.lt).trans h
theorem Blk.set_ (h : Blk w g t cs) (i : Nat) (u : Value) : Blk (w.setCell ⟨g, i, none⟩ u) g t (cs.setIfInBounds i u) := by
  unfold Blk at h ⊢
  simp [World.setCell, Array.getElem?_modify, h]
theorem Blk.far (h : Blk w g t cs) {p : Addr} (hp : g ≠ p.block) (u : Value) : Blk (w.setCell p u) g t cs := (Below.heap_setCell w p u g hp).trans h
theorem Blk.keep (h : Blk w g t cs) (hb : Below w.heap.size w w') : Blk w' g t cs := (hb.block g h.lt).trans h
theorem Blk.open2 {a b : Value} (h : Blk w g t #[a, b]) : w.cell? ⟨g, 0, none⟩ = some a ∧ w.cell? ⟨g, 1, none⟩ = some b ∧ (∀ o, w.frozen? ⟨g, o, none⟩ = false) ∧ g < w.heap.size :=
  ⟨h.cell 0, h.cell 1, h.frozen, h.lt⟩
theorem Blk.open3 {a b c : Value} (h : Blk w g t #[a, b, c]) : w.cell? ⟨g, 0, none⟩ = some a ∧ w.cell? ⟨g, 1, none⟩ = some b ∧ w.cell? ⟨g, 2, none⟩ = some c ∧ (∀ o, w.frozen? ⟨g, o, none⟩ = false) ∧ g < w.heap.size :=
  ⟨h.cell 0, h.cell 1, h.cell 2, h.frozen, h.lt⟩
theorem Blk.open4 {a b c d : Value} (h : Blk w g t #[a, b, c, d]) : w.cell? ⟨g, 0, none⟩ = some a ∧ w.cell? ⟨g, 1, none⟩ = some b ∧ w.cell? ⟨g, 2, none⟩ = some c ∧ w.cell? ⟨g, 3, none⟩ = some d ∧ (∀ o, w.frozen? ⟨g, o, none⟩ = false) ∧ g < w.heap.size :=
  ⟨h.cell 0, h.cell 1, h.cell 2, h.cell 3, h.frozen, h.lt⟩
theorem Blk.open1 {a : Value} (h : Blk w g t #[a]) : w.cell? ⟨g, 0, none⟩ = some a ∧ (∀ o, w.frozen? ⟨g, o, none⟩ = false) ∧ g < w.heap.size :=
  ⟨h.cell 0, h.frozen, h.lt⟩
end
theorem keepR {W0 wp wn : World} {S : World → Prop} {Q : Prop} (hreg : ∀ w', Below W0.heap.size W0 w' → S w') (hbn : Below wp.heap.size wp wn) (hS : Below W0.heap.size W0 wp ∧ Q) : S wn := hreg _ (bt hS.1 hbn)
end Go.Proofs.Ytoebjiocmnonnaa
