/-
  Words for the reference's labels.
-/
import Derived.Test.YtbmfkncfenkjoaaL7
import Derived.Test.YtbmfkncfenkjoaaPlain5
namespace Go.Proofs.Ytbmfkncfenkjoaa
set_option linter.unusedVariables false
set_option linter.unusedSimpArgs false
open Go.RowKit
attribute [local irreducible] World.setCell World.cell?

theorem mk_i6 (n : Nat) (hn : n ≤ 512) : ∀ W : World, (Instr.makeSlice 34 (.int .i64 (n : Int)) (.int .i64 (n : Int))).run Try.prog W = .ok (.slice (some ⟨W.heap.size, 0, none⟩) n n) (W.alloc (.cells (madeCells #[.int .i64 0] n) 2)) := by
  obtain ⟨i0, hi, hz0, hz1, hz2⟩ := info_parts infoI6
  intro W
  have h := run_make_n (P := Try.prog) Try.underlying34 hi hz0 hz1 hz2 n (by omega) (by omega) W
  rw [Nat.mul_one] at h
  exact h
theorem own_i6 (w : World) (base n : Nat) (hn : n ≤ 512) (hb : base ≤ w.heap.size) : Own (w.alloc (.cells (madeCells #[.int .i64 0] n) 2)) base 2 1 (some ⟨w.heap.size, 0, none⟩) n n (nv fun _ => 0) := by
  have h := Own.made (z := #[.int .i64 0]) (q := 1) (V := nv fun _ => 0) w 2 n rfl (by omega) (by omega) hb fun i j hi hj => by
    obtain rfl : j = 0 := by omega
    rfl
  rw [Nat.mul_one] at h
  exact h
theorem two_i6 (w : World) (n : Nat) (hn : n ≤ 512) :
    Own ((w.alloc (.cells (madeCells #[.int .i64 0] n) 2)).alloc (.cells (madeCells #[.int .i64 0] n) 2)) w.heap.size 2 1 (some ⟨w.heap.size, 0, none⟩) n n (nv fun _ => 0) ∧
    Own ((w.alloc (.cells (madeCells #[.int .i64 0] n) 2)).alloc (.cells (madeCells #[.int .i64 0] n) 2)) w.heap.size 2 1 (some ⟨w.heap.size + 1, 0, none⟩) n n (nv fun _ => 0) := by
  refine ⟨(own_i6 w w.heap.size n hn (Nat.le_refl _)).alloc _, ?_⟩
  have h := own_i6 (w.alloc (.cells (madeCells #[.int .i64 0] n) 2)) w.heap.size n hn (by simp)
  have e : (w.alloc (.cells (madeCells #[.int .i64 0] n) 2)).heap.size = w.heap.size + 1 := by simp
  rw [e] at h
  exact h
theorem Own.up1 {w : World} {b g n c : Nat} {e : TypeId} {R : Nat → Int} (h : Own w b e 1 (some ⟨g, 0, none⟩) n c (nv R)) {i : Nat} (hi : i < n) (u : Int) : Own (w.setCell ⟨g, i, none⟩ (.int .i64 u)) b e 1 (some ⟨g, 0, none⟩) n c (nv (Ce.up R i u)) :=
  h.set1 hi u (Ce.up_at _ _ _) (fun i' _ h => Ce.up_ne h)
namespace Ce
def Stab (E : Tab) (C D : Nat → Int) (i : Nat) : Prop := C (fr E i) ≠ 4611686018427387904 → ¬ lt2 (C (fr E i) + E i 2) (D (fr E i) + 1) (C (to E i)) (D (to E i))
end Ce
end Go.Proofs.Ytbmfkncfenkjoaa
