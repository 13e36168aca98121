/-
  The statement Intervals, its slices given as tables of numbers.
-/
import Derived.Test.YtoebjiocmnonnaaW10
import Derived.Test.YtoebjiocmnonnaaArg
namespace Go.Proofs.Ytoebjiocmnonnaa
set_option linter.unusedVariables false
open Go.RowKit

theorem rdI_of {w : World} {A : Option Addr} {n : Nat} {N : Nat → Nat → Int}
    (h : 0 < n → ∃ b off : Nat, A = some ⟨b, off, none⟩ ∧ b < w.heap.size ∧ ∀ i j k, i < n → [IntKind.i64][j]? = some k → w.cell? ⟨b, off + (i * (([] : List IntKind).length + 1) + j), none⟩ = some (.int k (N i j))) :
    RdI w A ((List.range n).map fun i => N i 0) := by
  by_cases hn : n = 0
  · subst hn; exact Or.inl rfl
  · obtain ⟨b, off, e, _, hc⟩ := h (by omega)
    refine Or.inr ⟨b, off, e, fun k hk => ?_⟩
    have hk' : k < n := by simpa using hk
    have := hc k 0 .i64 hk' rfl
    simp at this
    rw [this]
    unfold Fu.at_
    simp [hk']

theorem law_intervals_n (l0 l1 f0 f1 t0 t1 : Int) (A D : Option Addr) (n m cA cD : Nat) (NA ND : Nat → Nat → Int) (w : World) (hn : n ≤ 9223372036854775807) (hm : m ≤ 9223372036854775807)
    (hA : 0 < n → ∃ b off : Nat, A = some ⟨b, off, none⟩ ∧ b < w.heap.size ∧ ∀ i j k, i < n → [IntKind.i64][j]? = some k → w.cell? ⟨b, off + (i * (([] : List IntKind).length + 1) + j), none⟩ = some (.int k (NA i j)))
    (hD : 0 < m → ∃ b off : Nat, D = some ⟨b, off, none⟩ ∧ b < w.heap.size ∧ ∀ i j k, i < m → [IntKind.i64][j]? = some k → w.cell? ⟨b, off + (i * (([] : List IntKind).length + 1) + j), none⟩ = some (.int k (ND i j))) :
    Calls Try.prog 4 #[.agg #[.int .i64 l0, .int .i64 l1, .int .i64 f0, .int .i64 f1, .int .i64 t0, .int .i64 t1], .slice A n cA, .slice D m cD] w fun e w' => e = .returned (.bool true) ∧ Below w.heap.size w w' := by
  have h := law_intervals l0 l1 f0 f1 t0 t1 A D cA cD ((List.range n).map fun i => NA i 0) ((List.range m).map fun i => ND i 0) w (rdI_of hA) (rdI_of hD) (by simpa using hn) (by simpa using hm)
  simpa only [List.length_map, List.length_range] using h
end Go.Proofs.Ytoebjiocmnonnaa
