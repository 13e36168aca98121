/-
  From opened arguments to slices that read.
-/
import Derived.Test.YtgkbjkgafiojjaaArg
import Derived.Test.YtgkbjkgafiojjaaRd
namespace Go.Proofs.Ytgkbjkgafiojjaa
set_option linter.unusedVariables false
set_option linter.unusedSimpArgs false
open Go.RowKit
theorem rd1 {w : World} {A : Option Addr} {n c : Nat} {N : Nat → Nat → Int} (hlc : n ≤ c) (hcm : c ≤ maxLen)
    (hrw : 0 < n → ∃ b off : Nat, A = some ⟨b, off, none⟩ ∧ b < w.heap.size ∧ ∀ i j k, i < n → [IntKind.i64][j]? = some k → w.cell? ⟨b, off + (i * (([] : List IntKind).length + 1) + j), none⟩ = some (.int k (N i j))) : Rd w 1 A n c (nv fun i => N i 0) :=
  ⟨hlc, by rw [maxLen_eq] at hcm; exact hcm, fun hn => by
    obtain ⟨b, off, e, hl, hc⟩ := hrw hn
    refine ⟨b, off, e, hl, fun i j hi hj => ?_⟩
    obtain rfl : j = 0 := by omega
    have := hc i 0 .i64 hi rfl
    rw [← Nat.add_assoc] at this
    exact this⟩
theorem rd2 {w : World} {A : Option Addr} {n c : Nat} {N : Nat → Nat → Int} (hlc : n ≤ c) (hcm : c ≤ maxLen)
    (hrw : 0 < n → ∃ b off : Nat, A = some ⟨b, off, none⟩ ∧ b < w.heap.size ∧ ∀ i j k, i < n → [IntKind.i64, IntKind.i64][j]? = some k → w.cell? ⟨b, off + (i * ([IntKind.i64].length + 1) + j), none⟩ = some (.int k (N i j))) : Rd w 2 A n c (iv N) :=
  ⟨hlc, by rw [maxLen_eq] at hcm; exact hcm, fun hn => by
    obtain ⟨b, off, e, hl, hc⟩ := hrw hn
    refine ⟨b, off, e, hl, fun i j hi hj => ?_⟩
    have := hc i j .i64 hi (by match j, hj with | 0, _ => rfl | 1, _ => rfl)
    rw [← Nat.add_assoc] at this
    exact this⟩
theorem rd3 {w : World} {A : Option Addr} {n c : Nat} {N : Nat → Nat → Int} (hlc : n ≤ c) (hcm : c ≤ maxLen)
    (hrw : 0 < n → ∃ b off : Nat, A = some ⟨b, off, none⟩ ∧ b < w.heap.size ∧ ∀ i j k, i < n → [IntKind.i64, IntKind.i64, IntKind.i64][j]? = some k → w.cell? ⟨b, off + (i * ([IntKind.i64, IntKind.i64].length + 1) + j), none⟩ = some (.int k (N i j))) : Rd w 3 A n c (iv N) :=
  ⟨hlc, by rw [maxLen_eq] at hcm; exact hcm, fun hn => by
    obtain ⟨b, off, e, hl, hc⟩ := hrw hn
    refine ⟨b, off, e, hl, fun i j hi hj => ?_⟩
    have := hc i j .i64 hi (by match j, hj with | 0, _ => rfl | 1, _ => rfl | 2, _ => rfl)
    rw [← Nat.add_assoc] at this
    exact this⟩
end Go.Proofs.Ytgkbjkgafiojjaa
