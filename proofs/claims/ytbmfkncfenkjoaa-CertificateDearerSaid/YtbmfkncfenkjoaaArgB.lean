/-
  From opened arguments to slices of bytes and of 32-bit words that read.
-/
import Derived.Test.YtbmfkncfenkjoaaArg
import Derived.Test.YtbmfkncfenkjoaaM5p
namespace Go.Proofs.Ytbmfkncfenkjoaa
set_option linter.unusedVariables false
set_option linter.unusedSimpArgs false
open Go.RowKit
theorem rdb {w : World} {A : Option Addr} {n c : Nat} {N : Nat → Nat → Int} (hlc : n ≤ c) (hcm : c ≤ maxLen)
    (hrw : 0 < n → ∃ b off : Nat, A = some ⟨b, off, none⟩ ∧ b < w.heap.size ∧ ∀ i j k, i < n → [IntKind.u8][j]? = some k → w.cell? ⟨b, off + (i * (([] : List IntKind).length + 1) + j), none⟩ = some (.int k (N i j))) : Rd w 1 A n c (bv fun i => N i 0) :=
  ⟨hlc, by rw [maxLen_eq] at hcm; exact hcm, fun hn => by
    obtain ⟨b, off, e, hl, hc⟩ := hrw hn
    refine ⟨b, off, e, hl, fun i j hi hj => ?_⟩
    obtain rfl : j = 0 := by omega
    have := hc i 0 .u8 hi rfl
    rw [← Nat.add_assoc] at this
    exact this⟩
def uv (N : Nat → Int) : Nat → Nat → Value := fun i _ => .int .u32 (N i)
theorem Rd.atw {w : World} {A : Option Addr} {n c : Nat} {N : Nat → Int} (h : Rd w 1 A n c (uv N)) {k : Nat} (hk : k < n) : ∃ b off, A = some ⟨b, off, none⟩ ∧ b < w.heap.size ∧ w.cell? ⟨b, off + k, none⟩ = some (.int .u32 (N k)) := by
  obtain ⟨b, off, e, hl, hc⟩ := h.at_ (by omega)
  exact ⟨b, off, e, hl, by simpa [uv] using hc k 0 hk (by omega)⟩
theorem rdw {w : World} {A : Option Addr} {n c : Nat} {N : Nat → Nat → Int} (hlc : n ≤ c) (hcm : c ≤ maxLen)
    (hrw : 0 < n → ∃ b off : Nat, A = some ⟨b, off, none⟩ ∧ b < w.heap.size ∧ ∀ i j k, i < n → [IntKind.u32][j]? = some k → w.cell? ⟨b, off + (i * (([] : List IntKind).length + 1) + j), none⟩ = some (.int k (N i j))) : Rd w 1 A n c (uv fun i => N i 0) :=
  ⟨hlc, by rw [maxLen_eq] at hcm; exact hcm, fun hn => by
    obtain ⟨b, off, e, hl, hc⟩ := hrw hn
    refine ⟨b, off, e, hl, fun i j hi hj => ?_⟩
    obtain rfl : j = 0 := by omega
    have := hc i 0 .u32 hi rfl
    rw [← Nat.add_assoc] at this
    exact this⟩
end Go.Proofs.Ytbmfkncfenkjoaa
