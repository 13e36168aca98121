/-
  The library's contract of bits.LeadingZeros64 at this program (laid by the kit's tool, its numbers by name).
-/
import Derived.Shelf.Small.Bits
import Derived.Shelf.Strconv.Itoa0
import Derived.Lib.ItoaNum
import Derived.Test.YtnkgoojjnikaeaaChecked
import Derived.WalkKit
namespace Go.Proofs.Ytnkgoojjnikaeaa
set_option linter.unusedVariables false
set_option linter.unusedSimpArgs false
open Go.Shelf Go.RowKit
def lz_ren : Go.Shelf.Ren := ⟨fun | 134 => 69 | 129 => 75 | n => n, fun | 53 => 22 | 3 => 3 | 4 => 4 | 46 => 58 | 5 => 5 | 9 => 9 | n => n, fun | n => n⟩
theorem lz_lays : Go.Proofs.Lays.n134 Try.prog lz_ren := {
  mixed := by kernel_rfl
  f129 := Try.func75.trans (congrArg some (by kernel_rfl))
  f134 := Try.func69.trans (congrArg some (by kernel_rfl))
  t3 := Try.underlying3
  a3 := Try.isAgg3
  z3 := Try.sizeOf3
  v3 := Try.zeroValue3
  t4 := Try.underlying4
  a4 := Try.isAgg4
  z4 := Try.sizeOf4
  v4 := Try.zeroValue4
  t5 := Try.underlying5
  a5 := Try.isAgg5
  z5 := Try.sizeOf5
  v5 := Try.zeroValue5
  t9 := Try.underlying9
  a9 := Try.isAgg9
  z9 := Try.sizeOf9
  v9 := Try.zeroValue9
  t46 := Try.underlying58
  a46 := Try.isAgg58
  z46 := Try.sizeOf58
  v46 := Try.zeroValue58
  t53 := Try.underlying22
  a53 := Try.isAgg22
  z53 := Try.sizeOf22
  v53 := Try.zeroValue22 }
/-- bits.LeadingZeros64 of a number that is not 0: the shift that brings its first bit to the top. -/
theorem lz_ex (x : Int) (h0 : 1 ≤ x) (h1 : x ≤ 18446744073709551615) : ∃ s : Nat, s ≤ 63 ∧ 9223372036854775808 ≤ x * 2 ^ s ∧ x * 2 ^ s ≤ 18446744073709551615 ∧
    ∀ w : World, Calls Try.prog 69 #[.int .u64 x] w fun e w' => e = .returned (.int .i64 (s : Int)) ∧ w = w' := by
  obtain ⟨n, rfl⟩ := Int.eq_ofNat_of_zero_le (show 0 ≤ x by omega)
  have hb := Lib.bitLenAux_bounds 64 n (by omega) (by omega)
  have hle := Lib.bitLen_le n 64 (Nat.le_refl _) (by omega)
  have hL : Lib.bitLen n = Lib.bitLenAux 64 n := rfl
  rw [← hL] at hb
  have hw := fun w : World => Go.Proofs.Any.bits_LeadingZeros64 lz_lays (n : Int) w (by omega) (by omega)
  simp only [Int.toNat_natCast] at hw
  generalize Lib.bitLen n = L at *
  obtain ⟨b1, b2, b3⟩ := hb
  have e : (64 : Int) - (L : Int) = ((64 - L : Nat) : Int) := by omega
  have p1 : 2 ^ (L - 1) * 2 ^ (64 - L) = 2 ^ 63 := by rw [← Nat.pow_add]; congr 1; omega
  have p2 : 2 ^ L * 2 ^ (64 - L) = 2 ^ 64 := by rw [← Nat.pow_add]; congr 1; omega
  have q1 : 2 ^ 63 ≤ n * 2 ^ (64 - L) := by rw [← p1]; exact Nat.mul_le_mul_right _ b2
  have q2 : n * 2 ^ (64 - L) < 2 ^ 64 := by rw [← p2]; exact Nat.mul_lt_mul_of_pos_right b3 (Nat.pow_pos (by decide))
  have c : ((n * 2 ^ (64 - L) : Nat) : Int) = (n : Int) * 2 ^ (64 - L) := by simp
  refine ⟨64 - L, by omega, ?_, ?_, fun w => ?_⟩
  · rw [← c]; omega
  · rw [← c]; omega
  · exact (hw w).mono fun e2 w' h => ⟨by rw [h.1, e], h.2.symm⟩
end Go.Proofs.Ytnkgoojjnikaeaa
