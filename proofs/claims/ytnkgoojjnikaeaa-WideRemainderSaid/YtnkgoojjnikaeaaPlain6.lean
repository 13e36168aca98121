/-
  Plain: the text of a number as bytes, last digit first; no program in sight.
-/
import Derived.Test.YtnkgoojjnikaeaaPlain2
namespace Go.Proofs.Ytnkgoojjnikaeaa
set_option linter.unusedVariables false
set_option linter.unusedSimpArgs false
namespace Wi
def dg (n : Int) : UInt8 := UInt8.ofNat (48 + n % 10).toNat
/-- The last k digits of a number. -/
def dl (v : Int) : Nat → List UInt8
  | 0 => []
  | k + 1 => dg (v / 10 ^ k) :: dl v k
theorem dg_nat (n : Int) : ((dg n).toNat : Int) = 48 + n % 10 := by
  unfold dg
  rw [UInt8.toNat_ofNat']
  omega
theorem dl_len (v : Int) : ∀ k, (dl v k).length = k
  | 0 => rfl
  | k + 1 => by simp [dl, dl_len v k]
theorem dl_at (v : Int) : ∀ (k j : Nat) (h : j < k), (dl v k)[j]? = some (dg (v / 10 ^ (k - 1 - j)))
  | k + 1, 0, _ => by simp [dl]
  | k + 1, j + 1, h => by
    have := dl_at v k j (by omega)
    simp only [dl, List.getElem?_cons_succ]
    rw [this, show k - 1 - j = k + 1 - 1 - (j + 1) by omega]
open Classical in
/-- How many digits a number has. -/
noncomputable def ndv (v : Int) : Nat := if h : ∃ n, Nd v n then Classical.choose h else 0
theorem ndv_of {v : Int} {n : Nat} (h0 : 0 ≤ v) (h : Nd v n) : ndv v = n := by
  unfold ndv
  rw [dif_pos ⟨n, h⟩]
  exact nd_uniq h0 (Classical.choose_spec (⟨n, h⟩ : ∃ n, Nd v n)) h
def sgn (n : Bool) : List UInt8 := if n then [45] else []
/-- The text of a number. -/
noncomputable def TT (x : Int) : ByteArray := ⟨(sgn (ngb x) ++ dl (ab x) (ndv (ab x))).toArray⟩
theorem top10_succ {v : Int} (k : Nat) : v / 10 ^ k / 10 = v / 10 ^ (k + 1) := by
  rw [Int.pow_succ, Int.ediv_ediv_of_nonneg (Int.le_of_lt (p10 k))]
theorem size_39 {v : Int} {n : Nat} (hv : inS v) (hk : 0 < n) (h : v / 10 ^ n ≠ 0) : n + 1 ≤ 39 := by
  apply Classical.byContradiction
  intro q
  have : v / 10 ^ 39 = 0 := Int.ediv_eq_zero_of_lt hv.1 (by have := hv.2; have e : (10 : Int) ^ 39 = 1000000000000000000000000000000000000000 := by decide
                                                            omega)
  exact h (div_zero_le hv.1 this (by omega))
end Wi
end Go.Proofs.Ytnkgoojjnikaeaa
