/-
  Plain laws of decimal texts; no program in sight.
-/
import Derived.Test.YtnkgoojjnikaeaaPlain
namespace Go.Proofs.Ytnkgoojjnikaeaa
set_option linter.unusedVariables false
set_option linter.unusedSimpArgs false
namespace Wi
/-- The number that the first k digits say (digits as letters: 48 is nought). -/
def nm (f : Nat → Int) : Nat → Int
  | 0 => 0
  | k + 1 => 10 * nm f k + (f k - 48)
def digs (f : Nat → Int) (n : Nat) : Prop := ∀ k, k < n → 48 ≤ f k ∧ f k ≤ 57
theorem digs_le {f : Nat → Int} {m n : Nat} (h : digs f n) (hm : m ≤ n) : digs f m := fun k hk => h k (by omega)
theorem nm_congr {f g : Nat → Int} : ∀ {n : Nat}, (∀ k, k < n → f k = g k) → nm f n = nm g n
  | 0, _ => rfl
  | n + 1, h => by simp only [nm]; rw [nm_congr (fun k hk => h k (by omega)), h n (by omega)]
theorem nm_nonneg {f : Nat → Int} : ∀ {n : Nat}, digs f n → 0 ≤ nm f n
  | 0, _ => Int.le_refl _
  | n + 1, h => by
    have a := nm_nonneg (digs_le h (Nat.le_succ n))
    have b := h n (by omega)
    simp only [nm]; omega
theorem nm_mono {f : Nat → Int} {n : Nat} (h : digs f n) : ∀ d, d ≤ n → nm f (n - d) ≤ nm f n := by
  intro d
  induction d with
  | zero => intro _; exact Int.le_refl _
  | succ d ih =>
    intro hd
    have a := ih (by omega)
    have e : n - d = (n - (d + 1)) + 1 := by omega
    rw [e] at a
    simp only [nm] at a
    have b := h (n - (d + 1)) (by omega)
    have c := nm_nonneg (digs_le h (show n - (d + 1) ≤ n by omega))
    omega
theorem nm_le {f : Nat → Int} {k n : Nat} (h : digs f n) (hk : k ≤ n) : nm f k ≤ nm f n := by
  have := nm_mono h (n - k) (by omega)
  rwa [show n - (n - k) = k by omega] at this
theorem p10 (k : Nat) : (0 : Int) < 10 ^ k := Int.pow_pos (by decide)
/-- Of n digits, without the last d. -/
theorem nm_div {f : Nat → Int} {n : Nat} (h : digs f n) : ∀ d, d ≤ n → nm f n / 10 ^ d = nm f (n - d) := by
  intro d
  induction d with
  | zero => intro _; simp
  | succ d ih =>
    intro hd
    have e : n - d = (n - (d + 1)) + 1 := by omega
    rw [Int.pow_succ, ← Int.ediv_ediv_of_nonneg (Int.le_of_lt (p10 d)), ih (by omega), e]
    simp only [nm]
    have b := h (n - (d + 1)) (by omega)
    omega
theorem nm_dig {f : Nat → Int} {n : Nat} (h : digs f n) {j : Nat} (hj : j < n) : nm f n / 10 ^ (n - 1 - j) % 10 + 48 = f j := by
  rw [nm_div h _ (by omega), show n - (n - 1 - j) = j + 1 by omega]
  have b := h j hj
  simp only [nm]
  omega
/-- The digits of a number, n of them. -/
def dgs (v : Int) (n : Nat) (j : Nat) : Int := v / 10 ^ (n - 1 - j) % 10 + 48
theorem dgs_bd (v : Int) (n j : Nat) : 48 ≤ dgs v n j ∧ dgs v n j ≤ 57 := by unfold dgs; omega
theorem dgs_digs (v : Int) (n m : Nat) : digs (dgs v n) m := fun k _ => dgs_bd v n k
theorem nm_dgs {v : Int} {n : Nat} (h1 : v / 10 ^ n = 0) : ∀ k, k ≤ n → nm (dgs v n) k = v / 10 ^ (n - k) := by
  intro k
  induction k with
  | zero => intro _; simpa [nm] using h1.symm
  | succ k ih =>
    intro hk
    simp only [nm, dgs]
    rw [ih (by omega), show n - k = (n - (k + 1)) + 1 by omega, show n - 1 - k = n - (k + 1) by omega, Int.pow_succ, ← Int.ediv_ediv_of_nonneg (Int.le_of_lt (p10 _))]
    omega
theorem nm_all {v : Int} {n : Nat} (h1 : v / 10 ^ n = 0) : nm (dgs v n) n = v := by
  rw [nm_dgs h1 n (Nat.le_refl n)]; simp
/-- n is the number of digits of v: no digit is left above, and the first is not 0 (of more than one). -/
def Nd (v : Int) (n : Nat) : Prop := 1 ≤ n ∧ v / 10 ^ n = 0 ∧ (1 < n → v / 10 ^ (n - 1) ≠ 0)
theorem div_zero_le {v : Int} {a b : Nat} (hv : 0 ≤ v) (h : v / 10 ^ a = 0) (hab : a ≤ b) : v / 10 ^ b = 0 := by
  have e : (10 : Int) ^ b = 10 ^ a * 10 ^ (b - a) := by rw [← Int.pow_add]; congr 1; omega
  rw [e, ← Int.ediv_ediv_of_nonneg (Int.le_of_lt (p10 _)), h]; simp
theorem nd_uniq {v : Int} {m n : Nat} (hv : 0 ≤ v) (h1 : Nd v m) (h2 : Nd v n) : m = n := by
  obtain ⟨a1, b1, c1⟩ := h1
  obtain ⟨a2, b2, c2⟩ := h2
  rcases Nat.lt_trichotomy m n with h | h | h
  · exact absurd (div_zero_le hv b1 (show m ≤ n - 1 by omega)) (c2 (by omega))
  · exact h
  · exact absurd (div_zero_le hv b2 (show n ≤ m - 1 by omega)) (c1 (by omega))
theorem nd_nm {f : Nat → Int} {n : Nat} (h : digs f n) (h1 : 1 ≤ n) (h0 : 1 < n → f 0 ≠ 48) : Nd (nm f n) n := by
  refine ⟨h1, ?_, fun hn => ?_⟩
  · rw [nm_div h n (Nat.le_refl _)]; simp [nm]
  · rw [nm_div h (n - 1) (by omega), show n - (n - 1) = 0 + 1 by omega]
    simp only [nm]
    have := h0 hn; omega
theorem lt_of_div {v : Int} {n : Nat} (h : v / 10 ^ n = 0) : v < 10 ^ n := by
  have := Int.lt_ediv_add_one_mul_self v (p10 n)
  rw [h] at this; simpa using this
theorem ge_of_div {v : Int} {n : Nat} (h0 : 0 ≤ v) (h : v / 10 ^ n ≠ 0) : 10 ^ n ≤ v := by
  apply Classical.byContradiction
  intro q
  exact h (Int.ediv_eq_zero_of_lt h0 (by omega))
/-- A size below 2^127 + 1 has at most 39 digits. -/
theorem nd_39 {v : Int} {n : Nat} (hv : 0 ≤ v) (hl : v < 1000000000000000000000000000000000000000) (h : Nd v n) : n ≤ 39 := by
  apply Classical.byContradiction
  intro q
  have := div_zero_le (a := 39) (b := n - 1) hv (Int.ediv_eq_zero_of_lt hv (by simpa using hl)) (by omega)
  exact h.2.2 (by omega) this
theorem nm_40 {f : Nat → Int} {n : Nat} (h : digs f n) (h0 : f 0 ≠ 48) (hn : 39 < n) : 1000000000000000000000000000000000000000 ≤ nm f n := by
  have a := nm_le h (show 40 ≤ n by omega)
  have e : nm f 40 / 10 ^ 39 ≠ 0 := (nd_nm (digs_le h (show 40 ≤ n by omega)) (by omega) (fun _ => h0)).2.2 (by omega)
  have b := ge_of_div (nm_nonneg (digs_le h (show 40 ≤ n by omega))) e
  have c : (10 : Int) ^ 39 = 1000000000000000000000000000000000000000 := by decide
  omega
end Wi
end Go.Proofs.Ytnkgoojjnikaeaa
