/-
  The two passes of the program's Tighten; no program in sight.
-/
import Derived.Test.YtpipjpgcnbpllaaPlain4
namespace Go.Proofs.Ytpipjpgcnbpllaa
set_option linter.unusedVariables false
set_option linter.unusedSimpArgs false
namespace Co
/-- Behind the first pass up to row k; with the upper bound of row k, too. -/
def FT (N S : Tab) (k : Nat) : Tab := fun i f => if i < k then (if f = 0 then flo N S i else fhi N S i) else N i f
def FT1 (N S : Tab) (k : Nat) : Tab := fun i f => if i = k ∧ f = 1 then fhi N S k else FT N S k i f
def BT (n : Nat) (N S : Tab) (c : Nat) : Tab := fun i f => if n - 1 - c ≤ i then (if f = 0 then blo n N S (n - 1 - i) else bhi n N S (n - 1 - i)) else (if f = 0 then flo N S i else fhi N S i)
def BT1 (n : Nat) (N S : Tab) (c : Nat) : Tab := fun i f => if i = n - 1 - (c + 1) ∧ f = 1 then bhi n N S (c + 1) else BT n N S c i f
def tt (n : Nat) (N S : Tab) : Tab := fun i f => if f = 0 then tlo n N S i else thi n N S i
def tgL (n : Nat) (N : Tab) (m : Nat) (S : Tab) : Nat := if tgE n N m S = 0 then n else 0
theorem f_bd {n m : Nat} {N S : Tab} (h : Ok n N m S) : ∀ i, i < n → (-1099511627776 ≤ fhi N S i ∧ fhi N S i ≤ 1099511627776) ∧ (-1099511627776 ≤ flo N S i ∧ flo N S i ≤ 1099511627776)
  | 0, hi => by have a := h.w0 0 hi; have b := h.w1 0 hi; rw [fhi, flo]; omega
  | i + 1, hi => by
    have r := f_bd h i (by omega)
    have a := h.w0 (i + 1) hi; have b := h.w1 (i + 1) hi
    have hm := h.hm
    have c := h.s0 i (by omega); have d := h.s1 i (by omega)
    rw [fhi, flo]; omega
theorem b_bd {n m : Nat} {N S : Tab} (h : Ok n N m S) : ∀ c, c < n → (-1099511627776 ≤ bhi n N S c ∧ bhi n N S c ≤ 1099511627776) ∧ (-1099511627776 ≤ blo n N S c ∧ blo n N S c ≤ 1099511627776)
  | 0, hi => by rw [bhi, blo]; exact f_bd h (n - 1) (by omega)
  | c + 1, hi => by
    have r := b_bd h c (by omega)
    have a := f_bd h (n - 1 - (c + 1)) (by omega)
    have hm := h.hm
    have e := h.s0 (n - 1 - (c + 1)) (by omega); have d := h.s1 (n - 1 - (c + 1)) (by omega)
    rw [bhi, blo]; omega
theorem FT_start (N S : Tab) (i f : Nat) (hf : f < 2) : FT N S 1 i f = N i f := by
  unfold FT
  by_cases h : i < 1
  · obtain rfl : i = 0 := by omega
    rw [if_pos h]
    match f, hf with
    | 0, _ => rfl
    | 1, _ => rfl
  · rw [if_neg h]
theorem FT_next (N S : Tab) (k i f : Nat) (hf : f < 2) : FT N S (k + 1) i f = if i = k ∧ f = 0 then flo N S k else FT1 N S k i f := by
  unfold FT FT1 FT
  by_cases h : i = k
  · subst h
    match f, hf with
    | 0, _ => simp
    | 1, _ => simp
  · by_cases h2 : i < k
    · simp [h, h2, show i < k + 1 by omega]
    · simp [h, h2, show ¬ i < k + 1 by omega]
theorem BT_start {n : Nat} (N S : Tab) (hn : 0 < n) {i f : Nat} (hi : i < n) : BT n N S 0 i f = FT N S n i f := by
  unfold BT FT
  rw [if_pos hi]
  by_cases h : n - 1 - 0 ≤ i
  · rw [if_pos h]
    have : i = n - 1 := by omega
    subst this
    rw [show n - 1 - (n - 1) = 0 from by omega, blo, bhi]
  · rw [if_neg h]
theorem BT_next {n c : Nat} (N S : Tab) (hc : c + 1 < n) {i f : Nat} (hi : i < n) (hf : f < 2) : BT n N S (c + 1) i f = if i = n - 1 - (c + 1) ∧ f = 0 then blo n N S (c + 1) else BT1 n N S c i f := by
  unfold BT BT1 BT
  by_cases h : i = n - 1 - (c + 1)
  · have e : n - 1 - i = c + 1 := by omega
    match f, hf with
    | 0, _ => simp [h, show n - 1 - (n - 1 - (c + 1)) = c + 1 from by omega]
    | 1, _ => simp [h, show n - 1 - (n - 1 - (c + 1)) = c + 1 from by omega]
  · by_cases h2 : n - 1 - c ≤ i
    · simp [h, h2, show n - 1 - (c + 1) ≤ i by omega]
    · simp [h, h2, show ¬ n - 1 - (c + 1) ≤ i by omega]
theorem BT_end {n : Nat} (N S : Tab) {i f : Nat} (hi : i < n) : BT n N S (n - 1) i f = tt n N S i f := by
  unfold BT tt tlo thi
  rw [if_pos (by omega)]
end Co
end Go.Proofs.Ytpipjpgcnbpllaa
