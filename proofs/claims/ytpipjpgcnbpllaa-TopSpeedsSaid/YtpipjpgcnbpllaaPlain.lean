/-
  Windows and steps on a chain, in plain numbers; no program in sight.
-/
namespace Go.Proofs.Ytpipjpgcnbpllaa
set_option linter.unusedVariables false
set_option linter.unusedSimpArgs false
namespace Co
/-- A row of pairs: row i, field 0 or 1. -/
abbrev Tab := Nat → Nat → Int
def wi (a lo hi : Int) : Bool := decide (lo ≤ a ∧ a ≤ hi)
def inB (a : Int) : Bool := decide (-1099511627776 ≤ a ∧ a ≤ 1099511627776)
def inS (a : Int) : Bool := decide (0 ≤ a ∧ a ≤ 1099511627776)
/-- All rows below k are in range. -/
def okW (N : Tab) : Nat → Bool
  | 0 => true
  | k + 1 => okW N k && (inB (N k 0) && inB (N k 1))
def okS (S : Tab) : Nat → Bool
  | 0 => true
  | k + 1 => okS S k && (inS (S k 0) && inS (S k 1))
/-- The error of a chain. -/
def ck (n : Nat) (N : Tab) (m : Nat) (S : Tab) : Int :=
  if 64 < n then 3 else if m ≠ n - 1 then 1 else if okW N n = true ∧ okS S m = true then 0 else 2
structure Ok (n : Nat) (N : Tab) (m : Nat) (S : Tab) : Prop where
  hn : n ≤ 64
  hm : m = n - 1
  w0 : ∀ i, i < n → -1099511627776 ≤ N i 0 ∧ N i 0 ≤ 1099511627776
  w1 : ∀ i, i < n → -1099511627776 ≤ N i 1 ∧ N i 1 ≤ 1099511627776
  s0 : ∀ i, i < m → 0 ≤ S i 0 ∧ S i 0 ≤ 1099511627776
  s1 : ∀ i, i < m → 0 ≤ S i 1 ∧ S i 1 ≤ 1099511627776
theorem inB_true {a : Int} : inB a = true ↔ -1099511627776 ≤ a ∧ a ≤ 1099511627776 := by unfold inB; exact decide_eq_true_iff
theorem inS_true {a : Int} : inS a = true ↔ 0 ≤ a ∧ a ≤ 1099511627776 := by unfold inS; exact decide_eq_true_iff
theorem okW_iff (N : Tab) : ∀ n, okW N n = true ↔ ∀ i, i < n → (-1099511627776 ≤ N i 0 ∧ N i 0 ≤ 1099511627776) ∧ (-1099511627776 ≤ N i 1 ∧ N i 1 ≤ 1099511627776)
  | 0 => by simp [okW]
  | k + 1 => by
    rw [okW, Bool.and_eq_true, Bool.and_eq_true, okW_iff N k, inB_true, inB_true]
    constructor
    · rintro ⟨h, h2⟩ i hi
      by_cases e : i = k
      · subst e; exact h2
      · exact h i (by omega)
    · intro h
      exact ⟨fun i hi => h i (by omega), h k (by omega)⟩
theorem okS_iff (S : Tab) : ∀ n, okS S n = true ↔ ∀ i, i < n → (0 ≤ S i 0 ∧ S i 0 ≤ 1099511627776) ∧ (0 ≤ S i 1 ∧ S i 1 ≤ 1099511627776)
  | 0 => by simp [okS]
  | k + 1 => by
    rw [okS, Bool.and_eq_true, Bool.and_eq_true, okS_iff S k, inS_true, inS_true]
    constructor
    · rintro ⟨h, h2⟩ i hi
      by_cases e : i = k
      · subst e; exact h2
      · exact h i (by omega)
    · intro h
      exact ⟨fun i hi => h i (by omega), h k (by omega)⟩
theorem ck_ok {n m : Nat} {N S : Tab} : ck n N m S = 0 ↔ Ok n N m S := by
  unfold ck
  constructor
  · intro h
    split at h
    · omega
    · split at h
      · omega
      · split at h
        · rename_i h1 h2 h3
          have a := (okW_iff N n).1 h3.1
          have b := (okS_iff S m).1 h3.2
          exact ⟨by omega, by omega, fun i hi => (a i hi).1, fun i hi => (a i hi).2, fun i hi => (b i hi).1, fun i hi => (b i hi).2⟩
        · omega
  · intro h
    rw [if_neg (by have := h.hn; omega), if_neg (by have := h.hm; omega), if_pos ⟨(okW_iff N n).2 fun i hi => ⟨h.w0 i hi, h.w1 i hi⟩, (okS_iff S m).2 fun i hi => ⟨h.s0 i hi, h.s1 i hi⟩⟩]
theorem ck_cases (n : Nat) (N : Tab) (m : Nat) (S : Tab) : ck n N m S = 0 ∨ ck n N m S = 1 ∨ ck n N m S = 2 ∨ ck n N m S = 3 := by
  unfold ck; repeat' split
  all_goals omega
theorem okW_mono {N : Tab} {n k : Nat} (h : okW N n = true) (hk : k ≤ n) : okW N k = true := (okW_iff N k).2 fun i hi => (okW_iff N n).1 h i (by omega)
theorem okW_false {N : Tab} {n k : Nat} (hk : k < n) (h : (inB (N k 0) && inB (N k 1)) = false) : okW N n = false := by
  cases e : okW N n
  · rfl
  · have := (okW_iff N n).1 e k hk
    rw [Bool.and_eq_false_iff] at h
    rcases h with h | h
    · rw [inB_true.2 this.1] at h; cases h
    · rw [inB_true.2 this.2] at h; cases h
theorem okS_false {S : Tab} {n k : Nat} (hk : k < n) (h : (inS (S k 0) && inS (S k 1)) = false) : okS S n = false := by
  cases e : okS S n
  · rfl
  · have := (okS_iff S n).1 e k hk
    rw [Bool.and_eq_false_iff] at h
    rcases h with h | h
    · rw [inS_true.2 this.1] at h; cases h
    · rw [inS_true.2 this.2] at h; cases h
theorem ck_3 {n m : Nat} {N S : Tab} (h : 64 < n) : ck n N m S = 3 := by unfold ck; rw [if_pos h]
theorem ck_1 {n m : Nat} {N S : Tab} (h : ¬ 64 < n) (h2 : m ≠ n - 1) : ck n N m S = 1 := by unfold ck; rw [if_neg h, if_pos h2]
theorem ck_2w {n m k : Nat} {N S : Tab} (h : ¬ 64 < n) (h2 : m = n - 1) (hk : k < n) (h3 : (inB (N k 0) && inB (N k 1)) = false) : ck n N m S = 2 := by
  unfold ck; rw [if_neg h, if_neg (by omega), if_neg]; rintro ⟨a, _⟩; rw [okW_false hk h3] at a; cases a
theorem ck_2s {n m k : Nat} {N S : Tab} (h : ¬ 64 < n) (h2 : m = n - 1) (hk : k < m) (h3 : (inS (S k 0) && inS (S k 1)) = false) : ck n N m S = 2 := by
  unfold ck; rw [if_neg h, if_neg (by omega), if_neg]; rintro ⟨_, a⟩; rw [okS_false hk h3] at a; cases a
theorem ck_0 {n m : Nat} {N S : Tab} (h : ¬ 64 < n) (h2 : m = n - 1) (h3 : okW N n = true) (h4 : okS S m = true) : ck n N m S = 0 := by
  unfold ck; rw [if_neg h, if_neg (by omega), if_pos ⟨h3, h4⟩]
/-- Sums of a field of c rows from row i on. -/
def sm (S : Tab) (f i : Nat) : Nat → Int
  | 0 => 0
  | c + 1 => sm S f i c + S (i + c) f
/-- By how much two windows exclude each other. -/
def ex (N S : Tab) (i j : Nat) : Int :=
  if i = j then N i 0 - N i 1 else if N i 1 < N i 0 ∨ N j 1 < N j 0 then 0 else
    max (N j 0 - (N i 1 + sm S 0 i (j - i))) (N i 0 - sm S 1 i (j - i) - N j 1)
/-- The single conflicts below k, the pairs of i below j, the pairs of rows below k. -/
def sgl (N S : Tab) : Nat → List (Nat × Nat)
  | 0 => []
  | k + 1 => sgl N S k ++ (if 0 < ex N S k k then [(k, k)] else [])
def prr (N S : Tab) (i : Nat) : Nat → List (Nat × Nat)
  | 0 => []
  | c + 1 => prr N S i c ++ (if 0 < ex N S i (i + 1 + c) then [(i, i + 1 + c)] else [])
def prs (N S : Tab) (n : Nat) : Nat → List (Nat × Nat)
  | 0 => []
  | k + 1 => prs N S n k ++ prr N S k (n - (k + 1))
def cfs (n : Nat) (N S : Tab) : List (Nat × Nat) := sgl N S n ++ prs N S n n
/-- The first conflict, and whether there is one. -/
def cI (n : Nat) (N S : Tab) : Int := match cfs n N S with | [] => 0 | c :: _ => (c.1 : Int)
def cJ (n : Nat) (N S : Tab) : Int := match cfs n N S with | [] => 0 | c :: _ => (c.2 : Int)
def cB (n : Nat) (N S : Tab) : Bool := match cfs n N S with | [] => false | _ :: _ => true
/-- The excess of a conflict, and its error. -/
def xsE (n : Nat) (N : Tab) (m : Nat) (S : Tab) (I J : Int) : Int :=
  if ck n N m S ≠ 0 then ck n N m S else if I < 0 ∨ J < I ∨ (n : Int) ≤ J then 1 else if ex N S I.toNat J.toNat ≤ 0 then 6 else 0
def xsV (n : Nat) (N : Tab) (m : Nat) (S : Tab) (I J : Int) : Int := if xsE n N m S I J = 0 then ex N S I.toNat J.toNat else 0
/-- Whether values meet a chain. -/
def stp (S : Tab) (v : Nat → Int) (i : Nat) : Bool := decide (-S i 1 ≤ v (i + 1) - v i ∧ v (i + 1) - v i ≤ S i 0)
def mtW (N : Tab) (v : Nat → Int) : Nat → Bool
  | 0 => true
  | k + 1 => mtW N v k && decide (N k 0 ≤ v k ∧ v k ≤ N k 1)
def mtS (S : Tab) (v : Nat → Int) : Nat → Bool
  | 0 => true
  | k + 1 => mtS S v k && stp S v k
def mt (n : Nat) (N : Tab) (m : Nat) (S : Tab) (l : Nat) (v : Nat → Int) : Bool :=
  decide (ck n N m S = 0) && decide (l = n) && mtW N v n && mtS S v m
/-- Tight windows: the two passes. -/
def fhi (N S : Tab) : Nat → Int
  | 0 => N 0 1
  | k + 1 => min (N (k + 1) 1) (fhi N S k + S k 0)
def flo (N S : Tab) : Nat → Int
  | 0 => N 0 0
  | k + 1 => max (N (k + 1) 0) (flo N S k - S k 1)
/-- The row c rows ahead of the last one, n - 1 - c. -/
def bhi (n : Nat) (N S : Tab) : Nat → Int
  | 0 => fhi N S (n - 1)
  | c + 1 => min (fhi N S (n - 1 - (c + 1))) (bhi n N S c + S (n - 1 - (c + 1)) 1)
def blo (n : Nat) (N S : Tab) : Nat → Int
  | 0 => flo N S (n - 1)
  | c + 1 => max (flo N S (n - 1 - (c + 1))) (blo n N S c - S (n - 1 - (c + 1)) 0)
def thi (n : Nat) (N S : Tab) (i : Nat) : Int := bhi n N S (n - 1 - i)
def tlo (n : Nat) (N S : Tab) (i : Nat) : Int := blo n N S (n - 1 - i)
/-- The error of tight windows. -/
def tgE (n : Nat) (N : Tab) (m : Nat) (S : Tab) : Int := if ck n N m S ≠ 0 then ck n N m S else if cB n N S then 11 else 0
end Co
end Go.Proofs.Ytpipjpgcnbpllaa
