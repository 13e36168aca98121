/-
  The lists of conflicts as the program gathers them; no program in sight.
-/
import Derived.Test.YtpipjpgcnbpllaaPlain3
namespace Go.Proofs.Ytpipjpgcnbpllaa
set_option linter.unusedVariables false
set_option linter.unusedSimpArgs false
namespace Co
/-- A list of pairs as a table. -/
def cf (l : List (Nat × Nat)) : Tab := fun i f => if f = 0 then ((l.getD i (0, 0)).1 : Int) else ((l.getD i (0, 0)).2 : Int)
/-- One pair as a table. -/
def c1 (a b : Int) : Tab := fun _ f => if f = 0 then a else b
theorem cf_app (l l2 : List (Nat × Nat)) (i f : Nat) : (if i < l.length then cf l i f else cf l2 (i - l.length) f) = cf (l ++ l2) i f := by
  unfold cf
  by_cases h : i < l.length
  · simp [h, List.getD, List.getElem?_append_left h]
  · simp [h, List.getD, List.getElem?_append_right (by omega : l.length ≤ i)]
theorem cf_snoc (l : List (Nat × Nat)) (a b : Nat) {i f : Nat} (hi : i < l.length + 1) : (if i < l.length then cf l i f else c1 a b (i - l.length) f) = cf (l ++ [(a, b)]) i f := by
  rw [← cf_app]
  by_cases h : i < l.length
  · rw [if_pos h, if_pos h]
  · rw [if_neg h, if_neg h, show i - l.length = 0 from by omega]; rfl
def cfl (n : Nat) (N : Tab) (m : Nat) (S : Tab) : List (Nat × Nat) := if ck n N m S = 0 then cfs n N S else []
def sI (N S : Tab) (k j : Nat) : List (Nat × Nat) := if j = k then sgl N S k else sgl N S (k + 1)
def pI (n : Nat) (N S : Tab) (k j : Nat) : List (Nat × Nat) := prs N S n k ++ prr N S k (j - k - 1)
theorem sI_start (N S : Tab) (k : Nat) : sI N S k k = sgl N S k := if_pos rfl
theorem pI_start (n : Nat) (N S : Tab) (k : Nat) : pI n N S k k = prs N S n k := by
  unfold pI; rw [show k - k - 1 = 0 from by omega, prr, List.append_nil]
theorem none_step {n : Nat} {N S : Tab} {k j : Nat} (hk : k ≤ j) (h : ex N S k j ≤ 0) : sI N S k (j + 1) = sI N S k j ∧ pI n N S k (j + 1) = pI n N S k j := by
  unfold sI pI
  rw [if_neg (by omega)]
  by_cases e : j = k
  · subst e
    rw [if_pos rfl, sgl, if_neg (by omega), List.append_nil, show j + 1 - j - 1 = 0 from by omega, show j - j - 1 = 0 from by omega]
    exact ⟨rfl, rfl⟩
  · rw [if_neg e, show j + 1 - k - 1 = (j - k - 1) + 1 from by omega, prr, show k + 1 + (j - k - 1) = j from by omega, if_neg (by omega), List.append_nil]
    exact ⟨rfl, rfl⟩
theorem one_step {n : Nat} {N S : Tab} {k : Nat} (h : 0 < ex N S k k) : sI N S k (k + 1) = sI N S k k ++ [(k, k)] ∧ pI n N S k (k + 1) = pI n N S k k := by
  unfold sI pI
  rw [if_neg (by omega), if_pos rfl, sgl, if_pos h, show k + 1 - k - 1 = 0 from by omega, show k - k - 1 = 0 from by omega]
  exact ⟨rfl, rfl⟩
theorem pair_step {n : Nat} {N S : Tab} {k j : Nat} (hk : k < j) (h : 0 < ex N S k j) : sI N S k (j + 1) = sI N S k j ∧ pI n N S k (j + 1) = pI n N S k j ++ [(k, j)] := by
  unfold sI pI
  rw [if_neg (by omega), if_neg (by omega), show j + 1 - k - 1 = (j - k - 1) + 1 from by omega, prr, show k + 1 + (j - k - 1) = j from by omega, if_pos h, List.append_assoc]
  exact ⟨rfl, rfl⟩
theorem end_step {n : Nat} {N S : Tab} {k : Nat} (hk : k < n) : sI N S k n = sgl N S (k + 1) ∧ pI n N S k n = prs N S n (k + 1) := by
  unfold sI pI
  rw [if_neg (by omega), prs, Nat.sub_sub]
  exact ⟨rfl, rfl⟩
theorem sgl_len (N S : Tab) : ∀ k, (sgl N S k).length ≤ k
  | 0 => by simp [sgl]
  | k + 1 => by
    have := sgl_len N S k
    rw [sgl, List.length_append]
    split <;> simp <;> omega
theorem prr_len (N S : Tab) (i : Nat) : ∀ c, (prr N S i c).length ≤ c
  | 0 => by simp [prr]
  | c + 1 => by
    have := prr_len N S i c
    rw [prr, List.length_append]
    split <;> simp <;> omega
theorem prs_len (n : Nat) (N S : Tab) : ∀ k, (prs N S n k).length ≤ k * n
  | 0 => by simp [prs]
  | k + 1 => by
    have := prs_len n N S k
    have := prr_len N S k (n - (k + 1))
    rw [prs, List.length_append, Nat.add_mul]; omega
theorem sI_len (N S : Tab) (k j : Nat) : (sI N S k j).length ≤ k + 1 := by
  unfold sI
  have := sgl_len N S k
  have := sgl_len N S (k + 1)
  split <;> omega
theorem mul64 {k n : Nat} (hk : k ≤ 64) (hn : n ≤ 64) : k * n ≤ 4096 := Nat.mul_le_mul hk hn
theorem pI_len {n : Nat} (N S : Tab) {k j : Nat} (hk : k ≤ 64) (hn : n ≤ 64) (hj : j ≤ 64) : (pI n N S k j).length ≤ 4160 := by
  unfold pI
  have := prs_len n N S k
  have := prr_len N S k (j - k - 1)
  have := mul64 hk hn
  rw [List.length_append]; omega
theorem cfs_len {n : Nat} (N S : Tab) (hn : n ≤ 64) : (cfs n N S).length ≤ 4160 := by
  unfold cfs
  have := sgl_len N S n
  have := prs_len n N S n
  have := mul64 hn hn
  rw [List.length_append]; omega
/-- What All gives, seen by its first element. -/
theorem cfl_cases (n : Nat) (N : Tab) (m : Nat) (S : Tab) : (cfl n N m S = [] ∧ ((ck n N m S ≠ 0) ∨ (ck n N m S = 0 ∧ cB n N S = false))) ∨ ∃ a b l, cfl n N m S = (a, b) :: l ∧ ck n N m S = 0 ∧ cB n N S = true ∧ cI n N S = a ∧ cJ n N S = b := by
  unfold cfl
  by_cases h : ck n N m S = 0
  · rw [if_pos h]
    rcases hl : cfs n N S with _ | ⟨⟨a, b⟩, l⟩
    · left; refine ⟨rfl, .inr ⟨h, ?_⟩⟩; unfold cB; rw [hl]
    · right; refine ⟨a, b, l, rfl, h, ?_, ?_, ?_⟩
      · unfold cB; rw [hl]
      · unfold cI; rw [hl]
      · unfold cJ; rw [hl]
  · rw [if_neg h]; exact .inl ⟨rfl, .inl h⟩
/-- The first conflict of a chain without an error. -/
def fB (n : Nat) (N : Tab) (m : Nat) (S : Tab) : Bool := decide (ck n N m S = 0) && cB n N S
def fI (n : Nat) (N : Tab) (m : Nat) (S : Tab) : Int := if fB n N m S then cI n N S else 0
def fJ (n : Nat) (N : Tab) (m : Nat) (S : Tab) : Int := if fB n N m S then cJ n N S else 0
theorem f_no {n : Nat} {N : Tab} {m : Nat} {S : Tab} (h : (ck n N m S ≠ 0) ∨ (ck n N m S = 0 ∧ cB n N S = false)) : fB n N m S = false ∧ fI n N m S = 0 ∧ fJ n N m S = 0 := by
  have e : fB n N m S = false := by
    unfold fB
    rcases h with h | ⟨_, h⟩
    · rw [decide_eq_false h]; rfl
    · rw [h, Bool.and_false]
  unfold fI fJ
  rw [e]; exact ⟨rfl, rfl, rfl⟩
theorem f_yes {n : Nat} {N : Tab} {m : Nat} {S : Tab} (h : ck n N m S = 0) (h2 : cB n N S = true) : fB n N m S = true ∧ fI n N m S = cI n N S ∧ fJ n N m S = cJ n N S := by
  have e : fB n N m S = true := by unfold fB; rw [decide_eq_true h, h2]; rfl
  unfold fI fJ
  rw [e]; exact ⟨rfl, rfl, rfl⟩
end Co
end Go.Proofs.Ytpipjpgcnbpllaa
