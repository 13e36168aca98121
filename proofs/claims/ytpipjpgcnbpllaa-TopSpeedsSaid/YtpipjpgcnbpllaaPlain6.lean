/-
  The greatest profile below wishes; no program in sight.
-/
import Derived.Test.YtpipjpgcnbpllaaPlain5
namespace Go.Proofs.Ytpipjpgcnbpllaa
set_option linter.unusedVariables false
set_option linter.unusedSimpArgs false
namespace Co
/-- All values below k are in range. -/
def okV (v : Nat → Int) : Nat → Bool
  | 0 => true
  | k + 1 => okV v k && inB (v k)
theorem okV_iff (v : Nat → Int) : ∀ n, okV v n = true ↔ ∀ i, i < n → -1099511627776 ≤ v i ∧ v i ≤ 1099511627776
  | 0 => by simp [okV]
  | k + 1 => by
    rw [okV, Bool.and_eq_true, okV_iff v k, inB_true]
    constructor
    · rintro ⟨h, h2⟩ i hi
      by_cases e : i = k
      · subst e; exact h2
      · exact h i (by omega)
    · intro h
      exact ⟨fun i hi => h i (by omega), h k (by omega)⟩
theorem okV_false {v : Nat → Int} {n k : Nat} (hk : k < n) (h : inB (v k) = false) : okV v n = false := by
  cases e : okV v n
  · rfl
  · have := (okV_iff v n).1 e k hk
    rw [inB_true.2 this] at h; cases h
/-- The error of the greatest profile below wishes, and its length. -/
def blE (n : Nat) (N : Tab) (m : Nat) (S : Tab) (l : Nat) (v : Nat → Int) : Int :=
  if ck n N m S ≠ 0 then ck n N m S else if l ≠ n then 1 else if okV v n = true then tgE n (lwN N v) m S else 2
def blL (n : Nat) (N : Tab) (m : Nat) (S : Tab) (l : Nat) (v : Nat → Int) : Nat := if blE n N m S l v = 0 then n else 0
/-- The windows as far as they are lowered. -/
def lwK (N : Tab) (v : Nat → Int) (k : Nat) : Tab := fun i f => if i < k then lwN N v i f else N i f
theorem lwK_step (N : Tab) (v : Nat → Int) (k : Nat) {i f : Nat} (h : i ≠ k ∨ f ≠ 1) : lwK N v (k + 1) i f = lwK N v k i f := by
  unfold lwK lwN
  by_cases e : i = k
  · subst e
    have hf : f ≠ 1 := by omega
    simp [hf]
  · simp only [show (i < k + 1) = (i < k) from propext (by omega)]
theorem lwK_at (N : Tab) (v : Nat → Int) (k : Nat) : lwK N v (k + 1) k 1 = min (N k 1) (v k) := by unfold lwK lwN; simp
/-- What the profile meets. -/
theorem profile {n m l : Nat} {N S : Tab} {v : Nat → Int} (h : blE n N m S l v = 0) :
    l = n ∧ Ok n N m S ∧ Ok n (lwN N v) m S ∧ cB n (lwN N v) S = false ∧ mt n N m S n (thi n (lwN N v) S) = true ∧ (∀ i, i < n → thi n (lwN N v) S i ≤ v i) ∧ (∀ i, i < n → -1099511627776 ≤ v i ∧ v i ≤ 1099511627776) ∧
    (∀ i, i < n → -1099511627776 ≤ thi n (lwN N v) S i ∧ thi n (lwN N v) S i ≤ 1099511627776) := by
  unfold blE at h
  split at h
  · exact absurd h (by assumption)
  · rename_i hck
    have hck : ck n N m S = 0 := by omega
    have O := ck_ok.1 hck
    split at h
    · omega
    · rename_i hl
      have hl : l = n := by omega
      split at h
      · rename_i hv
        have hv := (okV_iff v n).1 hv
        have O2 : Ok n (lwN N v) m S := O.of_bd (lw_bd O.bd hv)
        have hcb : cB n (lwN N v) S = false := by
          unfold tgE at h
          rw [if_neg (by have := ck_ok.2 O2; omega)] at h
          cases q : cB n (lwN N v) S
          · rfl
          · rw [q] at h; simp at h
        have F := feas_hi O2.pos (cB_false.1 hcb)
        have hw : ∀ i, i < n → thi n (lwN N v) S i ≤ v i ∧ N i 0 ≤ thi n (lwN N v) S i ∧ thi n (lwN N v) S i ≤ N i 1 := fun i hi => by
          have := F.win i hi
          simp only [lwN, if_true, if_neg (show ¬ (0 : Nat) = 1 by omega)] at this
          omega
        refine ⟨hl, O, O2, hcb, mt_iff.2 ⟨O, rfl, fun i hi => (hw i hi).2, F.stp⟩, fun i hi => (hw i hi).1, hv, fun i hi => ?_⟩
        have := hw i hi
        have := O.w0 i hi
        have := O.w1 i hi
        omega
      · omega
theorem bl_c {n m l : Nat} {N S : Tab} {v : Nat → Int} (h : ck n N m S ≠ 0) : blE n N m S l v = ck n N m S := by unfold blE; rw [if_pos h]
theorem bl_l {n m l : Nat} {N S : Tab} {v : Nat → Int} (h : ck n N m S = 0) (h2 : l ≠ n) : blE n N m S l v = 1 := by unfold blE; rw [if_neg (by omega), if_pos h2]
theorem bl_v {n m k : Nat} {N S : Tab} {v : Nat → Int} (h : ck n N m S = 0) (hk : k < n) (h2 : inB (v k) = false) : blE n N m S n v = 2 := by
  unfold blE; rw [if_neg (by omega), if_neg (by omega), if_neg]; rw [okV_false hk h2]; simp
theorem bl_t {n m : Nat} {N S : Tab} {v : Nat → Int} (h : ck n N m S = 0) (h2 : okV v n = true) : blE n N m S n v = tgE n (lwN N v) m S := by
  unfold blE; rw [if_neg (by omega), if_neg (by omega), if_pos h2]
end Co
end Go.Proofs.Ytpipjpgcnbpllaa
