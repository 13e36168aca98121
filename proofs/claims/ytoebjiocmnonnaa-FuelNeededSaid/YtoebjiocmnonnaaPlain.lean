/-
  Plain arithmetic of fuel accounts; no program in sight.
-/
namespace Go.Proofs.Ytoebjiocmnonnaa
set_option linter.unusedVariables false
namespace Fu
def ok (E L R B : Int) : Prop := 1 ≤ E ∧ E ≤ 3000000000 ∧ 0 ≤ L ∧ L ≤ 3000000000 - E ∧ 0 ≤ R ∧ R ≤ L ∧ 0 ≤ B ∧ B ≤ L
instance (E L R B : Int) : Decidable (ok E L R B) := by unfold ok; infer_instance
def ck (E L R B : Int) : Int := if ok E L R B then 0 else 2
def sel (c x : Int) : Int := if c = 0 then x else 0
def lf (E L R B : Int) : Int := sel (ck E L R B) (L - B)
def ms (E L R B : Int) : Int := sel (ck E L R B) (E + (L - B))
def low (E L R B : Int) : Bool := decide (ok E L R B ∧ L - B < R)
def inB (f t : Int) : Prop := 0 ≤ f ∧ f ≤ 50000 ∧ 0 ≤ t ∧ t ≤ 1099511627776
instance (f t : Int) : Decidable (inB f t) := by unfold inB; infer_instance
def burnE (E L R B f t : Int) : Int := if ¬ ok E L R B then 2 else if ¬ inB f t then 2 else if L - B < f * t then 15 else 0
def endE (E L R B f : Int) : Int := if ¬ ok E L R B then 2 else if f < 1 ∨ 50000 < f then 2 else if L - B < R then 15 else 0
def endV (E L R B f : Int) : Int := sel (endE E L R B f) ((L - B - R) / f)
def biE (l0 l1 f0 f1 t0 t1 : Int) : Int :=
  if l1 < l0 ∨ f1 < f0 ∨ t1 < t0 then 1 else if l0 < 0 ∨ 3000000000 < l1 ∨ f0 < 0 ∨ 50000 < f1 ∨ t0 < 0 ∨ 1099511627776 < t1 then 2 else if l0 < f1 * t1 then 15 else 0
theorem sel0 (x : Int) : sel 0 x = x := rfl
theorem sel2 (x : Int) : sel 2 x = 0 := rfl
theorem sel15 (x : Int) : sel 15 x = 0 := rfl
theorem sel1 (x : Int) : sel 1 x = 0 := rfl
theorem ck_yes {E L R B : Int} (h : ok E L R B) : ck E L R B = 0 := if_pos h
theorem ck_no {E L R B : Int} (h : ¬ ok E L R B) : ck E L R B = 2 := if_neg h
theorem mul_bd {f t : Int} (h : inB f t) : 0 ≤ f * t ∧ f * t ≤ 54975581388800000 := by
  obtain ⟨a, b, c, d⟩ := h
  have h1 := Int.mul_nonneg a c
  have h2 := Int.mul_le_mul b d c (by omega)
  omega
theorem burn_1 {E L R B f t : Int} (h : ¬ ok E L R B) : burnE E L R B f t = 2 := if_pos h
theorem burn_2 {E L R B f t : Int} (h : ok E L R B) (h2 : ¬ inB f t) : burnE E L R B f t = 2 := by unfold burnE; rw [if_neg (fun q => q h), if_pos h2]
theorem burn_3 {E L R B f t : Int} (h : ok E L R B) (h2 : inB f t) (h3 : L - B < f * t) : burnE E L R B f t = 15 := by unfold burnE; rw [if_neg (fun q => q h), if_neg (fun q => q h2), if_pos h3]
theorem burn_4 {E L R B f t : Int} (h : ok E L R B) (h2 : inB f t) (h3 : ¬ L - B < f * t) : burnE E L R B f t = 0 := by unfold burnE; rw [if_neg (fun q => q h), if_neg (fun q => q h2), if_neg h3]
theorem end_1 {E L R B f : Int} (h : ¬ ok E L R B) : endE E L R B f = 2 := if_pos h
theorem end_2 {E L R B f : Int} (h : ok E L R B) (h2 : f < 1 ∨ 50000 < f) : endE E L R B f = 2 := by unfold endE; rw [if_neg (fun q => q h), if_pos h2]
theorem end_3 {E L R B f : Int} (h : ok E L R B) (h2 : ¬ (f < 1 ∨ 50000 < f)) (h3 : L - B < R) : endE E L R B f = 15 := by unfold endE; rw [if_neg (fun q => q h), if_neg h2, if_pos h3]
theorem end_4 {E L R B f : Int} (h : ok E L R B) (h2 : ¬ (f < 1 ∨ 50000 < f)) (h3 : ¬ L - B < R) : endE E L R B f = 0 := by unfold endE; rw [if_neg (fun q => q h), if_neg h2, if_neg h3]
theorem bi_1 {l0 l1 f0 f1 t0 t1 : Int} (h : l1 < l0 ∨ f1 < f0 ∨ t1 < t0) : biE l0 l1 f0 f1 t0 t1 = 1 := if_pos h
theorem bi_2 {l0 l1 f0 f1 t0 t1 : Int} (h : ¬ (l1 < l0 ∨ f1 < f0 ∨ t1 < t0)) (h2 : l0 < 0 ∨ 3000000000 < l1 ∨ f0 < 0 ∨ 50000 < f1 ∨ t0 < 0 ∨ 1099511627776 < t1) : biE l0 l1 f0 f1 t0 t1 = 2 := by
  unfold biE; rw [if_neg h, if_pos h2]
theorem bi_3 {l0 l1 f0 f1 t0 t1 : Int} (h : ¬ (l1 < l0 ∨ f1 < f0 ∨ t1 < t0)) (h2 : ¬ (l0 < 0 ∨ 3000000000 < l1 ∨ f0 < 0 ∨ 50000 < f1 ∨ t0 < 0 ∨ 1099511627776 < t1)) (h3 : l0 < f1 * t1) : biE l0 l1 f0 f1 t0 t1 = 15 := by
  unfold biE; rw [if_neg h, if_neg h2, if_pos h3]
theorem bi_4 {l0 l1 f0 f1 t0 t1 : Int} (h : ¬ (l1 < l0 ∨ f1 < f0 ∨ t1 < t0)) (h2 : ¬ (l0 < 0 ∨ 3000000000 < l1 ∨ f0 < 0 ∨ 50000 < f1 ∨ t0 < 0 ∨ 1099511627776 < t1)) (h3 : ¬ l0 < f1 * t1) : biE l0 l1 f0 f1 t0 t1 = 0 := by
  unfold biE; rw [if_neg h, if_neg h2, if_neg h3]

/-! What is needed -/
def at_ (xs : List Int) (k : Nat) : Int := xs.getD k 0
def sumTo (xs ys : List Int) : Nat → Int
  | 0 => 0
  | k + 1 => sumTo xs ys k + at_ xs k * at_ ys k
def capTo (xs ys : List Int) : Nat → Int
  | 0 => 0
  | k + 1 => capTo xs ys k + min (at_ xs k * at_ ys k) 3000000001
def allIn (xs ys : List Int) (n : Nat) : Prop := ∀ k, k < n → inB (at_ xs k) (at_ ys k)
def ndBad (xs ys : List Int) (r : Int) : Prop := r < 0 ∨ 3000000000 < r ∨ ¬ allIn xs ys xs.length ∨ 3000000000 < r + sumTo xs ys xs.length
open Classical in
noncomputable def ndE (xs ys : List Int) (r : Int) : Int := if xs.length ≠ ys.length then 1 else if 64 < xs.length then 3 else if ndBad xs ys r then 2 else 0
noncomputable def ndV (xs ys : List Int) (r : Int) : Int := sel (ndE xs ys r) (r + sumTo xs ys xs.length)
theorem nd_1 {xs ys : List Int} {r : Int} (h : xs.length ≠ ys.length) : ndE xs ys r = 1 := by unfold ndE; rw [if_pos h]
theorem nd_2 {xs ys : List Int} {r : Int} (h : xs.length = ys.length) (h2 : 64 < xs.length) : ndE xs ys r = 3 := by unfold ndE; rw [if_neg (fun q => q h), if_pos h2]
theorem nd_3 {xs ys : List Int} {r : Int} (h : xs.length = ys.length) (h2 : ¬ 64 < xs.length) (h3 : ndBad xs ys r) : ndE xs ys r = 2 := by unfold ndE; rw [if_neg (fun q => q h), if_neg h2, if_pos h3]
theorem nd_4 {xs ys : List Int} {r : Int} (h : xs.length = ys.length) (h2 : ¬ 64 < xs.length) (h3 : ¬ ndBad xs ys r) : ndE xs ys r = 0 := by unfold ndE; rw [if_neg (fun q => q h), if_neg h2, if_neg h3]
theorem allIn_le {xs ys : List Int} {m n : Nat} (h : allIn xs ys n) (hm : m ≤ n) : allIn xs ys m := fun k hk => h k (by omega)
theorem sum_bd {xs ys : List Int} (n : Nat) (h : allIn xs ys n) : 0 ≤ sumTo xs ys n ∧ sumTo xs ys n ≤ n * 54975581388800000 := by
  induction n with
  | zero => simp [sumTo]
  | succ k ih =>
    have a := ih (allIn_le h (by omega))
    have b := mul_bd (h k (by omega))
    simp only [sumTo]
    omega
theorem cap_bd {xs ys : List Int} (n : Nat) (h : allIn xs ys n) : 0 ≤ capTo xs ys n ∧ capTo xs ys n ≤ n * 3000000001 ∧ capTo xs ys n ≤ sumTo xs ys n ∧ (capTo xs ys n = sumTo xs ys n ∨ 3000000001 ≤ capTo xs ys n) := by
  induction n with
  | zero => simp [sumTo, capTo]
  | succ k ih =>
    have a := ih (allIn_le h (by omega))
    have b := mul_bd (h k (by omega))
    simp only [sumTo, capTo]
    omega
theorem cap_iff {xs ys : List Int} {n : Nat} {r : Int} (h : allIn xs ys n) (hr : 0 ≤ r) : 3000000000 < r + capTo xs ys n ↔ 3000000000 < r + sumTo xs ys n := by
  have := cap_bd n h
  omega
theorem cap_eq {xs ys : List Int} {n : Nat} {r : Int} (h : allIn xs ys n) (hr : 0 ≤ r) (hs : ¬ 3000000000 < r + sumTo xs ys n) : capTo xs ys n = sumTo xs ys n := by
  have := cap_bd n h
  omega
theorem not_allIn {xs ys : List Int} {n k : Nat} (hk : k < n) (h : ¬ inB (at_ xs k) (at_ ys k)) : ¬ allIn xs ys n := fun q => h (q k hk)
theorem allIn_snoc {xs ys : List Int} {k : Nat} (h : allIn xs ys k) (h2 : inB (at_ xs k) (at_ ys k)) : allIn xs ys (k + 1) := by
  intro j hj
  by_cases e : j = k
  · subst e; exact h2
  · exact h j (by omega)
end Fu
end Go.Proofs.Ytoebjiocmnonnaa
