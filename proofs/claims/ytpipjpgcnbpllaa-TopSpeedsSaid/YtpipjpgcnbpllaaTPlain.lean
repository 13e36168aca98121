/-
  Plain: steps out of accelerations, windows with a speed limit, and what a schedule is; no program in sight.
-/
import Derived.Test.YtpipjpgcnbpllaaPlain6
namespace Go.Proofs.Ytpipjpgcnbpllaa
set_option linter.unusedVariables false
set_option linter.unusedSimpArgs false
namespace Sp
abbrev Tab := Nat → Nat → Int
def spd (x : Int) : Bool := decide (0 ≤ x ∧ x ≤ 1000)
def dis (x : Int) : Bool := decide (0 ≤ x ∧ x ≤ 8000000)
theorem spd_iff {x : Int} : spd x = true ↔ 0 ≤ x ∧ x ≤ 1000 := by unfold spd; exact decide_eq_true_iff
theorem dis_iff {x : Int} : dis x = true ↔ 0 ≤ x ∧ x ≤ 8000000 := by unfold dis; exact decide_eq_true_iff
def okD (D : Nat → Int) : Nat → Bool
  | 0 => true
  | k + 1 => okD D k && dis (D k)
theorem okD_iff (D : Nat → Int) : ∀ n, okD D n = true ↔ ∀ i, i < n → 0 ≤ D i ∧ D i ≤ 8000000
  | 0 => by simp [okD]
  | k + 1 => by
    rw [okD, Bool.and_eq_true, okD_iff D k, dis_iff]
    constructor
    · rintro ⟨h, h2⟩ i hi
      by_cases e : i = k
      · subst e; exact h2
      · exact h i (by omega)
    · intro h
      exact ⟨fun i hi => h i (by omega), h k (by omega)⟩
theorem okD_no {D : Nat → Int} {n k : Nat} (hk : k < n) (h : dis (D k) = false) : okD D n = false := by
  cases e : okD D n
  · rfl
  · have := (okD_iff D n).1 e k hk
    rw [dis_iff.2 this] at h; cases h
/-- The error of Steps, and the steps. -/
def stE (l : Nat) (D : Nat → Int) (a b : Int) : Int := if 64 ≤ l then 3 else if (spd a && spd b) = true then (if okD D l = true then 0 else 2) else 2
def stL (l : Nat) (D : Nat → Int) (a b : Int) : Nat := if stE l D a b = 0 then l else 0
theorem stL_0 {l : Nat} {D : Nat → Int} {a b : Int} (h : stE l D a b = 0) : stL l D a b = l := if_pos h
theorem stL_e {l : Nat} {D : Nat → Int} {a b : Int} (h : stE l D a b ≠ 0) : stL l D a b = 0 := if_neg h
def stT (D : Nat → Int) (a b : Int) : Tab := fun i f => if f = 0 then a * D i / 6000 else b * D i / 6000
/-- The error of Limit, and the windows. -/
def lmE (n l : Nat) (h : Int) : Int := if 64 < n then 3 else if l ≠ n then 1 else if spd h = true then 0 else 2
def lmL (n l : Nat) (h : Int) : Nat := if lmE n l h = 0 then n else 0
theorem lmL_0 {n l : Nat} {h : Int} (q : lmE n l h = 0) : lmL n l h = n := if_pos q
theorem lmL_e {n l : Nat} {h : Int} (q : lmE n l h ≠ 0) : lmL n l h = 0 := if_neg q
def lmT (N : Tab) (Al : Nat → Int) (alt h : Int) (k : Nat) : Tab := fun i f => if f = 1 ∧ i < k ∧ Al i < alt then (if h < N i 1 then h else N i 1) else N i f
theorem lmT_0 (N : Tab) (Al : Nat → Int) (alt h : Int) (i f : Nat) : lmT N Al alt h 0 i f = N i f := by unfold lmT; rw [if_neg (by omega)]
theorem lmT_step {N : Tab} {Al : Nat → Int} {alt h : Int} {k i f : Nat} (hh : i ≠ k ∨ f ≠ 1 ∨ ¬ Al k < alt) : lmT N Al alt h (k + 1) i f = lmT N Al alt h k i f := by
  unfold lmT
  by_cases c : f = 1 ∧ i < k ∧ Al i < alt
  · rw [if_pos c, if_pos (by omega)]
  · rw [if_neg c, if_neg]
    rintro ⟨c1, c2, c3⟩
    by_cases e : i = k
    · subst e; omega
    · omega
theorem lmT_at {N : Tab} {Al : Nat → Int} {alt h : Int} {k : Nat} (hh : Al k < alt) : lmT N Al alt h (k + 1) k 1 = if h < N k 1 then h else N k 1 := by unfold lmT; rw [if_pos ⟨rfl, by omega, hh⟩]
theorem lmT_late {N : Tab} {Al : Nat → Int} {alt h : Int} {k f : Nat} : lmT N Al alt h k k f = N k f := by unfold lmT; rw [if_neg (by omega)]
/-- All bounds are speeds. -/
def okP (N : Tab) : Nat → Bool
  | 0 => true
  | k + 1 => okP N k && (spd (N k 0) && spd (N k 1))
theorem okP_iff (N : Tab) : ∀ n, okP N n = true ↔ ∀ i, i < n → (0 ≤ N i 0 ∧ N i 0 ≤ 1000) ∧ (0 ≤ N i 1 ∧ N i 1 ≤ 1000)
  | 0 => by simp [okP]
  | k + 1 => by
    rw [okP, Bool.and_eq_true, Bool.and_eq_true, okP_iff N k, spd_iff, spd_iff]
    constructor
    · rintro ⟨h, h2⟩ i hi
      by_cases e : i = k
      · subst e; exact h2
      · exact h i (by omega)
    · intro h
      exact ⟨fun i hi => h i (by omega), h k (by omega)⟩
theorem okP_no {N : Tab} {n k : Nat} (hk : k < n) (h : (spd (N k 0) && spd (N k 1)) = false) : okP N n = false := by
  cases e : okP N n
  · rfl
  · have := (okP_iff N n).1 e k hk
    rw [spd_iff.2 this.1, spd_iff.2 this.2] at h; cases h
def scE (n : Nat) (N : Tab) (m : Nat) (S : Tab) : Int := if Co.ck n N m S ≠ 0 then Co.ck n N m S else if okP N n = true then 0 else 2
def plE (n : Nat) (N : Tab) (m : Nat) (S : Tab) (l : Nat) (v : Nat → Int) : Int := if scE n N m S ≠ 0 then scE n N m S else Co.blE n N m S l v
def plL (n : Nat) (N : Tab) (m : Nat) (S : Tab) (l : Nat) (v : Nat → Int) : Nat := if plE n N m S l v = 0 then n else 0
theorem sc_ck {n m : Nat} {N S : Tab} (h : Co.ck n N m S ≠ 0) : scE n N m S = Co.ck n N m S := if_pos h
theorem sc_2 {n m k : Nat} {N S : Tab} (h : Co.ck n N m S = 0) (hk : k < n) (h2 : (spd (N k 0) && spd (N k 1)) = false) : scE n N m S = 2 := by
  unfold scE; rw [if_neg (by omega), okP_no hk h2]; rfl
theorem sc_0 {n m : Nat} {N S : Tab} (h : Co.ck n N m S = 0) (h2 : okP N n = true) : scE n N m S = 0 := by unfold scE; rw [if_neg (by omega), if_pos h2]
theorem sc_ok {n m : Nat} {N S : Tab} (h : scE n N m S = 0) : Co.ck n N m S = 0 ∧ okP N n = true := by
  unfold scE at h
  split at h
  · omega
  · split at h
    · exact ⟨by omega, by assumption⟩
    · omega
/-- With a wish of the greatest speed at each node nothing is lowered. -/
theorem lw_same {n : Nat} {N : Tab} (h : okP N n = true) (i f : Nat) (hi : i < n) : Co.lwN N (fun _ => 1000) i f = N i f := by
  have := (okP_iff N n).1 h i hi
  unfold Co.lwN
  split
  · rename_i e; subst e
    show min (N i 1) 1000 = N i 1
    omega
  · rfl
section
variable {n m l : Nat} {N S D : Tab} {a b h alt : Int} {Al d : Nat → Int} {v : Nat → Int}
/-- A schedule keeps the windows, the limit and the accelerations. -/
theorem kept (hE : plE n (lmT N Al alt h n) m (stT d a b) n (fun _ => 1000) = 0) (ha : 0 ≤ a) (hb : 0 ≤ b) (hd : ∀ i, i < m → 0 ≤ d i) {i : Nat} (hi : i < n) :
    N i 0 ≤ Co.thi n (Co.lwN (lmT N Al alt h n) (fun _ => 1000)) (stT d a b) i ∧ Co.thi n (Co.lwN (lmT N Al alt h n) (fun _ => 1000)) (stT d a b) i ≤ N i 1 ∧
      (Al i < alt → Co.thi n (Co.lwN (lmT N Al alt h n) (fun _ => 1000)) (stT d a b) i ≤ h) ∧ -1000 ≤ Co.thi n (Co.lwN (lmT N Al alt h n) (fun _ => 1000)) (stT d a b) i ∧ Co.thi n (Co.lwN (lmT N Al alt h n) (fun _ => 1000)) (stT d a b) i ≤ 1000 ∧
      (∀ j, j + 1 = i → (Co.thi n (Co.lwN (lmT N Al alt h n) (fun _ => 1000)) (stT d a b) i - Co.thi n (Co.lwN (lmT N Al alt h n) (fun _ => 1000)) (stT d a b) j) * 6000 ≤ a * d j ∧
        (Co.thi n (Co.lwN (lmT N Al alt h n) (fun _ => 1000)) (stT d a b) j - Co.thi n (Co.lwN (lmT N Al alt h n) (fun _ => 1000)) (stT d a b) i) * 6000 ≤ b * d j) := by
  unfold plE at hE
  split at hE
  · omega
  · rename_i hs
    obtain ⟨hck, hok⟩ := sc_ok (by omega : scE n (lmT N Al alt h n) m (stT d a b) = 0)
    obtain ⟨_, O, _, _, hmt, hle, _, _⟩ := Co.profile hE
    generalize Co.thi n (Co.lwN (lmT N Al alt h n) (fun _ => 1000)) (stT d a b) = V at *
    obtain ⟨_, _, F⟩ := Co.mt_iff.1 hmt
    have hw := F.win i hi
    have hp := (okP_iff _ n).1 hok i hi
    have hv := hle i hi
    have e0 : lmT N Al alt h n i 0 = N i 0 := by unfold lmT; rw [if_neg (by omega)]
    have e1 : lmT N Al alt h n i 1 ≤ N i 1 ∧ (Al i < alt → lmT N Al alt h n i 1 ≤ h) := by
      unfold lmT
      split
      · split <;> omega
      · rename_i c
        exact ⟨Int.le_refl _, fun z => absurd ⟨rfl, hi, z⟩ c⟩
    rw [e0] at hw hp
    refine ⟨by omega, by omega, fun z => by have := e1.2 z; omega, by omega, by omega, fun j hj => ?_⟩
    subst hj
    have hs := F.stp j (by omega)
    have hm := O.hm
    have d0 := hd j (by omega)
    have m1 : 0 ≤ a * d j := Int.mul_nonneg ha d0
    have m2 : 0 ≤ b * d j := Int.mul_nonneg hb d0
    have q1 : stT d a b j 0 * 6000 ≤ a * d j := by unfold stT; rw [if_pos rfl]; omega
    have q2 : stT d a b j 1 * 6000 ≤ b * d j := by unfold stT; rw [if_neg (by omega)]; omega
    omega
end
end Sp
end Go.Proofs.Ytpipjpgcnbpllaa
