/-
  Plain: weighted least squares in two unknowns, exactly; no program in sight.
-/
import Derived.Test.YtcgcocingfhleaaPlain10
namespace Go.Proofs.Ytcgcocingfhleaa
set_option linter.unusedVariables false
set_option linter.unusedSimpArgs false
namespace Lq
/-- A measurement's numbers: source, a, b, z, bound, weight. -/
abbrev Tab := Nat → Nat → Int
def vm (s a b z d g : Int) : Bool := decide (1 ≤ s ∧ s ≤ 8 ∧ -256 ≤ a ∧ a ≤ 256 ∧ -256 ≤ b ∧ b ≤ 256 ∧ (a ≠ 0 ∨ b ≠ 0) ∧ -4294967296 ≤ z ∧ z ≤ 4294967296 ∧ 0 ≤ d ∧ d ≤ 4294967296 ∧ 1 ≤ g ∧ g ≤ 16)
def vr (M : Tab) (i : Nat) : Bool := vm (M i 0) (M i 1) (M i 2) (M i 3) (M i 4) (M i 5)
def okM (M : Tab) : Nat → Bool
  | 0 => true
  | k + 1 => okM M k && vr M k
def ck (n : Nat) (M : Tab) : Int := if 16 < n then 3 else if okM M n = true then 0 else 1
structure V (M : Tab) (i : Nat) : Prop where
  s1 : 1 ≤ M i 0
  s2 : M i 0 ≤ 8
  a1 : -256 ≤ M i 1
  a2 : M i 1 ≤ 256
  b1 : -256 ≤ M i 2
  b2 : M i 2 ≤ 256
  ab : M i 1 ≠ 0 ∨ M i 2 ≠ 0
  z1 : -4294967296 ≤ M i 3
  z2 : M i 3 ≤ 4294967296
  d1 : 0 ≤ M i 4
  d2 : M i 4 ≤ 4294967296
  g1 : 1 ≤ M i 5
  g2 : M i 5 ≤ 16
theorem vr_iff {M : Tab} {i : Nat} : vr M i = true ↔ V M i := by
  unfold vr vm
  rw [decide_eq_true_iff]
  constructor
  · rintro ⟨a, b, c, d, e, f, g, h, i, j, k, l, m⟩; exact ⟨a, b, c, d, e, f, g, h, i, j, k, l, m⟩
  · rintro ⟨a, b, c, d, e, f, g, h, i, j, k, l, m⟩; exact ⟨a, b, c, d, e, f, g, h, i, j, k, l, m⟩
theorem okM_iff (M : Tab) : ∀ n, okM M n = true ↔ ∀ i, i < n → V M i
  | 0 => by simp [okM]
  | k + 1 => by
    rw [okM, Bool.and_eq_true, okM_iff M k, vr_iff]
    constructor
    · rintro ⟨h, h2⟩ i hi
      by_cases e : i = k
      · subst e; exact h2
      · exact h i (by omega)
    · intro h
      exact ⟨fun i hi => h i (by omega), h k (by omega)⟩
structure Ok (n : Nat) (M : Tab) : Prop where
  hn : n ≤ 16
  v : ∀ i, i < n → V M i
theorem ck_ok {n : Nat} {M : Tab} : ck n M = 0 ↔ Ok n M := by
  unfold ck
  constructor
  · intro h
    split at h
    · omega
    · split at h
      · rename_i h1 h2; exact ⟨by omega, (okM_iff M n).1 h2⟩
      · omega
  · intro h
    rw [if_neg (by have := h.hn; omega), if_pos ((okM_iff M n).2 h.v)]
theorem ck_3 {n : Nat} {M : Tab} (h : 16 < n) : ck n M = 3 := if_pos h
theorem ck_1 {n : Nat} {M : Tab} (h : ¬ 16 < n) (k : Nat) (hk : k < n) (hv : vr M k = false) : ck n M = 1 := by
  unfold ck
  rw [if_neg h, if_neg]
  intro q
  have := vr_iff.2 ((okM_iff M n).1 q k hk)
  rw [hv] at this
  cases this
theorem ck_0 {n : Nat} {M : Tab} (h : ¬ 16 < n) (hv : okM M n = true) : ck n M = 0 := by unfold ck; rw [if_neg h, if_pos hv]
theorem ck_cases (n : Nat) (M : Tab) : ck n M = 0 ∨ ck n M = 1 ∨ ck n M = 3 := by
  unfold ck
  split
  · simp
  · split <;> simp
/-- Sums. -/
def sm (f : Nat → Int) : Nat → Int
  | 0 => 0
  | k + 1 => sm f k + f k
theorem sm_congr {f g : Nat → Int} : ∀ {n : Nat}, (∀ i, i < n → f i = g i) → sm f n = sm g n
  | 0, _ => rfl
  | n + 1, h => by rw [sm, sm, sm_congr (n := n) (fun i hi => h i (by omega)), h n (by omega)]
theorem sm_zero {f : Nat → Int} : ∀ {n : Nat}, (∀ i, i < n → f i = 0) → sm f n = 0
  | 0, _ => rfl
  | n + 1, h => by rw [sm, sm_zero (n := n) (fun i hi => h i (by omega)), h n (by omega)]; rfl
theorem sm_add (f g : Nat → Int) : ∀ n, sm (fun i => f i + g i) n = sm f n + sm g n
  | 0 => rfl
  | n + 1 => by rw [sm, sm, sm, sm_add f g n]; omega
theorem sm_mul (c : Int) (f : Nat → Int) : ∀ n, sm (fun i => c * f i) n = c * sm f n
  | 0 => by simp [sm]
  | n + 1 => by rw [sm, sm, sm_mul c f n, Int.mul_add]
theorem sm_nn {f : Nat → Int} : ∀ {n : Nat}, (∀ i, i < n → 0 ≤ f i) → 0 ≤ sm f n
  | 0, _ => by simp [sm]
  | n + 1, h => by rw [sm]; have := sm_nn (f := f) (n := n) (fun i hi => h i (by omega)); have := h n (by omega); omega
theorem sm_bd {f : Nat → Int} {B : Int} : ∀ {n : Nat}, (∀ i, i < n → -B ≤ f i ∧ f i ≤ B) → -(n * B) ≤ sm f n ∧ sm f n ≤ n * B
  | 0, _ => by simp [sm]
  | n + 1, h => by
    rw [sm]
    have := sm_bd (f := f) (n := n) (fun i hi => h i (by omega))
    have := h n (by omega)
    have e : ((n + 1 : Nat) : Int) * B = n * B + B := by rw [Int.natCast_add, Int.add_mul]; simp
    omega
theorem sm_split (f : Nat → Int) (a : Nat) : ∀ b, sm f (a + b) = sm f a + sm (fun i => f (a + i)) b
  | 0 => by simp [sm]
  | b + 1 => by rw [← Nat.add_assoc, sm, sm, sm_split f a b]; omega
theorem sm_zero_all {f : Nat → Int} : ∀ {n : Nat}, (∀ i, i < n → 0 ≤ f i) → sm f n = 0 → ∀ i, i < n → f i = 0
  | 0, _, _, i, hi => by omega
  | n + 1, h, e, i, hi => by
    rw [sm] at e
    have h1 := sm_nn (f := f) (n := n) (fun i hi => h i (by omega))
    have h2 := h n (by omega)
    by_cases q : i = n
    · subst q; omega
    · exact sm_zero_all (n := n) (fun i hi => h i (by omega)) (by omega) i (by omega)
/-- The coefficients, measurement by measurement, as the code multiplies them. -/
def fxx (M : Tab) (i : Nat) : Int := M i 5 * M i 1 * M i 1
def fxy (M : Tab) (i : Nat) : Int := M i 5 * M i 1 * M i 2
def fyy (M : Tab) (i : Nat) : Int := M i 5 * M i 2 * M i 2
def fxz (M : Tab) (i : Nat) : Int := M i 5 * M i 1 * M i 3
def fyz (M : Tab) (i : Nat) : Int := M i 5 * M i 2 * M i 3
def fzz (M : Tab) (i : Nat) : Int := M i 3 * M i 3 * M i 5
def xx (n : Nat) (M : Tab) : Int := sm (fxx M) n
def xy (n : Nat) (M : Tab) : Int := sm (fxy M) n
def yy (n : Nat) (M : Tab) : Int := sm (fyy M) n
def xz (n : Nat) (M : Tab) : Int := sm (fxz M) n
def yz (n : Nat) (M : Tab) : Int := sm (fyz M) n
def zz (n : Nat) (M : Tab) : Int := sm (fzz M) n
def det (n : Nat) (M : Tab) : Int := xx n M * yy n M - xy n M * xy n M
def sx (n : Nat) (M : Tab) : Int := yy n M * xz n M - xy n M * yz n M
def sy (n : Nat) (M : Tab) : Int := xx n M * yz n M - xy n M * xz n M
theorem mul_bd {a b A B : Int} (ha : -A ≤ a ∧ a ≤ A) (hb : -B ≤ b ∧ b ≤ B) : -(A * B) ≤ a * b ∧ a * b ≤ A * B := by
  have hA : 0 ≤ A := by omega
  have hB : 0 ≤ B := by omega
  have h1 : a * b ≤ A * B := by
    have p := Int.mul_nonneg (show 0 ≤ A - a by omega) (show 0 ≤ B + b by omega)
    have q := Int.mul_nonneg (show 0 ≤ A + a by omega) (show 0 ≤ B - b by omega)
    grind
  have h2 : -(A * B) ≤ a * b := by
    have p := Int.mul_nonneg (show 0 ≤ A - a by omega) (show 0 ≤ B - b by omega)
    have q := Int.mul_nonneg (show 0 ≤ A + a by omega) (show 0 ≤ B + b by omega)
    grind
  exact ⟨h2, h1⟩
theorem V.fb {M : Tab} {i : Nat} (h : V M i) : (-4096 ≤ M i 5 * M i 1 ∧ M i 5 * M i 1 ≤ 4096) ∧ (-4096 ≤ M i 5 * M i 2 ∧ M i 5 * M i 2 ≤ 4096) ∧ (-1048576 ≤ fxx M i ∧ fxx M i ≤ 1048576) ∧ (-1048576 ≤ fxy M i ∧ fxy M i ≤ 1048576) ∧ (-1048576 ≤ fyy M i ∧ fyy M i ≤ 1048576) ∧
    (-17592186044416 ≤ fxz M i ∧ fxz M i ≤ 17592186044416) ∧ (-17592186044416 ≤ fyz M i ∧ fyz M i ≤ 17592186044416) := by
  have ga := mul_bd (a := M i 5) (b := M i 1) (A := 16) (B := 256) (by have := h.g1; have := h.g2; omega) ⟨h.a1, h.a2⟩
  have gb := mul_bd (a := M i 5) (b := M i 2) (A := 16) (B := 256) (by have := h.g1; have := h.g2; omega) ⟨h.b1, h.b2⟩
  have ha : -256 ≤ M i 1 ∧ M i 1 ≤ 256 := ⟨h.a1, h.a2⟩
  have hb : -256 ≤ M i 2 ∧ M i 2 ≤ 256 := ⟨h.b1, h.b2⟩
  have hz : -4294967296 ≤ M i 3 ∧ M i 3 ≤ 4294967296 := ⟨h.z1, h.z2⟩
  have x1 := mul_bd ga ha
  have x2 := mul_bd ga hb
  have x3 := mul_bd gb hb
  have x4 := mul_bd ga hz
  have x5 := mul_bd gb hz
  unfold fxx fxy fyy fxz fyz
  omega
/-- Every coefficient's bound, up to each measurement. -/
theorem Ok.bd {n : Nat} {M : Tab} (h : Ok n M) : (∀ k, k ≤ n → -16777216 ≤ xx k M ∧ xx k M ≤ 16777216) ∧ (∀ k, k ≤ n → -16777216 ≤ xy k M ∧ xy k M ≤ 16777216) ∧ (∀ k, k ≤ n → -16777216 ≤ yy k M ∧ yy k M ≤ 16777216) ∧
    (∀ k, k ≤ n → -281474976710656 ≤ xz k M ∧ xz k M ≤ 281474976710656) ∧ (∀ k, k ≤ n → -281474976710656 ≤ yz k M ∧ yz k M ≤ 281474976710656) := by
  have hn := h.hn
  refine ⟨fun k hk => ?_, fun k hk => ?_, fun k hk => ?_, fun k hk => ?_, fun k hk => ?_⟩
  · have := sm_bd (f := fxx M) (B := 1048576) (n := k) (fun i hi => ((h.v i (by omega)).fb).2.2.1)
    unfold xx; omega
  · have := sm_bd (f := fxy M) (B := 1048576) (n := k) (fun i hi => ((h.v i (by omega)).fb).2.2.2.1)
    unfold xy; omega
  · have := sm_bd (f := fyy M) (B := 1048576) (n := k) (fun i hi => ((h.v i (by omega)).fb).2.2.2.2.1)
    unfold yy; omega
  · have := sm_bd (f := fxz M) (B := 17592186044416) (n := k) (fun i hi => ((h.v i (by omega)).fb).2.2.2.2.2.1)
    unfold xz; omega
  · have := sm_bd (f := fyz M) (B := 17592186044416) (n := k) (fun i hi => ((h.v i (by omega)).fb).2.2.2.2.2.2)
    unfold yz; omega
theorem sq_nn (a : Int) : 0 ≤ a * a := by
  rcases Int.le_total 0 a with h | h
  · exact Int.mul_nonneg h h
  · have := Int.mul_nonneg (show 0 ≤ -a by omega) (show 0 ≤ -a by omega)
    rwa [Int.neg_mul_neg] at this
/-- The weighted sum of squares of a combination, as a form. -/
def qf (n : Nat) (M : Tab) (u v t : Int) : Int := sm (fun i => M i 5 * ((M i 1 * u + M i 2 * v - M i 3 * t) * (M i 1 * u + M i 2 * v - M i 3 * t))) n
theorem qf_form (M : Tab) (u v t : Int) : ∀ n, qf n M u v t = xx n M * u * u + 2 * xy n M * u * v + yy n M * v * v - 2 * xz n M * u * t - 2 * yz n M * v * t + zz n M * t * t
  | 0 => by simp [qf, xx, xy, yy, xz, yz, zz, sm]
  | n + 1 => by
    have ih := qf_form M u v t n
    unfold qf xx xy yy xz yz zz at ih ⊢
    simp only [sm]
    rw [ih]
    unfold fxx fxy fyy fxz fyz fzz
    grind
theorem qf_nn {n : Nat} {M : Tab} (h : Ok n M) (u v t : Int) : 0 ≤ qf n M u v t :=
  sm_nn fun i hi => Int.mul_nonneg (by have := (h.v i hi).g1; omega) (sq_nn _)
theorem yy_nn {n : Nat} {M : Tab} (h : Ok n M) : 0 ≤ yy n M := by
  have := qf_nn h 0 1 0
  rw [qf_form] at this
  grind
theorem det_nn {n : Nat} {M : Tab} (h : Ok n M) : 0 ≤ det n M := by
  have h1 := yy_nn h
  rcases Int.lt_or_eq_of_le h1 with h2 | h2
  · have h3 := qf_nn h (yy n M) (-xy n M) 0
    rw [qf_form] at h3
    have h4 : 0 ≤ yy n M * det n M := by unfold det; grind
    exact Int.nonneg_of_mul_nonneg_right h4 h2
  · have h3 : ∀ i, i < n → fyy M i = 0 := sm_zero_all (fun i hi => by
      unfold fyy
      rw [Int.mul_assoc]
      exact Int.mul_nonneg (by have := (h.v i hi).g1; omega) (sq_nn _)) h2.symm
    have h4 : xy n M = 0 := sm_zero fun i hi => by
      have := h3 i hi
      unfold fyy at this
      have hg := (h.v i hi).g1
      have hb : M i 2 = 0 := by
        rcases Int.mul_eq_zero.1 this with q | q
        · rcases Int.mul_eq_zero.1 q with q | q
          · omega
          · exact q
        · exact q
      unfold fxy
      rw [hb, Int.mul_zero]
    unfold det
    rw [← h2, h4]; simp
theorem eq1 (n : Nat) (M : Tab) : sx n M * xx n M + sy n M * xy n M = xz n M * det n M := by unfold sx sy det; grind
theorem eq2 (n : Nat) (M : Tab) : sx n M * xy n M + sy n M * yy n M = yz n M * det n M := by unfold sx sy det; grind
/-- The least residual's numerator. -/
def num (n : Nat) (M : Tab) : Int := zz n M * det n M - sx n M * xz n M - sy n M * yz n M
theorem best_form (n : Nat) (M : Tab) (u v t : Int) : qf n M (t * sx n M - det n M * u) (t * sy n M - det n M * v) 0 = det n M * (det n M * qf n M u v t - num n M * t * t) := by
  rw [qf_form, qf_form]
  have e1 := eq1 n M
  have e2 := eq2 n M
  unfold num
  generalize det n M = D at *
  generalize sx n M = X at *
  generalize sy n M = Y at *
  grind
theorem best {n : Nat} {M : Tab} (h : Ok n M) (hd : 0 < det n M) (u v t : Int) : num n M * t * t ≤ qf n M u v t * det n M := by
  have h1 := qf_nn h (t * sx n M - det n M * u) (t * sy n M - det n M * v) 0
  rw [best_form] at h1
  have h2 := Int.nonneg_of_mul_nonneg_right h1 hd
  rw [Int.mul_comm (qf n M u v t)]
  omega
theorem num_form (n : Nat) (M : Tab) : qf n M (sx n M) (sy n M) (det n M) = det n M * num n M := by
  rw [qf_form]
  have e1 := eq1 n M
  have e2 := eq2 n M
  unfold num
  generalize det n M = D at *
  generalize sx n M = X at *
  generalize sy n M = Y at *
  grind
theorem num_nn {n : Nat} {M : Tab} (h : Ok n M) (hd : 0 < det n M) : 0 ≤ num n M := by
  have h1 := qf_nn h (sx n M) (sy n M) (det n M)
  rw [num_form] at h1
  exact Int.nonneg_of_mul_nonneg_right h1 hd
/-! Bounds -/
theorem Ok.sxb {n : Nat} {M : Tab} (h : Ok n M) : (-9444732965739290427392 ≤ sx n M ∧ sx n M ≤ 9444732965739290427392) ∧ (-9444732965739290427392 ≤ sy n M ∧ sy n M ≤ 9444732965739290427392) ∧ (-562949953421312 ≤ det n M ∧ det n M ≤ 562949953421312) := by
  obtain ⟨a, b, c, d, e⟩ := h.bd
  have a := a n (Nat.le_refl _)
  have b := b n (Nat.le_refl _)
  have c := c n (Nat.le_refl _)
  have d := d n (Nat.le_refl _)
  have e := e n (Nat.le_refl _)
  have q1 := mul_bd c d
  have q2 := mul_bd b e
  have q3 := mul_bd a e
  have q4 := mul_bd b d
  have q5 := mul_bd a c
  have q6 := mul_bd b b
  unfold sx sy det
  omega
/-! Rounding to the nearest number -/
theorem near_pos {x d : Int} (hd : 0 < d) : Wi.dv x d 0 = (2 * x + d) / (2 * d) := by
  have a2 : Wi.ab d = d := Wi.ab_pos (by omega)
  have hn : Wi.ngq x d = Wi.ngb x := by
    unfold Wi.ngq
    rw [Wi.ngb_pos (v := d) (by omega)]
    cases Wi.ngb x <;> rfl
  unfold Wi.dv Wi.qs Wi.awb
  rw [if_pos rfl, a2, hn]
  rcases Int.lt_or_le x 0 with hx | hx
  · rw [Wi.ab_neg hx, Wi.ngb_neg hx]
    have e := Int.mul_ediv_add_emod (-x) d
    have m0 := Int.emod_nonneg (-x) (by omega : d ≠ 0)
    have m1 := Int.emod_lt_of_pos (-x) hd
    generalize (-x) / d = q at *
    generalize (-x) % d = r at *
    simp only [Bool.not_true, Bool.and_false, Bool.or_false, decide_eq_true_eq, Wi.sg_t]
    have hq : x = -(d * q) - r := by omega
    symm
    split
    · have : 2 * x + d = (d - 2 * r + 2 * d) + 2 * d * (-(q + 1)) := by rw [hq]; grind
      rw [this, Int.add_mul_ediv_left _ _ (by omega), Int.ediv_eq_zero_of_lt (by omega) (by omega)]; omega
    · have : 2 * x + d = (d - 2 * r) + 2 * d * (-q) := by rw [hq]; grind
      rw [this, Int.add_mul_ediv_left _ _ (by omega), Int.ediv_eq_zero_of_lt (by omega) (by omega)]; omega
  · rw [Wi.ab_pos hx, Wi.ngb_pos hx]
    have e := Int.mul_ediv_add_emod x d
    have m0 := Int.emod_nonneg x (by omega : d ≠ 0)
    have m1 := Int.emod_lt_of_pos x hd
    generalize x / d = q at *
    generalize x % d = r at *
    simp only [Bool.not_false, Bool.and_true, Bool.or_eq_true, decide_eq_true_eq, Wi.sg_f]
    symm
    split
    · have : 2 * x + d = (2 * r + d - 2 * d) + 2 * d * (q + 1) := by rw [← e]; grind
      rw [this, Int.add_mul_ediv_left _ _ (by omega), Int.ediv_eq_zero_of_lt (by omega) (by omega)]; omega
    · have : 2 * x + d = (2 * r + d) + 2 * d * q := by rw [← e]; grind
      rw [this, Int.add_mul_ediv_left _ _ (by omega), Int.ediv_eq_zero_of_lt (by omega) (by omega)]; omega
def nr (x d : Int) : Int := (2 * x + d) / (2 * d)
theorem nr_shift {d : Int} (hd : 0 < d) (x t : Int) : nr (x + d * t) d = nr x d + t := by
  unfold nr
  have : 2 * (x + d * t) + d = 2 * x + d + 2 * d * t := by grind
  rw [this, Int.add_mul_ediv_left _ _ (by omega)]
theorem nr_mul {d : Int} (hd : 0 < d) (t : Int) : nr (d * t) d = t := by
  have := nr_shift hd 0 t
  rw [Int.zero_add] at this
  rw [this]
  unfold nr
  rw [Int.ediv_eq_zero_of_lt (by omega) (by omega)]; omega
theorem nr_bd {x d B : Int} (hd : 0 < d) (hB : 0 ≤ B) (h : -B ≤ x ∧ x ≤ B) : -B - 1 ≤ nr x d ∧ nr x d ≤ B + 1 := by
  unfold nr
  have hd2 : B * 1 ≤ B * d := Int.mul_le_mul_of_nonneg_left (by omega) hB
  constructor
  · rw [Int.le_ediv_iff_mul_le (by omega)]
    grind
  · have : (2 * x + d) / (2 * d) < B + 1 + 1 := by
      rw [Int.ediv_lt_iff_lt_mul (by omega)]
      grind
    omega
end Lq
end Go.Proofs.Ytcgcocingfhleaa
