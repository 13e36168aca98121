/-
  Plain: solutions, their errors, shifted, turned round, exact; no program in sight.
-/
import Derived.Test.YtcgcocingfhleaaQPlain
namespace Go.Proofs.Ytcgcocingfhleaa
set_option linter.unusedVariables false
set_option linter.unusedSimpArgs false
namespace Lq
def pv (x y : Int) : Bool := decide (-2000000 ≤ x ∧ x ≤ 2000000 ∧ -2000000 ≤ y ∧ y ≤ 2000000)
theorem pv_iff {x y : Int} : pv x y = true ↔ -2000000 ≤ x ∧ x ≤ 2000000 ∧ -2000000 ≤ y ∧ y ≤ 2000000 := by unfold pv; exact decide_eq_true_iff
/-- The error without the point, and with it. -/
def ee (n : Nat) (M : Tab) : Int := if ck n M ≠ 0 then ck n M else if det n M = 0 then 14 else 0
def er (n : Nat) (M : Tab) : Int := if ee n M ≠ 0 then ee n M else if pv (nr (sx n M) (det n M)) (nr (sy n M) (det n M)) = true then 0 else 2
structure Ex (n : Nat) (M : Tab) : Prop where
  ok : Ok n M
  d : 0 < det n M
structure So (n : Nat) (M : Tab) : Prop where
  ok : Ok n M
  d : 0 < det n M
  p : pv (nr (sx n M) (det n M)) (nr (sy n M) (det n M)) = true
theorem ee_ok {n : Nat} {M : Tab} : ee n M = 0 ↔ Ex n M := by
  unfold ee
  constructor
  · intro h
    split at h
    · omega
    · split at h
      · omega
      · rename_i h1 h2
        have O := ck_ok.1 (show ck n M = 0 by omega)
        exact ⟨O, by have := det_nn O; omega⟩
  · intro h
    rw [if_neg (by rw [ck_ok.2 h.ok]; omega), if_neg (by have := h.d; omega)]
theorem er_ok {n : Nat} {M : Tab} : er n M = 0 ↔ So n M := by
  unfold er
  constructor
  · intro h
    split at h
    · omega
    · split at h
      · rename_i h1 h2
        have q := ee_ok.1 (show ee n M = 0 by omega)
        exact ⟨q.ok, q.d, h2⟩
      · omega
  · intro h
    rw [if_neg (by rw [ee_ok.2 ⟨h.ok, h.d⟩]; omega), if_pos h.p]
theorem ee_ck {n : Nat} {M : Tab} (h : ck n M ≠ 0) : ee n M = ck n M := if_pos h
theorem ee_14 {n : Nat} {M : Tab} (h : ck n M = 0) (h2 : det n M = 0) : ee n M = 14 := by unfold ee; rw [if_neg (by omega), if_pos h2]
theorem er_ee {n : Nat} {M : Tab} (h : ee n M ≠ 0) : er n M = ee n M := if_pos h
theorem er_2 {n : Nat} {M : Tab} (h : ee n M = 0) (h2 : pv (nr (sx n M) (det n M)) (nr (sy n M) (det n M)) = false) : er n M = 2 := by
  unfold er; rw [if_neg (by omega), h2]; rfl
theorem er_cases (n : Nat) (M : Tab) : er n M = 0 ∨ er n M = 1 ∨ er n M = 2 ∨ er n M = 3 ∨ er n M = 14 := by
  have := ck_cases n M
  have h2 : ee n M = ck n M ∨ ee n M = 14 ∨ ee n M = 0 := by
    unfold ee
    split
    · exact .inl rfl
    · split
      · exact .inr (.inl rfl)
      · exact .inr (.inr rfl)
  unfold er
  split
  · omega
  · split
    · exact .inl rfl
    · exact .inr (.inr (.inl rfl))
/-- What a solution's error says of the normal equations'. -/
theorem er_rel (n : Nat) (M : Tab) (h : er n M ≠ 0) : (ck n M ≠ 0 ∧ er n M = ck n M) ∨ (ck n M = 0 ∧ (er n M = 14 ∨ er n M = 2)) := by
  by_cases q : ck n M = 0
  · right
    refine ⟨q, ?_⟩
    have h2 : ee n M = 14 ∨ ee n M = 0 := by
      unfold ee
      rw [if_neg (show ¬ ck n M ≠ 0 by omega)]
      split
      · exact .inl rfl
      · exact .inr rfl
    unfold er at *
    split
    · omega
    · split
      · rename_i h3 h4; rw [if_neg h3, if_pos h4] at h; exact absurd rfl h
      · exact .inr rfl
  · left
    refine ⟨q, ?_⟩
    have h2 : ee n M = ck n M := ee_ck q
    rw [er_ee (by rw [h2]; exact q), h2]
/-! The point of a solution, as the code computes it: rounded two-word numbers, then 64 bits -/
theorem So.bd {n : Nat} {M : Tab} (h : So n M) : (-2000000 ≤ nr (sx n M) (det n M) ∧ nr (sx n M) (det n M) ≤ 2000000) ∧ (-2000000 ≤ nr (sy n M) (det n M) ∧ nr (sy n M) (det n M) ≤ 2000000) := by
  have := pv_iff.1 h.p
  omega
theorem Ex.nb {n : Nat} {M : Tab} (h : Ex n M) : (-9444732965739290427393 ≤ nr (sx n M) (det n M) ∧ nr (sx n M) (det n M) ≤ 9444732965739290427393) ∧ (-9444732965739290427393 ≤ nr (sy n M) (det n M) ∧ nr (sy n M) (det n M) ≤ 9444732965739290427393) := by
  obtain ⟨a, b, c⟩ := h.ok.sxb
  have p := nr_bd (x := sx n M) (B := 9444732965739290427392) h.d (by omega) a
  have q := nr_bd (x := sy n M) (B := 9444732965739290427392) h.d (by omega) b
  omega
/-! A tight bound of the determinant -/
theorem xx_nn {n : Nat} {M : Tab} (h : Ok n M) : 0 ≤ xx n M := by
  have := qf_nn h 1 0 0
  rw [qf_form] at this
  grind
theorem det_le {n : Nat} {M : Tab} (h : Ok n M) : det n M ≤ 281474976710656 := by
  obtain ⟨a, b, c, d, e⟩ := h.bd
  have a := a n (Nat.le_refl _)
  have c := c n (Nat.le_refl _)
  have q5 := mul_bd a c
  have := sq_nn (xy n M)
  unfold det
  omega
theorem zz_bd {n : Nat} {M : Tab} (h : Ok n M) : ∀ k, k ≤ n → 0 ≤ zz k M ∧ zz k M ≤ 4722366482869645213696 := by
  intro k hk
  have hn := h.hn
  have hb : ∀ i, i < k → -295147905179352825856 ≤ fzz M i ∧ fzz M i ≤ 295147905179352825856 := by
    intro i hi
    have hv := h.v i (by omega)
    have hz := mul_bd (a := M i 3) (b := M i 3) ⟨hv.z1, hv.z2⟩ ⟨hv.z1, hv.z2⟩
    have := mul_bd (b := M i 5) (B := 16) hz (by have := hv.g1; have := hv.g2; omega)
    unfold fzz; omega
  have := sm_bd hb
  refine ⟨sm_nn fun i hi => ?_, by unfold zz; omega⟩
  have hv := h.v i (by omega)
  unfold fzz
  exact Int.mul_nonneg (sq_nn _) (by have := hv.g1; omega)
theorem num_bd {n : Nat} {M : Tab} (h : Ok n M) : (-1329227995784915872903807060280344576 ≤ zz n M * det n M ∧ zz n M * det n M ≤ 2658455991569831745807614120560689152) ∧ (-2658455991569831745807614120560689152 ≤ sx n M * xz n M ∧ sx n M * xz n M ≤ 2658455991569831745807614120560689152) ∧
    (-2658455991569831745807614120560689152 ≤ sy n M * yz n M ∧ sy n M * yz n M ≤ 2658455991569831745807614120560689152) := by
  obtain ⟨a, b, c, d, e⟩ := h.bd
  have d := d n (Nat.le_refl _)
  have e := e n (Nat.le_refl _)
  obtain ⟨p, q, r⟩ := h.sxb
  have z := zz_bd h n (Nat.le_refl _)
  have h1 := mul_bd (a := zz n M) (A := 4722366482869645213696) (by omega) r
  have h2 := mul_bd p d
  have h3 := mul_bd q e
  have h4 := Int.mul_nonneg z.1 (det_nn h)
  refine ⟨by omega, by omega, by omega⟩
/-! Residuals -/
def mi (M : Tab) (i : Nat) (u v t : Int) : Int := M i 1 * u + M i 2 * v - M i 3 * t
theorem qf_succ (n : Nat) (M : Tab) (u v t : Int) : qf (n + 1) M u v t = qf n M u v t + mi M n u v t * mi M n u v t * M n 5 := by
  unfold qf mi
  rw [sm]
  congr 1
  exact Int.mul_comm _ _
theorem qf_0 (M : Tab) (u v t : Int) : qf 0 M u v t = 0 := rfl
theorem mi_bd {M : Tab} {i : Nat} (h : V M i) {u v t U T : Int} (hu : -U ≤ u ∧ u ≤ U) (hv : -U ≤ v ∧ v ≤ U) (ht : -T ≤ t ∧ t ≤ T) : -(512 * U + 4294967296 * T) ≤ mi M i u v t ∧ mi M i u v t ≤ 512 * U + 4294967296 * T := by
  have h1 := mul_bd (a := M i 1) (A := 256) ⟨h.a1, h.a2⟩ hu
  have h2 := mul_bd (a := M i 2) (A := 256) ⟨h.b1, h.b2⟩ hv
  have h3 := mul_bd (a := M i 3) (A := 4294967296) ⟨h.z1, h.z2⟩ ht
  unfold mi
  omega
/-! Shifted measurements -/
def shf (M : Tab) (x y : Int) : Tab := fun i j => if j = 3 then M i 3 + (M i 1 * x + M i 2 * y) else M i j
theorem shf_xx (M : Tab) (x y : Int) (n : Nat) : xx n (shf M x y) = xx n M := rfl
theorem shf_xy (M : Tab) (x y : Int) (n : Nat) : xy n (shf M x y) = xy n M := rfl
theorem shf_yy (M : Tab) (x y : Int) (n : Nat) : yy n (shf M x y) = yy n M := rfl
theorem shf_det (M : Tab) (x y : Int) (n : Nat) : det n (shf M x y) = det n M := rfl
theorem shf_xz (M : Tab) (x y : Int) : ∀ n, xz n (shf M x y) = xz n M + (xx n M * x + xy n M * y)
  | 0 => by simp [xz, xx, xy, sm]
  | n + 1 => by
    have ih := shf_xz M x y n
    unfold xz xx xy at ih ⊢
    rw [sm, sm, sm, sm, ih]
    unfold fxz fxx fxy shf
    simp only [if_pos rfl, if_neg (show ¬ (5 : Nat) = 3 by omega), if_neg (show ¬ (1 : Nat) = 3 by omega)]
    grind
theorem shf_yz (M : Tab) (x y : Int) : ∀ n, yz n (shf M x y) = yz n M + (xy n M * x + yy n M * y)
  | 0 => by simp [yz, yy, xy, sm]
  | n + 1 => by
    have ih := shf_yz M x y n
    unfold yz yy xy at ih ⊢
    rw [sm, sm, sm, sm, ih]
    unfold fyz fyy fxy shf
    simp only [if_pos rfl, if_neg (show ¬ (5 : Nat) = 3 by omega), if_neg (show ¬ (2 : Nat) = 3 by omega)]
    grind
theorem shf_sx (M : Tab) (x y : Int) (n : Nat) : sx n (shf M x y) = sx n M + det n M * x := by
  unfold sx
  rw [shf_xz, shf_yz, shf_yy, shf_xy]
  unfold det
  grind
theorem shf_sy (M : Tab) (x y : Int) (n : Nat) : sy n (shf M x y) = sy n M + det n M * y := by
  unfold sy
  rw [shf_xz, shf_yz, shf_xx, shf_xy]
  unfold det
  grind
theorem shift {n : Nat} {M : Tab} {x y : Int} (h : So n M) : er n (shf M x y) = 1 ∨ er n (shf M x y) = 2 ∨
    (er n (shf M x y) = 0 ∧ nr (sx n (shf M x y)) (det n (shf M x y)) = nr (sx n M) (det n M) + x ∧ nr (sy n (shf M x y)) (det n (shf M x y)) = nr (sy n M) (det n M) + y) := by
  have hn := h.ok.hn
  have hd := h.d
  rcases er_cases n (shf M x y) with q | q | q | q | q
  · right; right
    refine ⟨q, ?_, ?_⟩
    · rw [shf_sx, shf_det, nr_shift hd]
    · rw [shf_sy, shf_det, nr_shift hd]
  · exact .inl q
  · exact .inr (.inl q)
  · exfalso
    rcases er_rel n (shf M x y) (by omega) with ⟨q1, q2⟩ | ⟨q1, q2⟩
    · rw [q] at q2
      unfold ck at q2
      rw [if_neg (by omega)] at q2
      split at q2 <;> omega
    · omega
  · exfalso
    rcases er_rel n (shf M x y) (by omega) with ⟨q1, q2⟩ | ⟨q1, q2⟩
    · have := ck_cases n (shf M x y); omega
    · unfold er ee at q
      rw [if_neg (show ¬ ck n (shf M x y) ≠ 0 by omega), shf_det, if_neg (show ¬ det n M = 0 by omega), if_neg (by omega)] at q
      split at q <;> omega
/-! Measurements that hold exactly -/
theorem exact_sx {n : Nat} {M : Tab} {x y : Int} (h : ∀ i, i < n → M i 3 = M i 1 * x + M i 2 * y) : xz n M = xx n M * x + xy n M * y ∧ yz n M = xy n M * x + yy n M * y := by
  induction n with
  | zero => simp [xz, yz, xx, xy, yy, sm]
  | succ n ih =>
    obtain ⟨a, b⟩ := ih fun i hi => h i (by omega)
    have e := h n (by omega)
    unfold xz xx xy at a
    unfold yz xy yy at b
    constructor
    · unfold xz xx xy
      simp only [sm]
      rw [a]
      unfold fxz fxx fxy
      rw [e]
      grind
    · unfold yz xy yy
      simp only [sm]
      rw [b]
      unfold fyz fxy fyy
      rw [e]
      grind
theorem exact_pt {n : Nat} {M : Tab} {x y : Int} (hd : 0 < det n M) (h : ∀ i, i < n → M i 3 = M i 1 * x + M i 2 * y) : nr (sx n M) (det n M) = x ∧ nr (sy n M) (det n M) = y := by
  obtain ⟨a, b⟩ := exact_sx h
  have e1 : sx n M = det n M * x := by unfold sx det; rw [a, b]; grind
  have e2 : sy n M = det n M * y := by unfold sy det; rw [a, b]; grind
  rw [e1, e2, nr_mul hd, nr_mul hd]
  exact ⟨rfl, rfl⟩
theorem exact_qf {n : Nat} {M : Tab} {x y : Int} (h : ∀ i, i < n → M i 3 = M i 1 * x + M i 2 * y) : qf n M x y 1 = 0 :=
  sm_zero fun i hi => by rw [h i hi]; grind
theorem exact_num {n : Nat} {M : Tab} {x y : Int} (h : ∀ i, i < n → M i 3 = M i 1 * x + M i 2 * y) : num n M = 0 := by
  obtain ⟨a, b⟩ := exact_sx h
  have hz := exact_qf h
  rw [qf_form] at hz
  have e1 : sx n M = det n M * x := by unfold sx det; rw [a, b]; grind
  have e2 : sy n M = det n M * y := by unfold sy det; rw [a, b]; grind
  unfold num
  rw [e1, e2]
  have : zz n M = xz n M * x + yz n M * y := by rw [a, b] at hz ⊢; grind
  rw [this]; grind
theorem exact {n : Nat} {M : Tab} {x y : Int} (hp : pv x y = true) (h : ∀ i, i < n → M i 3 = M i 1 * x + M i 2 * y) : er n M ≠ 2 := by
  intro q
  rcases er_rel n M (by omega) with ⟨q1, q2⟩ | ⟨q1, q2⟩
  · have := ck_cases n M; omega
  · have O := ck_ok.1 q1
    have hd : det n M ≠ 0 := by
      intro z
      rw [er_ee (by rw [ee_14 q1 z]; omega), ee_14 q1 z] at q
      omega
    have hd2 : 0 < det n M := by have := det_nn O; omega
    have hso : So n M := ⟨O, hd2, by rw [(exact_pt hd2 h).1, (exact_pt hd2 h).2]; exact hp⟩
    rw [er_ok.2 hso] at q
    omega
/-! In another order -/
theorem sm_rev (f : Nat → Int) : ∀ n, sm (fun i => f (n - 1 - i)) n = sm f n
  | 0 => rfl
  | n + 1 => by
    have h1 := sm_split (fun i => f (n + 1 - 1 - i)) 1 n
    rw [show sm (fun i => f (n + 1 - 1 - i)) (1 + n) = sm (fun i => f (n + 1 - 1 - i)) (n + 1) from by rw [Nat.add_comm 1 n]] at h1
    rw [h1]
    have h2 : sm (fun i => f (n + 1 - 1 - (1 + i))) n = sm f n := by
      rw [← sm_rev f n]
      exact sm_congr fun i hi => by congr 1; omega
    rw [h2]
    simp only [sm]
    rw [show n + 1 - 1 - 0 = n by omega]; omega
theorem sm_rot (f : Nat → Int) {n r : Nat} (hr : r ≤ n) : sm (fun i => if i < n - r then f (r + i) else f (i - (n - r))) n = sm f n := by
  obtain ⟨d, rfl⟩ : ∃ d, n = r + d := ⟨n - r, by omega⟩
  rw [show r + d - r = d by omega]
  have h1 := sm_split (fun i => if i < d then f (r + i) else f (i - d)) d r
  rw [Nat.add_comm d r] at h1
  rw [h1, sm_split f r d]
  have h2 : sm (fun i => if i < d then f (r + i) else f (i - d)) d = sm (fun i => f (r + i)) d := sm_congr fun i hi => by rw [if_pos hi]
  have h3 : sm (fun i => if d + i < d then f (r + (d + i)) else f (d + i - d)) r = sm f r := sm_congr fun i hi => by rw [if_neg (by omega)]; congr 1; omega
  rw [h2, h3]; omega
/-- The row that stands at place i of the turned list. -/
def tn (n r i : Nat) : Nat := if i < n - r then n - 1 - (r + i) else n - 1 - (i - (n - r))
def trn (n r : Nat) (M : Tab) : Tab := fun i j => M (tn n r i) j
theorem sm_trn (f : Nat → Int) {n r : Nat} (hr : r ≤ n) : sm (fun i => f (tn n r i)) n = sm f n := by
  rw [← sm_rev f n, ← sm_rot (fun i => f (n - 1 - i)) hr]
  exact sm_congr fun i hi => by unfold tn; split <;> rfl
theorem tn_lt {n r i : Nat} (hi : i < n) : tn n r i < n := by unfold tn; split <;> omega
theorem tn_ex {n r j : Nat} (hr : r ≤ n) (hj : j < n) : ∃ i, i < n ∧ tn n r i = j := by
  by_cases h : n - 1 - j < r
  · exact ⟨n - 1 - j + (n - r), by omega, by unfold tn; rw [if_neg (by omega)]; omega⟩
  · exact ⟨n - 1 - j - r, by omega, by unfold tn; rw [if_pos (by omega)]; omega⟩
theorem trn_ck {n r : Nat} {M : Tab} (hr : r ≤ n) : ck n (trn n r M) = ck n M := by
  have : okM (trn n r M) n = okM M n := by
    rw [Bool.eq_iff_iff, okM_iff, okM_iff]
    constructor
    · intro h j hj
      obtain ⟨i, hi, e⟩ := tn_ex hr hj
      have := h i hi
      subst e
      exact ⟨this.s1, this.s2, this.a1, this.a2, this.b1, this.b2, this.ab, this.z1, this.z2, this.d1, this.d2, this.g1, this.g2⟩
    · intro h i hi
      have := h _ (tn_lt (r := r) hi)
      exact ⟨this.s1, this.s2, this.a1, this.a2, this.b1, this.b2, this.ab, this.z1, this.z2, this.d1, this.d2, this.g1, this.g2⟩
  unfold ck
  rw [this]
theorem trn_sums {n r : Nat} {M : Tab} (hr : r ≤ n) : xx n (trn n r M) = xx n M ∧ xy n (trn n r M) = xy n M ∧ yy n (trn n r M) = yy n M ∧ xz n (trn n r M) = xz n M ∧ yz n (trn n r M) = yz n M :=
  ⟨sm_trn (fxx M) hr, sm_trn (fxy M) hr, sm_trn (fyy M) hr, sm_trn (fxz M) hr, sm_trn (fyz M) hr⟩
theorem trn_all {n r : Nat} {M : Tab} (hr : r ≤ n) : er n (trn n r M) = er n M ∧ sx n (trn n r M) = sx n M ∧ sy n (trn n r M) = sy n M ∧ det n (trn n r M) = det n M := by
  obtain ⟨a, b, c, d, e⟩ := trn_sums (M := M) hr
  have h1 : sx n (trn n r M) = sx n M := by unfold sx; rw [b, c, d, e]
  have h2 : sy n (trn n r M) = sy n M := by unfold sy; rw [a, b, d, e]
  have h3 : det n (trn n r M) = det n M := by unfold det; rw [a, b, c]
  refine ⟨?_, h1, h2, h3⟩
  unfold er ee
  rw [trn_ck hr, h1, h2, h3]
/-! The least residual at points with a denominator -/
theorem top_bd {n : Nat} {M : Tab} (h : Ok n M) {u v t : Int} (hu : -16000000 ≤ u ∧ u ≤ 16000000) (hv : -16000000 ≤ v ∧ v ≤ 16000000) (ht : 1 ≤ t ∧ t ≤ 8) : ∀ k, k ≤ n → 0 ≤ qf k M u v t ∧ qf k M u v t ≤ k * 28970407010219572854784 := by
  intro k hk
  induction k with
  | zero => rw [qf_0]; omega
  | succ k ih =>
    obtain ⟨a, b⟩ := ih (by omega)
    have hV := h.v k (by omega)
    have m := mi_bd hV hu hv (t := t) (T := 8) (by omega)
    have s := mul_bd m m
    have s0 := sq_nn (mi M k u v t)
    have g := mul_bd (b := M k 5) (B := 16) s (by have := hV.g1; have := hV.g2; omega)
    have g0 := Int.mul_nonneg s0 (show 0 ≤ M k 5 by have := hV.g1; omega)
    rw [qf_succ]
    omega
theorem res_bd {n : Nat} {M : Tab} (h : Ok n M) {u v : Int} (hu : -2000000 ≤ u ∧ u ≤ 2000000) (hv : -2000000 ≤ v ∧ v ≤ 2000000) : ∀ k, k ≤ n → 0 ≤ qf k M u v 1 ∧ qf k M u v 1 ≤ k * 452662609534680825856 := by
  intro k hk
  induction k with
  | zero => rw [qf_0]; omega
  | succ k ih =>
    obtain ⟨a, b⟩ := ih (by omega)
    have hV := h.v k (by omega)
    have m := mi_bd hV hu hv (t := 1) (T := 1) (by omega)
    have s := mul_bd m m
    have s0 := sq_nn (mi M k u v 1)
    have g := mul_bd (b := M k 5) (B := 16) s (by have := hV.g1; have := hV.g2; omega)
    have g0 := Int.mul_nonneg s0 (show 0 ≤ M k 5 by have := hV.g1; omega)
    rw [qf_succ]
    omega
end Lq
end Go.Proofs.Ytcgcocingfhleaa
