/-
  Plain: intervals, what the chapter's functions give; no program in sight.
-/
import Derived.Test.YtgkbjkgafiojjaaPlain10
import Derived.Test.YtgkbjkgafiojjaaPlain4
namespace Go.Proofs.Ytgkbjkgafiojjaa
set_option linter.unusedVariables false
set_option linter.unusedSimpArgs false
namespace Iv
/-- A valid interval. -/
def Vd (l h : Int) : Prop := l ≤ h ∧ -4611686018427387904 ≤ l ∧ h ≤ 4611686018427387904
instance (l h : Int) : Decidable (Vd l h) := by unfold Vd; infer_instance
def vb (l h : Int) : Bool := decide (Vd l h)
/-- An interval and an error. -/
structure Rs where
  lo : Int
  hi : Int
  er : Int
def bad (n : Int) : Rs := ⟨0, 0, n⟩
def rs (l h : Int) : Rs := if Vd l h then ⟨l, h, 0⟩ else bad 2
theorem rs_yes {l h : Int} (v : Vd l h) : rs l h = ⟨l, h, 0⟩ := if_pos v
theorem rs_no {l h : Int} (v : ¬ Vd l h) : rs l h = bad 2 := if_neg v
theorem vb_yes {l h : Int} (v : Vd l h) : vb l h = true := decide_eq_true v
theorem vb_no {l h : Int} (v : ¬ Vd l h) : vb l h = false := decide_eq_false v
def mk (l h : Int) : Rs := if h < l then bad 1 else rs l h
def hs (l h v : Int) : Bool := vb l h && decide (l ≤ v ∧ v ≤ h)
def wi (l h l' h' : Int) : Bool := vb l h && vb l' h' && decide (l' ≤ l ∧ h ≤ h')
def wd (l h : Int) : Int := if Vd l h then h - l else 0
def add (l h l' h' : Int) : Rs := if Vd l h ∧ Vd l' h' then rs (l + l') (h + h') else bad 1
def sub (l h l' h' : Int) : Rs := if Vd l h ∧ Vd l' h' then rs (l - h') (h - l') else bad 1
def neg (l h : Int) : Rs := if Vd l h then ⟨-h, -l, 0⟩ else bad 1
def abs (l h : Int) : Rs := if Vd l h then (if 0 ≤ l then ⟨l, h, 0⟩ else if h ≤ 0 then ⟨-h, -l, 0⟩ else ⟨0, max (-l) h, 0⟩) else bad 1
def hull (l h l' h' : Int) : Rs := if Vd l h ∧ Vd l' h' then ⟨min l l', max h h', 0⟩ else bad 1
def meet (l h l' h' : Int) : Rs := if Vd l h ∧ Vd l' h' then (if min h h' < max l l' then bad 6 else ⟨max l l', min h h', 0⟩) else bad 1
def widen (l h k : Int) : Rs := if Vd l h ∧ 0 ≤ k then rs (l - k) (h + k) else bad 1
def mn4 (a b c d : Int) : Int := min (min (min a b) c) d
def mx4 (a b c d : Int) : Int := max (max (max a b) c) d
def mul (l h l' h' : Int) : Rs := if Vd l h ∧ Vd l' h' then rs (mn4 (l * l') (l * h') (h * l') (h * h')) (mx4 (l * l') (l * h') (h * l') (h * h')) else bad 1
def fl (a b : Int) : Int := Wi.dv a b (-1)
def cl (a b : Int) : Int := Wi.dv a b 1
/-- Two intervals, the second free of 0. -/
def Qo (l h l' h' : Int) : Prop := Vd l h ∧ Vd l' h' ∧ (0 < l' ∨ h' < 0)
instance (l h l' h' : Int) : Decidable (Qo l h l' h') := by unfold Qo; infer_instance
def quo (l h l' h' : Int) : Rs := if Qo l h l' h' then rs (mn4 (fl l l') (fl l h') (fl h l') (fl h h')) (mx4 (cl l l') (cl l h') (cl h l') (cl h h')) else bad 1
def scale (l h n d : Int) : Rs := if Vd l h ∧ d ≠ 0 then rs (min (fl (l * n) d) (fl (h * n) d)) (max (cl (l * n) d) (cl (h * n) d)) else bad 1
noncomputable def sq (n : Int) : Int := Wi.sqV n
noncomputable def sqUp (n : Int) : Int := if sq n * sq n < n then sq n + 1 else sq n
noncomputable def sqrt (l h : Int) : Rs := if Vd l h ∧ 0 ≤ l then ⟨sq l, sqUp h, 0⟩ else bad 1
/-- The nearest int64. -/
def sat (v : Int) : Int := if v < -9223372036854775808 then -9223372036854775808 else if 9223372036854775807 < v then 9223372036854775807 else v
theorem sat_rs {a b : Int} (h1 : -9223372036854775808 ≤ a) (h2 : a ≤ 9223372036854775808) (h3 : -9223372036854775808 ≤ b) (h4 : b ≤ 9223372036854775808) : rs (sat a) (sat b) = rs a b := by
  by_cases v : Vd a b
  · have e1 : sat a = a := by unfold Vd at v; unfold sat; rw [if_neg (by omega), if_neg (by omega)]
    have e2 : sat b = b := by unfold Vd at v; unfold sat; rw [if_neg (by omega), if_neg (by omega)]
    rw [e1, e2]
  · rw [rs_no v, rs_no]
    unfold Vd at v ⊢
    unfold sat
    split <;> split <;> omega
theorem le_mn4 {q a b c d : Int} : q ≤ mn4 a b c d ↔ q ≤ a ∧ q ≤ b ∧ q ≤ c ∧ q ≤ d := by unfold mn4; omega
theorem mx4_le {q a b c d : Int} : mx4 a b c d ≤ q ↔ a ≤ q ∧ b ≤ q ∧ c ≤ q ∧ d ≤ q := by unfold mx4; omega
/-! Rounded quotients as floors -/
theorem ab_n (x : Int) : Wi.ab (-x) = Wi.ab x := by unfold Wi.ab; split <;> split <;> omega
theorem ngb_n {x : Int} (h : x ≠ 0) : Wi.ngb (-x) = !Wi.ngb x := by
  unfold Wi.ngb
  by_cases q : x < 0
  · rw [decide_eq_true q, decide_eq_false (by omega)]; rfl
  · rw [decide_eq_false q, decide_eq_true (by omega)]; rfl
theorem dv_zero (y : Int) : Wi.dv 0 y (-1) = 0 ∧ Wi.dv 0 y 1 = 0 := by
  have e : Wi.ab 0 = 0 := rfl
  unfold Wi.dv Wi.qs Wi.awb Wi.zb
  rw [e]
  simp
  unfold Wi.sg
  split <;> rfl
theorem dv_nn {x y : Int} (hy : y ≠ 0) (way : Int) (hw : way = -1 ∨ way = 1) : Wi.dv (-x) (-y) way = Wi.dv x y way := by
  by_cases hx : x = 0
  · subst hx
    rcases hw with rfl | rfl
    · rw [Int.neg_zero, (dv_zero _).1, (dv_zero _).1]
    · rw [Int.neg_zero, (dv_zero _).2, (dv_zero _).2]
  · have nq : Wi.ngq (-x) (-y) = Wi.ngq x y := by unfold Wi.ngq; rw [ngb_n hx, ngb_n hy]; cases Wi.ngb x <;> cases Wi.ngb y <;> rfl
    unfold Wi.dv Wi.qs Wi.awb
    rw [nq, ab_n, ab_n]
theorem cl_fl {x y : Int} : cl x y = -fl (-x) y := by
  unfold cl fl
  by_cases hx : x = 0
  · subst hx
    rw [Int.neg_zero, (dv_zero _).1, (dv_zero _).2]; rfl
  · have nq : Wi.ngq (-x) y = !Wi.ngq x y := by unfold Wi.ngq; rw [ngb_n hx]; cases Wi.ngb x <;> cases Wi.ngb y <;> rfl
    have ea : Wi.awb (-x) y (-1) = Wi.awb x y 1 := by
      unfold Wi.awb
      rw [nq, ab_n]
      simp
    unfold Wi.dv Wi.qs
    rw [ea, nq, ab_n]
    cases Wi.ngq x y <;> simp [Wi.sg]
/-- Against a positive divisor, against a negative one. -/
theorem le_fl_pos {q x y : Int} (hy : 0 < y) : q ≤ fl x y ↔ q * y ≤ x := by
  unfold fl; rw [Wi.dv_floor hy]; exact Int.le_ediv_iff_mul_le hy
theorem le_fl_neg {q x y : Int} (hy : y < 0) : q ≤ fl x y ↔ x ≤ q * y := by
  unfold fl
  rw [← dv_nn (x := x) (by omega) (-1) (.inl rfl), Wi.dv_floor (by omega), Int.le_ediv_iff_mul_le (by omega), Int.mul_neg]
  omega
theorem mul_mono_r {q a b : Int} (h : a ≤ b) : (0 ≤ q → q * a ≤ q * b) ∧ (q ≤ 0 → q * b ≤ q * a) :=
  ⟨fun hq => Int.mul_le_mul_of_nonneg_left h hq, fun hq => Int.mul_le_mul_of_nonpos_left hq h⟩
theorem quo_low {l h l' h' u v q : Int} (h1 : l ≤ u) (h2 : u ≤ h) (h3 : l' ≤ v) (h4 : v ≤ h') (hz : 0 < l' ∨ h' < 0)
    (c1 : q ≤ fl l l') (c2 : q ≤ fl l h') (c3 : q ≤ fl h l') (c4 : q ≤ fl h h') : q ≤ fl u v := by
  have m1 := mul_mono_r (q := q) h3
  have m2 := mul_mono_r (q := q) h4
  rcases hz with hz | hz
  · rw [le_fl_pos (by omega)] at c1 c2 c3 c4 ⊢
    rcases Int.le_total 0 q with hq | hq
    · have := m2.1 hq; omega
    · have := m1.2 hq; omega
  · rw [le_fl_neg (by omega)] at c1 c2 c3 c4 ⊢
    rcases Int.le_total 0 q with hq | hq
    · have := m1.1 hq; omega
    · have := m2.2 hq; omega
theorem quo_high {l h l' h' u v q : Int} (h1 : l ≤ u) (h2 : u ≤ h) (h3 : l' ≤ v) (h4 : v ≤ h') (hz : 0 < l' ∨ h' < 0)
    (c1 : cl l l' ≤ q) (c2 : cl l h' ≤ q) (c3 : cl h l' ≤ q) (c4 : cl h h' ≤ q) : cl u v ≤ q := by
  rw [cl_fl] at *
  have := quo_low (l := -h) (h := -l) (u := -u) (v := v) (q := -q) (by omega) (by omega) h3 h4 hz (by omega) (by omega) (by omega) (by omega)
  omega
theorem fl_le_cl {x y : Int} (hy : y ≠ 0) : fl x y ≤ cl x y := by
  rw [cl_fl]
  have e := (show fl x y ≤ fl x y from Int.le_refl _)
  have e2 := (show fl (-x) y ≤ fl (-x) y from Int.le_refl _)
  rcases Int.lt_or_gt_of_ne hy with h | h
  · rw [le_fl_neg h] at e e2
    apply Classical.byContradiction
    intro q
    have := Int.mul_le_mul_of_nonpos_right (show 1 ≤ fl x y + fl (-x) y by omega) (show y ≤ 0 by omega)
    rw [Int.add_mul] at this
    omega
  · rw [le_fl_pos h] at e e2
    apply Classical.byContradiction
    intro q
    have := Int.mul_le_mul_of_nonneg_right (show 1 ≤ fl x y + fl (-x) y by omega) (show 0 ≤ y by omega)
    rw [Int.add_mul] at this
    omega
theorem mul_low {l h l' h' u v q : Int} (h1 : l ≤ u) (h2 : u ≤ h) (h3 : l' ≤ v) (h4 : v ≤ h')
    (c1 : q ≤ l * l') (c2 : q ≤ l * h') (c3 : q ≤ h * l') (c4 : q ≤ h * h') : q ≤ u * v := by
  have a1 : q ≤ l * v := by
    rcases Int.le_total 0 l with g | g
    · have := (mul_mono_r (q := l) h3).1 g; omega
    · have := (mul_mono_r (q := l) h4).2 g; omega
  have a2 : q ≤ h * v := by
    rcases Int.le_total 0 h with g | g
    · have := (mul_mono_r (q := h) h3).1 g; omega
    · have := (mul_mono_r (q := h) h4).2 g; omega
  rcases Int.le_total 0 v with g | g
  · have := (mul_mono_r (q := v) h1).1 g; rw [Int.mul_comm v, Int.mul_comm v] at this; omega
  · have := (mul_mono_r (q := v) h2).2 g; rw [Int.mul_comm v, Int.mul_comm v] at this; omega
theorem mul_high {l h l' h' u v q : Int} (h1 : l ≤ u) (h2 : u ≤ h) (h3 : l' ≤ v) (h4 : v ≤ h')
    (c1 : l * l' ≤ q) (c2 : l * h' ≤ q) (c3 : h * l' ≤ q) (c4 : h * h' ≤ q) : u * v ≤ q := by
  have := mul_low (l := -h) (h := -l) (u := -u) (v := v) (q := -q) (by omega) (by omega) h3 h4 (by rw [Int.neg_mul]; omega) (by rw [Int.neg_mul]; omega) (by rw [Int.neg_mul]; omega) (by rw [Int.neg_mul]; omega)
  rw [Int.neg_mul] at this
  omega
end Iv
end Go.Proofs.Ytgkbjkgafiojjaa
