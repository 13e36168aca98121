/-
  Plain arithmetic of the calendar; no program in sight.
-/
namespace Go.Proofs.Ytplbjbpdinmjeaa
set_option linter.unusedVariables false
namespace Cal

def leapB (y : Int) : Bool := decide (2000 ≤ y ∧ y ≤ 2099 ∧ y % 4 = 0)
def lp (y : Int) : Int := if y % 4 = 0 then 1 else 0
def md (y m : Int) : Int :=
  if y < 2000 ∨ 2099 < y ∨ m < 1 ∨ 12 < m then 0
  else if m = 2 then 28 + lp y
  else if m = 4 ∨ m = 6 ∨ m = 9 ∨ m = 11 then 30 else 31
def jan (y : Int) : Int := 365 * (y - 2000) + (y - 2000 + 3) / 4
def cum (y m : Int) : Int :=
  if m ≤ 1 then 0 else if m = 2 then 31 else lp y + (if m = 3 then 59 else if m = 4 then 90 else if m = 5 then 120 else if m = 6 then 151
    else if m = 7 then 181 else if m = 8 then 212 else if m = 9 then 243 else if m = 10 then 273 else if m = 11 then 304 else if m = 12 then 334 else 365)
def yr (day : Int) : Int := 2000 + 4 * day / 1461
def doy (day : Int) : Int := day - jan (yr day)
def moOf (y r : Int) : Int :=
  if r < 31 then 1 else if r < 59 + lp y then 2 else if r < 90 + lp y then 3 else if r < 120 + lp y then 4 else if r < 151 + lp y then 5
    else if r < 181 + lp y then 6 else if r < 212 + lp y then 7 else if r < 243 + lp y then 8 else if r < 273 + lp y then 9 else if r < 304 + lp y then 10
    else if r < 334 + lp y then 11 else 12
def mo (day : Int) : Int := moOf (yr day) (doy day)
def dom (day : Int) : Int := doy day - cum (yr day) (mo day) + 1
def daysV (y m d : Int) : Int := if y < 2000 ∨ 2099 < y ∨ d < 1 ∨ md y m < d then 0 else jan y + d - 1 + cum y m
def daysE (y m d : Int) : Int := if y < 2000 ∨ 2099 < y then 2 else if d < 1 ∨ md y m < d then 1 else 0
def inDay (day : Int) : Bool := decide (0 ≤ day ∧ day ≤ 36524)
def wd (day : Int) : Int := if day < 0 ∨ 36524 < day then 0 else (day + 5) % 7 + 1

theorem lp_01 (y : Int) : 0 ≤ lp y ∧ lp y ≤ 1 := by unfold lp; split <;> omega
theorem jan_succ (y : Int) : jan (y + 1) = jan y + 365 + lp y := by unfold jan lp; split <;> omega
theorem jan_2000 : jan 2000 = 0 := by decide
theorem jan_mono (a b : Int) (h : a ≤ b) : jan a ≤ jan b := by unfold jan; omega
theorem jan_bd (y : Int) (h1 : 2000 ≤ y) (h2 : y ≤ 2100) : 0 ≤ jan y ∧ jan y ≤ 36525 := by unfold jan; omega
theorem cum_1 (y : Int) : cum y 1 = 0 := by simp [cum]
theorem cum_13 (y : Int) : cum y 13 = 365 + lp y := by simp [cum]; omega
theorem md_out (y m : Int) (h : y < 2000 ∨ 2099 < y ∨ m < 1 ∨ 12 < m) : md y m = 0 := by unfold md; rw [if_pos h]
theorem md_bd (y m : Int) : 0 ≤ md y m ∧ md y m ≤ 31 := by
  have := lp_01 y
  unfold md
  split
  · omega
  · split
    · omega
    · split <;> omega
theorem md_in (y m : Int) (h1 : 2000 ≤ y) (h2 : y ≤ 2099) (h3 : 1 ≤ m) (h4 : m ≤ 12) : 28 ≤ md y m := by
  have := lp_01 y
  unfold md
  rw [if_neg (by omega)]
  split
  · omega
  · split <;> omega
theorem cases12 {P : Int → Prop} (m : Int) (h1 : 1 ≤ m) (h2 : m ≤ 12) (p1 : P 1) (p2 : P 2) (p3 : P 3) (p4 : P 4) (p5 : P 5) (p6 : P 6) (p7 : P 7) (p8 : P 8) (p9 : P 9) (p10 : P 10) (p11 : P 11) (p12 : P 12) : P m := by
  have h : m = 1 ∨ m = 2 ∨ m = 3 ∨ m = 4 ∨ m = 5 ∨ m = 6 ∨ m = 7 ∨ m = 8 ∨ m = 9 ∨ m = 10 ∨ m = 11 ∨ m = 12 := by omega
  rcases h with rfl | rfl | rfl | rfl | rfl | rfl | rfl | rfl | rfl | rfl | rfl | rfl <;> assumption
theorem cum_succ (y m : Int) (h1 : 2000 ≤ y) (h2 : y ≤ 2099) (h3 : 1 ≤ m) (h4 : m ≤ 12) : cum y (m + 1) = cum y m + md y m := by
  have hy : ¬ (y < 2000 ∨ 2099 < y) := by omega
  revert h3 h4
  intro h3 h4
  refine cases12 (P := fun m => cum y (m + 1) = cum y m + md y m) m h3 h4 ?_ ?_ ?_ ?_ ?_ ?_ ?_ ?_ ?_ ?_ ?_ ?_ <;>
    (have a : ¬ y < 2000 := by omega
     have b : ¬ 2099 < y := by omega
     simp [cum, md, a, b] <;> omega)
theorem cum_bd (y m : Int) : 0 ≤ cum y m ∧ cum y m ≤ 366 := by
  have := lp_01 y
  unfold cum
  split
  · omega
  · split
    · omega
    · repeat' split
      all_goals omega
theorem cum_mono1 (y m : Int) (h1 : 2000 ≤ y) (h2 : y ≤ 2099) (h3 : 1 ≤ m) (h4 : m ≤ 12) : cum y m + 28 ≤ cum y (m + 1) := by
  rw [cum_succ y m h1 h2 h3 h4]; have := md_in y m h1 h2 h3 h4; omega
theorem yr_bd (day : Int) (h1 : 0 ≤ day) (h2 : day ≤ 36524) : 2000 ≤ yr day ∧ yr day ≤ 2099 ∧ jan (yr day) ≤ day ∧ day < jan (yr day + 1) ∧ 2000 + day / 366 ≤ yr day := by
  unfold yr jan; omega
theorem yr_of (day y : Int) (h1 : 2000 ≤ y) (h2 : y ≤ 2099) (h3 : jan y ≤ day) (h4 : day < jan (y + 1)) : yr day = y := by
  unfold yr jan at *; omega
theorem jan_lt (day y : Int) (h1 : 0 ≤ day) (h2 : day ≤ 36524) (h3 : y < yr day) : jan (y + 1) ≤ day := by
  have := yr_bd day h1 h2
  have := jan_mono (y + 1) (yr day) (by omega)
  omega
theorem doy_bd (day : Int) (h1 : 0 ≤ day) (h2 : day ≤ 36524) : 0 ≤ doy day ∧ doy day < 365 + lp (yr day) := by
  have := yr_bd day h1 h2
  have := jan_succ (yr day)
  unfold doy; omega
theorem moOf_bd (y r : Int) : 1 ≤ moOf y r ∧ moOf y r ≤ 12 := by
  unfold moOf; repeat' split
  all_goals omega
theorem moOf_cum (y r : Int) (h0 : 0 ≤ r) (h : r < 365 + lp y) : cum y (moOf y r) ≤ r ∧ r < cum y (moOf y r + 1) := by
  have := lp_01 y
  unfold moOf
  repeat' split
  all_goals simp [cum]
  all_goals omega
theorem cum_mono (y : Int) (h1 : 2000 ≤ y) (h2 : y ≤ 2099) (a : Int) (h3 : 1 ≤ a) (n : Nat) (h : a + n ≤ 13) : cum y a ≤ cum y (a + n) := by
  induction n with
  | zero => simp
  | succ k ih =>
    have := ih (by omega)
    have h5 := cum_mono1 y (a + k) h1 h2 (by omega) (by omega)
    have e : a + ((k + 1 : Nat) : Int) = a + k + 1 := by omega
    rw [e]; omega
theorem cum_mono' (y : Int) (h1 : 2000 ≤ y) (h2 : y ≤ 2099) (a b : Int) (h3 : 1 ≤ a) (h : a ≤ b) (h4 : b ≤ 13) : cum y a ≤ cum y b := by
  have := cum_mono y h1 h2 a h3 (b - a).toNat (by omega)
  rwa [show a + ((b - a).toNat : Int) = b by omega] at this
theorem moOf_of (y r m : Int) (h1 : 2000 ≤ y) (h2 : y ≤ 2099) (h3 : 1 ≤ m) (h4 : m ≤ 12) (h5 : cum y m ≤ r) (h6 : r < cum y (m + 1)) : moOf y r = m := by
  have b := moOf_bd y r
  have c13 := cum_mono' y h1 h2 (m + 1) 13 (by omega) (by omega) (by omega)
  have c1 := cum_mono' y h1 h2 1 m (by omega) (by omega) (by omega)
  rw [cum_13] at c13; rw [cum_1] at c1
  have c := moOf_cum y r (by omega) (by omega)
  rcases Int.lt_trichotomy (moOf y r) m with h | h | h
  · have := cum_mono' y h1 h2 (moOf y r + 1) m (by omega) (by omega) (by omega); omega
  · exact h
  · have := cum_mono' y h1 h2 (m + 1) (moOf y r) (by omega) (by omega) (by omega); omega
theorem mo_bd (day : Int) : 1 ≤ mo day ∧ mo day ≤ 12 := moOf_bd _ _
theorem mo_cum (day : Int) (h1 : 0 ≤ day) (h2 : day ≤ 36524) : cum (yr day) (mo day) ≤ doy day ∧ doy day < cum (yr day) (mo day + 1) :=
  moOf_cum _ _ (doy_bd day h1 h2).1 (doy_bd day h1 h2).2
theorem dom_bd (day : Int) (h1 : 0 ≤ day) (h2 : day ≤ 36524) : 1 ≤ dom day ∧ dom day ≤ md (yr day) (mo day) := by
  have a := mo_cum day h1 h2
  have b := mo_bd day
  have c := yr_bd day h1 h2
  have e := cum_succ (yr day) (mo day) (by omega) (by omega) (by omega) (by omega)
  unfold dom; omega

/-- A month that has not come yet: it is before the twelfth, and its days fit. -/
theorem month_less (day m : Int) (h1 : 0 ≤ day) (h2 : day ≤ 36524) (h3 : 1 ≤ m) (h4 : m < mo day) : cum (yr day) (m + 1) ≤ doy day := by
  have a := mo_cum day h1 h2
  have b := mo_bd day
  have c := yr_bd day h1 h2
  have := cum_mono' (yr day) (by omega) (by omega) (m + 1) (mo day) (by omega) (by omega) (by omega)
  omega
end Cal
end Go.Proofs.Ytplbjbpdinmjeaa
