/-
  Plain laws of dates, cycles and instants; no program in sight.
-/
import Derived.Test.YtplbjbpdinmjeaaPlain2
namespace Go.Proofs.Ytplbjbpdinmjeaa
set_option linter.unusedVariables false
namespace Cal
theorem days_date (day : Int) (h1 : 0 ≤ day) (h2 : day ≤ 36524) : daysV (yr day) (mo day) (dom day) = day ∧ daysE (yr day) (mo day) (dom day) = 0 := by
  have a := yr_bd day h1 h2
  have b := dom_bd day h1 h2
  unfold daysV daysE
  rw [if_neg (by omega), if_neg (by omega), if_neg (by omega)]
  unfold dom doy
  omega
theorem year_stays (day : Int) (h1 : 0 ≤ day) (h2 : day < 36524) (h : doy day + 1 < 365 + lp (yr day)) : yr (day + 1) = yr day ∧ doy (day + 1) = doy day + 1 := by
  have a := yr_bd day h1 (by omega)
  have b := jan_succ (yr day)
  have c : yr (day + 1) = yr day := yr_of (day + 1) (yr day) (by omega) (by omega) (by omega) (by unfold doy at h; omega)
  refine ⟨c, ?_⟩
  unfold doy; rw [c]; omega
theorem next_same (day : Int) (h1 : 0 ≤ day) (h2 : day < 36524) (h : dom day < md (yr day) (mo day)) : yr (day + 1) = yr day ∧ mo (day + 1) = mo day ∧ dom (day + 1) = dom day + 1 := by
  have a := yr_bd day h1 (by omega)
  have b := mo_bd day
  have c := mo_cum day h1 (by omega)
  have s := cum_succ (yr day) (mo day) (by omega) (by omega) (by omega) (by omega)
  have e : dom day = doy day - cum (yr day) (mo day) + 1 := rfl
  have m := cum_mono' (yr day) (by omega) (by omega) (mo day + 1) 13 (by omega) (by omega) (by omega)
  rw [cum_13] at m
  obtain ⟨y1, d1⟩ := year_stays day h1 h2 (by omega)
  have m1 : mo (day + 1) = mo day := by
    show moOf (yr (day + 1)) (doy (day + 1)) = _
    rw [y1, d1]
    exact moOf_of _ _ _ (by omega) (by omega) (by omega) (by omega) (by omega) (by omega)
  refine ⟨y1, m1, ?_⟩
  have e1 : dom (day + 1) = doy (day + 1) - cum (yr (day + 1)) (mo (day + 1)) + 1 := rfl
  rw [e1, y1, d1, m1]; omega
theorem next_month (day : Int) (h1 : 0 ≤ day) (h2 : day < 36524) (h : ¬ dom day < md (yr day) (mo day)) (h3 : mo day < 12) : yr (day + 1) = yr day ∧ mo (day + 1) = mo day + 1 ∧ dom (day + 1) = 1 := by
  have a := yr_bd day h1 (by omega)
  have b := mo_bd day
  have c := mo_cum day h1 (by omega)
  have s := cum_succ (yr day) (mo day) (by omega) (by omega) (by omega) (by omega)
  have s2 := cum_mono1 (yr day) (mo day + 1) (by omega) (by omega) (by omega) (by omega)
  have e : dom day = doy day - cum (yr day) (mo day) + 1 := rfl
  have m := cum_mono' (yr day) (by omega) (by omega) (mo day + 1 + 1) 13 (by omega) (by omega) (by omega)
  rw [cum_13] at m
  obtain ⟨y1, d1⟩ := year_stays day h1 h2 (by omega)
  have m1 : mo (day + 1) = mo day + 1 := by
    show moOf (yr (day + 1)) (doy (day + 1)) = _
    rw [y1, d1]
    exact moOf_of _ _ _ (by omega) (by omega) (by omega) (by omega) (by omega) (by omega)
  refine ⟨y1, m1, ?_⟩
  have e1 : dom (day + 1) = doy (day + 1) - cum (yr (day + 1)) (mo (day + 1)) + 1 := rfl
  rw [e1, y1, d1, m1]; omega
theorem next_year (day : Int) (h1 : 0 ≤ day) (h2 : day < 36524) (h : ¬ dom day < md (yr day) (mo day)) (h3 : ¬ mo day < 12) : yr (day + 1) = yr day + 1 ∧ mo (day + 1) = 1 ∧ dom (day + 1) = 1 := by
  have a := yr_bd day h1 (by omega)
  have b := mo_bd day
  have c := mo_cum day h1 (by omega)
  have db := doy_bd day h1 (by omega)
  have hm : mo day = 12 := by omega
  have s := cum_succ (yr day) (mo day) (by omega) (by omega) (by omega) (by omega)
  have e : dom day = doy day - cum (yr day) (mo day) + 1 := rfl
  have c13 := cum_13 (yr day)
  rw [hm] at s c e h
  have s' : cum (yr day) 13 = cum (yr day) 12 + md (yr day) 12 := s
  have j := jan_succ (yr day)
  have dd : doy day = day - jan (yr day) := rfl
  have hd : day + 1 = jan (yr day + 1) := by omega
  have y99 : yr day + 1 ≤ 2099 := by
    rcases Int.lt_or_le (yr day) 2099 with q | q
    · omega
    · exfalso
      have q' : yr day = 2099 := by omega
      rw [q'] at hd
      have : jan (2099 + 1) = 36525 := by decide
      omega
  have j2 := jan_succ (yr day + 1)
  have l2 := lp_01 (yr day + 1)
  have y1 : yr (day + 1) = yr day + 1 := yr_of (day + 1) (yr day + 1) (by omega) y99 (by omega) (by omega)
  have d1 : doy (day + 1) = 0 := by
    show day + 1 - jan (yr (day + 1)) = 0
    rw [y1]; omega
  have m1 : mo (day + 1) = 1 := by
    show moOf (yr (day + 1)) (doy (day + 1)) = _
    rw [d1]; simp [moOf]
  refine ⟨y1, m1, ?_⟩
  show doy (day + 1) - cum (yr (day + 1)) (mo (day + 1)) + 1 = 1
  rw [d1, m1, cum_1]; omega
theorem wd_next (day : Int) (h1 : 0 ≤ day) (h2 : day < 36524) : wd day % 7 + 1 = wd (day + 1) := by
  unfold wd
  rw [if_neg (by omega), if_neg (by omega)]; omega
theorem wd_no (day : Int) (h : day < 0 ∨ 36524 < day) : wd day = 0 := by unfold wd; rw [if_pos h]
theorem wd_pos (day : Int) (h1 : 0 ≤ day) (h2 : day ≤ 36524) : 1 ≤ wd day ∧ wd day ≤ 7 := by unfold wd; rw [if_neg (by omega)]; omega
theorem later_back (number n : Int) (h : cok number = true) (hl : laOk number n = true) :
    cok (nof (cf number + 28 * n)) = true ∧ cf (nof (cf number + 28 * n)) = cf number + 28 * n ∧ laOk (nof (cf number + 28 * n)) (-n) = true ∧ nof (cf (nof (cf number + 28 * n)) + 28 * (-n)) = number := by
  have a := cok_parts number h
  have b := of_decide_eq_true hl
  have c := cf_nof (cf number + 28 * n) (by omega) (by omega) (by omega)
  refine ⟨cok_nof _ (by omega) (by omega) (by omega), c, ?_, ?_⟩
  · unfold laOk; rw [c]; exact decide_eq_true (by omega)
  · rw [c, show cf number + 28 * n + 28 * -n = cf number by omega]; exact a.2.2.2.2.2.2.1
end Cal
end Go.Proofs.Ytplbjbpdinmjeaa
