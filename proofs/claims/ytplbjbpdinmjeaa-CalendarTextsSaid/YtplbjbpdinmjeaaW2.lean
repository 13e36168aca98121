/-
  Contracts: Days, Date, Weekday, Split, Join, of the program.
-/
import Derived.Test.YtplbjbpdinmjeaaW1
namespace Go.Proofs.Ytplbjbpdinmjeaa
set_option linter.unusedVariables false
open Go.RowKit

theorem results4 {fn : Func} {t u v x : Tmp} (h : fn.results = #[.tmp t, .tmp u, .tmp v, .tmp x]) (tmps : Array Value) (P : Program) (w : World) :
    (results fn tmps).run P w = .ok (.tuple #[tmps.getD t undef, tmps.getD u undef, tmps.getD v undef, tmps.getD x undef]) w := by simp [results, h]

theorem days_bad1 (y m d : Int) (h : y < 2000 ∨ 2099 < y) : Cal.daysV y m d = 0 ∧ Cal.daysE y m d = 2 := by
  unfold Cal.daysV Cal.daysE; rw [if_pos (by omega), if_pos (by omega)]; exact ⟨rfl, rfl⟩
theorem days_bad2 (y m d : Int) (h : ¬ (y < 2000 ∨ 2099 < y)) (h2 : d < 1 ∨ Cal.md y m < d) : Cal.daysV y m d = 0 ∧ Cal.daysE y m d = 1 := by
  unfold Cal.daysV Cal.daysE; rw [if_pos (by omega), if_neg h, if_pos h2]; exact ⟨rfl, rfl⟩
theorem days_good (y m d : Int) (h : ¬ (y < 2000 ∨ 2099 < y)) (h2 : ¬ (d < 1 ∨ Cal.md y m < d)) : Cal.daysV y m d = Cal.jan y + d - 1 + Cal.cum y m ∧ Cal.daysE y m d = 0 := by
  unfold Cal.daysV Cal.daysE; rw [if_neg (by omega), if_neg h, if_neg h2]; exact ⟨rfl, rfl⟩

set_option maxHeartbeats 1000000 in
theorem days_c (y m d : Int) (w : World) : Calls Try.prog 19 #[.int .i64 y, .int .i64 m, .int .i64 d] w fun e w' => e = .returned (.tuple #[.int .i64 (Cal.daysV y m d), .int .i64 (Cal.daysE y m d)]) ∧ w = w' := by
  by_cases h1 : y < 2000
  · go_enter Try.func19, Try.ntmps19
    go_wp2
    go_ret2
    exact ⟨ret_ints (days_bad1 y m d (by omega)).1.symm (days_bad1 y m d (by omega)).2.symm, rfl⟩
  · by_cases h2 : 2099 < y
    · go_enter Try.func19, Try.ntmps19
      go_wp2
      go_ret2
      exact ⟨ret_ints (days_bad1 y m d (by omega)).1.symm (days_bad1 y m d (by omega)).2.symm, rfl⟩
    · by_cases h3 : d < 1
      · go_enter Try.func19, Try.ntmps19
        go_wp2
        go_ret2
        exact ⟨ret_ints (days_bad2 y m d (by omega) (by omega)).1.symm (days_bad2 y m d (by omega) (by omega)).2.symm, rfl⟩
      · by_cases h4 : Cal.md y m < d
        · go_enter Try.func19, Try.ntmps19
          go_wp2_with (go_at_call 17; refine (md_c _ _ _).mono ?_; rintro e w' ⟨rfl, rfl⟩)
          go_ret2
          exact ⟨ret_ints (days_bad2 y m d (by omega) (by omega)).1.symm (days_bad2 y m d (by omega) (by omega)).2.symm, rfl⟩
        · have hb := Cal.md_bd y m
          have hm : 1 ≤ m ∧ m ≤ 12 := by
            rcases Classical.em (1 ≤ m ∧ m ≤ 12) with h | h
            · exact h
            · exfalso; have := Cal.md_out y m (by omega); omega
          obtain ⟨hm1, hm2⟩ := hm
          have hj := Cal.jan_bd y (by omega) (by omega)
          go_enter Try.func19, Try.ntmps19
          go_wp2_with (first | (go_at_call 17; refine (md_c _ _ _).mono ?_; rintro e w' ⟨rfl, rfl⟩) | (go_at_call 45; refine (jan_c _ _ (by omega) (by omega)).mono ?_; rintro e w' ⟨rfl, rfl⟩))
          go_loop [8, 9] (fun n i => ∃ k : Int, 1 ≤ k ∧ k ≤ m ∧ i = .int .i64 k ∧ n = .int .i64 (Cal.jan y + d - 1 + Cal.cum y k)) (fun _ i => (m - intOf i).toNat)
          case atStart => exact ⟨1, by omega, by omega, rfl, by rw [Cal.cum_1, Int.add_zero]⟩
          case round =>
            obtain ⟨k, hk1, hk2, rfl, rfl⟩ := hrel
            have ck := Cal.cum_bd y k
            by_cases hlt : k < m
            · have cs := Cal.cum_succ y k (by omega) (by omega) (by omega) (by omega)
              have mb := Cal.md_bd y k
              have CS := Lib.hid cs
              clear cs
              go_wp2_with (go_at_call 17; refine (md_c _ _ _).mono ?_; rintro e w' ⟨rfl, rfl⟩)
              go_round
              case rel => exact ⟨k + 1, by omega, by omega, by go_num, by rw [CS.out]; go_num⟩
              case measure => simp [intOf]; omega
            · obtain rfl : k = m := by omega
              go_wp2
              go_ret2
              exact ⟨ret_ints (days_good y k d (by omega) (by omega)).1.symm (days_good y k d (by omega) (by omega)).2.symm, rfl⟩

theorem date_no (day : Int) (w : World) (h : day < 0 ∨ 36524 < day) : Calls Try.prog 21 #[.int .i64 day] w fun e w' => e = .returned (.tuple #[.int .i64 0, .int .i64 0, .int .i64 0, .int .i64 2]) ∧ w = w' := by
  rcases h with h | h
  · go_enter Try.func21, Try.ntmps21
    go_wp2
    refine bodyPost_ret (results4 rfl _ _ _) rfl ?_
    exact ⟨rfl, rfl⟩
  · have h' : ¬ day < 0 := by omega
    go_enter Try.func21, Try.ntmps21
    go_wp2
    refine bodyPost_ret (results4 rfl _ _ _) rfl ?_
    exact ⟨rfl, rfl⟩

set_option maxHeartbeats 1000000 in
theorem date_yes (day : Int) (w : World) (h1 : 0 ≤ day) (h2 : day ≤ 36524) :
    Calls Try.prog 21 #[.int .i64 day] w fun e w' => e = .returned (.tuple #[.int .i64 (Cal.yr day), .int .i64 (Cal.mo day), .int .i64 (Cal.dom day), .int .i64 0]) ∧ w = w' := by
  obtain ⟨hy1, hy2, hy3, hy4, hy5⟩ := Cal.yr_bd day h1 h2
  go_enter Try.func21, Try.ntmps21
  go_wp2
  go_loop [2] (fun t => ∃ y : Int, 2000 ≤ y ∧ y ≤ Cal.yr day ∧ t = .int .i64 y) (fun t => (Cal.yr day - intOf t).toNat)
  case atStart => exact ⟨2000 + day / 366, by omega, by omega, rfl⟩
  case round =>
    obtain ⟨y, hk1, hk2, rfl⟩ := hrel
    by_cases hlt : y < Cal.yr day
    · have hj := Cal.jan_lt day y h1 h2 hlt
      go_wp2_with (go_at_call 45; refine (jan_c _ _ (by omega) (by omega)).mono ?_; rintro e w' ⟨rfl, rfl⟩)
      go_round
      case rel => exact ⟨y + 1, by omega, by omega, by go_num⟩
      case measure => simp [intOf]; omega
    · obtain rfl : y = Cal.yr day := by omega
      have hjb := Cal.jan_bd (Cal.yr day) (by omega) (by omega)
      go_wp2_with (go_at_call 45; refine (jan_c _ _ (by omega) (by omega)).mono ?_; rintro e w' ⟨rfl, rfl⟩)
      go_loop [3, 6] (fun m r => ∃ k : Int, 1 ≤ k ∧ k ≤ Cal.mo day ∧ m = .int .i64 k ∧ 0 ≤ Cal.doy day - Cal.cum (Cal.yr day) k ∧ r = .int .i64 (Cal.doy day - Cal.cum (Cal.yr day) k)) (fun m _ => (12 - intOf m).toNat)
      case atStart =>
        have := Cal.mo_bd day
        have := Cal.doy_bd day h1 h2
        exact ⟨1, by omega, by omega, rfl, by rw [Cal.cum_1]; omega, by rw [Cal.cum_1, Int.sub_zero]; rfl⟩
      case round =>
        obtain ⟨k, hq1, hq2, rfl, hq3, rfl⟩ := hrel
        have mb := Cal.mo_bd day
        have cb := Cal.cum_bd (Cal.yr day) k
        have db := Cal.doy_bd day h1 h2
        have lb := Cal.lp_01 (Cal.yr day)
        have nb := Cal.md_bd (Cal.yr day) k
        have cs := Cal.cum_succ (Cal.yr day) k (by omega) (by omega) (by omega) (by omega)
        by_cases hk : k < Cal.mo day
        · have ml := Cal.month_less day k h1 h2 (by omega) (by omega)
          have hge : Cal.md (Cal.yr day) k ≤ Cal.doy day - Cal.cum (Cal.yr day) k := by omega
          have CS := Lib.hid cs
          clear cs ml
          go_wp2_with (go_at_call 17; refine (md_c _ _ _).mono ?_; rintro e w' ⟨rfl, rfl⟩)
          go_round
          case rel => exact ⟨k + 1, by omega, by omega, by go_num, by rw [CS.out]; omega, by rw [CS.out]; go_num⟩
          case measure => simp [intOf]; omega
        · obtain rfl : k = Cal.mo day := by omega
          have mc := Cal.mo_cum day h1 h2
          have hge : Cal.doy day - Cal.cum (Cal.yr day) (Cal.mo day) < Cal.md (Cal.yr day) (Cal.mo day) := by omega
          clear cs mc
          go_wp2_with (go_at_call 17; refine (md_c _ _ _).mono ?_; rintro e w' ⟨rfl, rfl⟩)
          refine bodyPost_ret (results4 rfl _ _ _) rfl ?_
          exact ⟨rfl, rfl⟩

theorem wd_c (day : Int) (w : World) : Calls Try.prog 22 #[.int .i64 day] w fun e w' => e = .returned (.int .i64 (Cal.wd day)) ∧ w = w' := by
  by_cases h1 : day < 0
  · go_enter Try.func22, Try.ntmps22
    go_wp2
    go_ret
    exact ⟨ret_int (by unfold Cal.wd; rw [if_pos (by omega)]), rfl⟩
  · by_cases h2 : 36524 < day
    · go_enter Try.func22, Try.ntmps22
      go_wp2
      go_ret
      exact ⟨ret_int (by unfold Cal.wd; rw [if_pos (by omega)]), rfl⟩
    · go_enter Try.func22, Try.ntmps22
      go_wp2
      go_ret
      exact ⟨ret_int (by unfold Cal.wd; rw [if_neg (by omega)]), rfl⟩

end Go.Proofs.Ytplbjbpdinmjeaa
