/-
  Contracts of the reference: before, Days, Date, Split, Join, numberOf, Cycle, CycleDays, Later.
-/
import Derived.Test.YtplbjbpdinmjeaaW3
namespace Go.Proofs.Ytplbjbpdinmjeaa
set_option linter.unusedVariables false
open Go.RowKit

theorem jan_s1 (k : Int) (h : k % 4 = 0) : Cal.jan (k + 1) = Cal.jan k + 365 + 1 := by rw [Cal.jan_succ]; simp [Cal.lp, h]
theorem jan_s0 (k : Int) (h : ¬ k % 4 = 0) : Cal.jan (k + 1) = Cal.jan k + 365 := by rw [Cal.jan_succ]; simp [Cal.lp, h]

set_option maxHeartbeats 1000000 in
theorem rbefore_c (y m : Int) (w : World) (h1 : 2000 ≤ y) (h2 : y ≤ 2100) (h3 : 1 ≤ m) (h4 : m ≤ 13) (h5 : m ≤ 1 ∨ y ≤ 2099) : Calls Try.prog 46 #[.int .i64 y, .int .i64 m] w fun e w' => e = .returned (.int .i64 (Cal.jan y + Cal.cum y m)) ∧ w = w' := by
  go_enter Try.func46, Try.ntmps46
  go_wp2
  go_loop [5, 6] (fun n x => ∃ k : Int, 2000 ≤ k ∧ k ≤ y ∧ x = .int .i64 k ∧ n = .int .i64 (Cal.jan k)) (fun _ x => (y - intOf x).toNat)
  case atStart => exact ⟨2000, by omega, by omega, rfl, by rw [Cal.jan_2000]⟩
  case round =>
    obtain ⟨k, hk1, hk2, rfl, rfl⟩ := hrel
    have hj := Cal.jan_bd k (by omega) (by omega)
    by_cases hlt : k < y
    · by_cases h6 : k % 4 = 0
      · have hl := leap_yes k (by omega) (by omega) h6
        have hs := jan_s1 k h6
        have HS := Lib.hid hs
        clear hs h6
        go_wp2_with (go_at_call 16; refine (rleap_c _ _).mono ?_; rintro e w' ⟨rfl, rfl⟩)
        go_round
        case rel => exact ⟨k + 1, by omega, by omega, by go_num, by rw [HS.out]⟩
        case measure => simp [intOf]; omega
      · have hl := leap_no k h6
        have hs := jan_s0 k h6
        have HS := Lib.hid hs
        clear hs h6
        go_wp2_with (go_at_call 16; refine (rleap_c _ _).mono ?_; rintro e w' ⟨rfl, rfl⟩)
        go_round
        case rel => exact ⟨k + 1, by omega, by omega, by go_num, by rw [HS.out]⟩
        case measure => simp [intOf]; omega
    · obtain rfl : k = y := by omega
      go_wp2
      go_loop [5, 7] (fun n x => ∃ j : Int, 1 ≤ j ∧ j ≤ m ∧ x = .int .i64 j ∧ n = .int .i64 (Cal.jan k + Cal.cum k j)) (fun _ x => (m - intOf x).toNat)
      case atStart => exact ⟨1, by omega, by omega, rfl, by rw [Cal.cum_1, Int.add_zero]⟩
      case round =>
        obtain ⟨j, hj1, hj2, rfl, rfl⟩ := hrel
        have cb := Cal.cum_bd k j
        by_cases hm : j < m
        · have cs := Cal.cum_succ k j (by omega) (by omega) (by omega) (by omega)
          have mb := Cal.md_bd k j
          have CS := Lib.hid cs
          clear cs
          go_wp2_with (go_at_call 18; refine (rmd_c _ _ _).mono ?_; rintro e w' ⟨rfl, rfl⟩)
          go_round
          case rel => exact ⟨j + 1, by omega, by omega, by go_num, by rw [CS.out]; go_num⟩
          case measure => simp [intOf]; omega
        · obtain rfl : j = m := by omega
          go_wp2
          go_ret
          exact ⟨rfl, rfl⟩
theorem rbefore1_c (y : Int) (w : World) (h1 : 2000 ≤ y) (h2 : y ≤ 2100) : Calls Try.prog 46 #[.int .i64 y, .int .i64 1] w fun e w' => e = .returned (.int .i64 (Cal.jan y)) ∧ w = w' := by
  refine (rbefore_c y 1 w h1 h2 (by omega) (by omega) (by omega)).mono ?_
  rintro e w' ⟨rfl, rfl⟩
  exact ⟨ret_int (by rw [Cal.cum_1, Int.add_zero]), rfl⟩

set_option maxHeartbeats 1000000 in
theorem rdays_c (y m d : Int) (w : World) : Calls Try.prog 20 #[.int .i64 y, .int .i64 m, .int .i64 d] w fun e w' => e = .returned (.tuple #[.int .i64 (Cal.daysV y m d), .int .i64 (Cal.daysE y m d)]) ∧ w = w' := by
  by_cases h1 : y < 2000
  · obtain ⟨e1, e2⟩ := days_bad1 y m d (by omega)
    rw [e1, e2]; clear e1 e2
    go_enter Try.func20, Try.ntmps20
    go_wp2
    go_ret2
    exact ⟨rfl, rfl⟩
  · by_cases h2 : 2099 < y
    · obtain ⟨e1, e2⟩ := days_bad1 y m d (by omega)
      rw [e1, e2]; clear e1 e2
      go_enter Try.func20, Try.ntmps20
      go_wp2
      go_ret2
      exact ⟨rfl, rfl⟩
    · by_cases h3 : m < 1
      · obtain ⟨e1, e2⟩ := days_bad2 y m d (by omega) (by have := Cal.md_out y m (by omega); omega)
        rw [e1, e2]; clear e1 e2
        go_enter Try.func20, Try.ntmps20
        go_wp2
        go_ret2
        exact ⟨rfl, rfl⟩
      · by_cases h4 : 12 < m
        · obtain ⟨e1, e2⟩ := days_bad2 y m d (by omega) (by have := Cal.md_out y m (by omega); omega)
          rw [e1, e2]; clear e1 e2
          go_enter Try.func20, Try.ntmps20
          go_wp2
          go_ret2
          exact ⟨rfl, rfl⟩
        · by_cases h5 : d < 1
          · obtain ⟨e1, e2⟩ := days_bad2 y m d (by omega) (by omega)
            rw [e1, e2]; clear e1 e2
            go_enter Try.func20, Try.ntmps20
            go_wp2
            go_ret2
            exact ⟨rfl, rfl⟩
          · have hb := Cal.md_bd y m
            by_cases h6 : Cal.md y m < d
            · obtain ⟨e1, e2⟩ := days_bad2 y m d (by omega) (by omega)
              rw [e1, e2]; clear e1 e2
              go_enter Try.func20, Try.ntmps20
              go_wp2_with (go_at_call 18; refine (rmd_c _ _ _).mono ?_; rintro e w' ⟨rfl, rfl⟩)
              go_ret2
              exact ⟨rfl, rfl⟩
            · obtain ⟨e1, e2⟩ := days_good y m d (by omega) (by omega)
              rw [e1, e2]; clear e1 e2
              have hj := Cal.jan_bd y (by omega) (by omega)
              have hc := Cal.cum_bd y m
              go_enter Try.func20, Try.ntmps20
              go_wp2_with (first | (go_at_call 18; refine (rmd_c _ _ _).mono ?_; rintro e w' ⟨rfl, rfl⟩) | (go_at_call 46; refine (rbefore_c _ _ _ (by omega) (by omega) (by omega) (by omega) (by omega)).mono ?_; rintro e w' ⟨rfl, rfl⟩))
              go_ret2
              exact ⟨ret_ints (by omega) rfl, rfl⟩

theorem rdate_no (day : Int) (w : World) (h : day < 0 ∨ 36524 < day) : Calls Try.prog 53 #[.int .i64 day] w fun e w' => e = .returned (.tuple #[.int .i64 0, .int .i64 0, .int .i64 0, .int .i64 2]) ∧ w = w' := by
  rcases h with h | h
  · go_enter Try.func53, Try.ntmps53
    go_wp2
    refine bodyPost_ret (results4 rfl _ _ _) rfl ?_
    exact ⟨rfl, rfl⟩
  · have h' : ¬ day < 0 := by omega
    go_enter Try.func53, Try.ntmps53
    go_wp2
    refine bodyPost_ret (results4 rfl _ _ _) rfl ?_
    exact ⟨rfl, rfl⟩

set_option maxHeartbeats 2000000 in
theorem rdate_yes (day : Int) (w : World) (h1 : 0 ≤ day) (h2 : day ≤ 36524) :
    Calls Try.prog 53 #[.int .i64 day] w fun e w' => e = .returned (.tuple #[.int .i64 (Cal.yr day), .int .i64 (Cal.mo day), .int .i64 (Cal.dom day), .int .i64 0]) ∧ w = w' := by
  obtain ⟨hy1, hy2, hy3, hy4, hy5⟩ := Cal.yr_bd day h1 h2
  clear hy5
  go_enter Try.func53, Try.ntmps53
  go_wp2
  go_loop [6] (fun t => ∃ y : Int, 2000 ≤ y ∧ y ≤ Cal.yr day ∧ t = .int .i64 y) (fun t => (Cal.yr day - intOf t).toNat)
  case atStart => exact ⟨2000, by omega, by omega, rfl⟩
  case round =>
    obtain ⟨y, hk1, hk2, rfl⟩ := hrel
    by_cases hlt : y < Cal.yr day
    · have hj := Cal.jan_lt day y h1 h2 hlt
      go_wp2_with (go_at_call 46; refine (rbefore1_c _ _ (by omega) (by omega)).mono ?_; rintro e w' ⟨rfl, rfl⟩)
      go_round
      case rel => exact ⟨y + 1, by omega, by omega, by go_num⟩
      case measure => simp [intOf]; omega
    · obtain rfl : y = Cal.yr day := by omega
      have hjb := Cal.jan_bd (Cal.yr day) (by omega) (by omega)
      have hda : Cal.doy day = day - Cal.jan (Cal.yr day) := rfl
      have HDA := Lib.hid hda
      clear hda
      by_cases h99 : Cal.yr day < 2099
      all_goals
        go_wp2_with (go_at_call 46; refine (rbefore1_c _ _ (by omega) (by omega)).mono ?_; rintro e w' ⟨rfl, rfl⟩)
        go_loop [7] (fun m => ∃ k : Int, 1 ≤ k ∧ k ≤ Cal.mo day ∧ m = .int .i64 k) (fun m => (12 - intOf m).toNat)
        case atStart =>
          have := Cal.mo_bd day
          exact ⟨1, by omega, by omega, rfl⟩
        case round =>
          obtain ⟨k, hq1, hq2, rfl⟩ := hrel
          have mb := Cal.mo_bd day
          have cb := Cal.cum_bd (Cal.yr day) k
          have cb1 := Cal.cum_bd (Cal.yr day) (k + 1)
          by_cases hk : k < Cal.mo day
          · have ml := Cal.month_less day k h1 h2 (by omega) (by omega)
            rw [HDA.out] at ml
            have ml2 : Cal.jan (Cal.yr day) + Cal.cum (Cal.yr day) (k + 1) ≤ day := by omega
            clear ml
            go_wp2_with (go_at_call 46; refine (rbefore_c _ _ _ (by omega) (by omega) (by omega) (by omega) (by omega)).mono ?_; rintro e w' ⟨rfl, rfl⟩)
            go_round
            case rel => exact ⟨k + 1, by omega, by omega, by go_num⟩
            case measure => simp [intOf]; omega
          · obtain rfl : k = Cal.mo day := by omega
            have mc := Cal.mo_cum day h1 h2
            rw [HDA.out] at mc
            have hge : day < Cal.jan (Cal.yr day) + Cal.cum (Cal.yr day) (Cal.mo day + 1) := by omega
            have hlo : Cal.jan (Cal.yr day) + Cal.cum (Cal.yr day) (Cal.mo day) ≤ day := by omega
            clear mc
            by_cases h12 : Cal.mo day < 12
            all_goals
              go_wp2_with (go_at_call 46; refine (rbefore_c _ _ _ (by omega) (by omega) (by omega) (by omega) (by omega)).mono ?_; rintro e w' ⟨rfl, rfl⟩)
              refine bodyPost_ret (results4 rfl _ _ _) rfl ?_
              exact ⟨ret_ints4 rfl rfl (by unfold Cal.dom; rw [HDA.out]; omega) rfl, rfl⟩

theorem rsplit_c (t : Int) (w : World) (ht : t ≤ 9223372036854775807) : Calls Try.prog 27 #[.int .i64 t] w fun e w' => e = .returned (.tuple #[.int .i64 (Cal.spA t), .int .i64 (Cal.spB t), .int .i64 (Cal.spE t)]) ∧ w = w' := by
  obtain ⟨sy, sn⟩ := split_vals t
  by_cases h1 : t < 0
  · obtain ⟨e1, e2, e3⟩ := sn (Cal.sp_no t (by omega))
    rw [e1, e2, e3]
    clear sy sn e1 e2 e3
    go_enter Try.func27, Try.ntmps27
    go_wp2
    go_ret3
    exact ⟨rfl, rfl⟩
  · by_cases h2 : 36524 < t / 144000
    · obtain ⟨e1, e2, e3⟩ := sn (Cal.sp_no t (by omega))
      rw [e1, e2, e3]
      clear sy sn e1 e2 e3
      go_enter Try.func27, Try.ntmps27
      go_wp2
      go_ret3
      exact ⟨rfl, rfl⟩
    · obtain ⟨e1, e2, e3⟩ := sy (Cal.sp_yes t (by omega) (by omega))
      rw [e1, e2, e3]
      clear sy sn e1 e2 e3
      go_enter Try.func27, Try.ntmps27
      go_wp2
      go_ret3
      exact ⟨rfl, rfl⟩

set_option maxHeartbeats 800000 in
theorem rjoin_c (d c : Int) (w : World) : Calls Try.prog 29 #[.int .i64 d, .int .i64 c] w fun e w' => e = .returned (.tuple #[.int .i64 (Cal.jnV d c), .int .i64 (Cal.jnE d c)]) ∧ w = w' := by
  obtain ⟨sy, sn⟩ := join_vals d c
  by_cases h : 0 ≤ d ∧ d ≤ 36524 ∧ 0 ≤ c ∧ c < 144000
  · obtain ⟨e1, e2⟩ := sy (Cal.jn_yes d c h)
    obtain ⟨h1, h2, h3, h4⟩ := h
    rw [e1, e2]
    clear sy sn e1 e2
    go_enter Try.func29, Try.ntmps29
    go_wp2
    go_ret2
    exact ⟨rfl, rfl⟩
  · obtain ⟨e1, e2⟩ := sn (Cal.jn_no d c h)
    rw [e1, e2]
    clear sy sn e1 e2
    by_cases h1 : d < 0
    · go_enter Try.func29, Try.ntmps29
      go_wp2
      go_ret2
      exact ⟨rfl, rfl⟩
    · by_cases h2 : 36524 < d
      · go_enter Try.func29, Try.ntmps29
        go_wp2
        go_ret2
        exact ⟨rfl, rfl⟩
      · by_cases h3 : c < 0
        · go_enter Try.func29, Try.ntmps29
          go_wp2
          go_ret2
          exact ⟨rfl, rfl⟩
        · have h4 : 144000 ≤ c := by omega
          go_enter Try.func29, Try.ntmps29
          go_wp2
          go_ret2
          exact ⟨rfl, rfl⟩

set_option maxHeartbeats 1000000 in
theorem rnof_c (f : Int) (w : World) (h1 : 26 ≤ f) (h2 : f ≤ 36524) (h3 : f % 28 = 26) : Calls Try.prog 48 #[.int .i64 f] w fun e w' => e = .returned (.int .i64 (Cal.nof f)) ∧ w = w' := by
  obtain ⟨p1, p2, p3, p4, p5, p6⟩ := Cal.nof_parts f h1 h2 h3
  obtain ⟨q1, q2, q3, q4, q5⟩ := Cal.fo_bd (Cal.yr f) p1 p2
  have P5 := Lib.hid p5
  have P6 := Lib.hid p6
  have H3 := Lib.hid h3
  have Q4 := Lib.hid q4
  clear p5 p6 h3 q4
  go_enter Try.func48, Try.ntmps48
  go_wp2_with (go_at_call 53; refine (rdate_yes _ _ (by omega) (by omega)).mono ?_; rintro e w' ⟨rfl, rfl⟩)
  go_loop [7, 8] (fun n x => ∃ k : Int, 1 ≤ k ∧ Cal.fo (Cal.yr f) ≤ f - 28 * (k - 1) ∧ n = .int .i64 k ∧ x = .int .i64 (f - 28 * k)) (fun _ x => (intOf x + 28).toNat)
  case atStart => exact ⟨1, by omega, by omega, rfl, by go_num⟩
  case round =>
    obtain ⟨k, hk1, hk2, rfl, rfl⟩ := hrel
    by_cases hc : Cal.fo (Cal.yr f) ≤ f - 28 * k
    · go_wp2_with (go_at_call 46; refine (rbefore1_c _ _ (by omega) (by omega)).mono ?_; rintro e w' ⟨rfl, rfl⟩)
      go_round
      case rel => exact ⟨k + 1, by omega, by omega, by go_num, by go_num⟩
      case measure => simp [intOf]; omega
    · have hfin : (Cal.yr f - 2000) * 100 + k = Cal.nof f := by
        have := P5.out
        have := P6.out
        omega
      have HF := Lib.hid hfin
      clear hfin
      by_cases h26 : 26 ≤ f - 28 * k
      · have hj : f - 28 * k < Cal.jan (Cal.yr f) := by
          rcases Int.lt_or_le (f - 28 * k) (Cal.jan (Cal.yr f)) with h | h
          · exact h
          · exfalso
            have := H3.out
            have := Cal.fo_le (Cal.yr f) (f - 28 * k) h h26 (by omega)
            omega
        go_wp2_with (go_at_call 46; refine (rbefore1_c _ _ (by omega) (by omega)).mono ?_; rintro e w' ⟨rfl, rfl⟩)
        go_ret
        exact ⟨ret_int HF.out, rfl⟩
      · go_wp2_with (go_at_call 46; refine (rbefore1_c _ _ (by omega) (by omega)).mono ?_; rintro e w' ⟨rfl, rfl⟩)
        go_ret
        exact ⟨ret_int HF.out, rfl⟩

theorem rcycle_yes (day : Int) (w : World) (h1 : 26 ≤ day) (h2 : day ≤ 36524) : Calls Try.prog 24 #[.int .i64 day] w fun e w' =>
    e = .returned (.tuple #[.int .i64 (Cal.nof (Cal.cyF day)), .int .i64 (Cal.cyF day), .int .i64 (Cal.cyF day + 28), .int .i64 0]) ∧ w = w' := by
  obtain ⟨p1, p2, p3, p4, p5⟩ := Cal.cyF_parts day h1 h2
  have P3 := Lib.hid p3
  clear p3
  go_enter Try.func24, Try.ntmps24
  go_wp2_with (go_at_call 48; refine (rnof_c (Cal.cyF day) _ (by omega) (by omega) P3.out).mono ?_; rintro e w' ⟨rfl, rfl⟩)
  refine bodyPost_ret (results4 rfl _ _ _) rfl ?_
  exact ⟨rfl, rfl⟩
theorem rcycle_no (day : Int) (w : World) (h : day < 26 ∨ 36524 < day) : Calls Try.prog 24 #[.int .i64 day] w fun e w' => e = .returned (.tuple #[.int .i64 0, .int .i64 0, .int .i64 0, .int .i64 2]) ∧ w = w' := by
  rcases h with h | h
  · go_enter Try.func24, Try.ntmps24
    go_wp2
    refine bodyPost_ret (results4 rfl _ _ _) rfl ?_
    exact ⟨rfl, rfl⟩
  · have h' : ¬ day < 26 := by omega
    go_enter Try.func24, Try.ntmps24
    go_wp2
    refine bodyPost_ret (results4 rfl _ _ _) rfl ?_
    exact ⟨rfl, rfl⟩

theorem fo_is (y k : Int) (h1 : 26 ≤ k) (h2 : k % 28 = 26) (h3 : Cal.jan y ≤ k) (h4 : k < Cal.jan y + 28 ∨ k = 26) : k = Cal.fo y := by
  unfold Cal.fo; split <;> omega

set_option maxHeartbeats 2000000 in
theorem rcdays_c (n : Int) (w : World) : Calls Try.prog 40 #[.int .i64 n] w fun e w' => e = .returned (.tuple #[.int .i64 (Cal.cdA n), .int .i64 (Cal.cdB n), .int .i64 (Cal.cdE n)]) ∧ w = w' := by
  by_cases h1 : n < 0
  · obtain ⟨e1, e2, e3⟩ := Cal.cd_range n (by omega)
    rw [e1, e2, e3]
    clear e1 e2 e3
    go_enter Try.func40, Try.ntmps40
    go_wp2
    go_ret3
    exact ⟨rfl, rfl⟩
  · by_cases h2 : 9999 < n
    · obtain ⟨e1, e2, e3⟩ := Cal.cd_range n (by omega)
      rw [e1, e2, e3]
      clear e1 e2 e3
      go_enter Try.func40, Try.ntmps40
      go_wp2
      go_ret3
      exact ⟨rfl, rfl⟩
    · obtain ⟨f1, f2, f3, f4, f5⟩ := Cal.fo_bd (2000 + n / 100) (by omega) (by omega)
      clear f4
      have hj := Cal.jan_bd (2000 + n / 100) (by omega) (by omega)
      go_enter Try.func40, Try.ntmps40
      go_wp2_with (go_at_call 46; refine (rbefore1_c _ _ (by omega) (by omega)).mono ?_; rintro e w' ⟨rfl, rfl⟩)
      go_loop [7] (fun x => ∃ k : Int, 26 ≤ k ∧ k < Cal.jan (2000 + n / 100) + 28 + 26 ∧ Hid (k % 28 = 26 ∧ (k < Cal.jan (2000 + n / 100) + 28 ∨ k = 26)) ∧ x = .int .i64 k) (fun x => (Cal.jan (2000 + n / 100) - intOf x).toNat)
      case atStart => exact ⟨26, by omega, by omega, Lib.hid ⟨by omega, by omega⟩, rfl⟩
      case round =>
        obtain ⟨k, hk1, hk2, hk3, rfl⟩ := hrel
        by_cases hc : k < Cal.jan (2000 + n / 100)
        · go_wp2
          go_round
          case rel => exact ⟨k + 28, by omega, by omega, Lib.hid ⟨by have := hk3.out; omega, by omega⟩, by go_num⟩
          case measure => simp [intOf]; omega
        · have hkf := fo_is (2000 + n / 100) k hk1 hk3.out.1 (by omega) hk3.out.2
          subst hkf
          clear hk3
          by_cases h3 : n % 100 < 1
          · have HE := Lib.hid (Cal.cd_none n (by omega) (by omega) (Cal.cok_false n (by omega) (by omega) (by omega)))
            go_wp2
            go_ret3
            exact ⟨ret_ints3 HE.out.1.symm HE.out.2.1.symm HE.out.2.2.symm, rfl⟩
          · have hcf : Cal.fo (2000 + n / 100) + 28 * (n % 100 - 1) = Cal.cf n := by rw [cf_eq]; omega
            by_cases h4 : 36524 < Cal.fo (2000 + n / 100) + 28 * (n % 100 - 1)
            · have HE := Lib.hid (Cal.cd_none n (by omega) (by omega) (Cal.cok_false n (by omega) (by omega) (by omega)))
              clear hcf
              go_wp2_with (go_at_call 53; refine (rdate_no _ _ (by omega)).mono ?_; rintro e w' ⟨rfl, rfl⟩)
              go_ret3
              exact ⟨ret_ints3 HE.out.1.symm HE.out.2.1.symm HE.out.2.2.symm, rfl⟩
            · by_cases h5 : Cal.yr (Cal.fo (2000 + n / 100) + 28 * (n % 100 - 1)) = 2000 + n / 100
              · have HE := Lib.hid (Cal.cd_yes n (Cal.cok_true n (by omega) (by omega) (by omega) (by omega) (by rw [← hcf]; exact h5)))
                have h5' : (Cal.yr (Cal.fo (2000 + n / 100) + 28 * (n % 100 - 1)) != 2000 + n / 100) = false := by simpa using h5
                have HCF := Lib.hid hcf
                clear h5 hcf
                go_wp2_with (go_at_call 53; refine (rdate_yes _ _ (by omega) (by omega)).mono ?_; rintro e w' ⟨rfl, rfl⟩)
                go_ret3
                exact ⟨ret_ints3 (HCF.out.trans HE.out.1.symm) (by rw [HE.out.2.1, HCF.out]) HE.out.2.2.symm, rfl⟩
              · have HE := Lib.hid (Cal.cd_none n (by omega) (by omega) (Cal.cok_false n (by omega) (by omega) (Or.inr (Or.inr (by rw [← hcf]; exact h5)))))
                have h5' : (Cal.yr (Cal.fo (2000 + n / 100) + 28 * (n % 100 - 1)) != 2000 + n / 100) = true := by simpa using h5
                clear h5 hcf
                go_wp2_with (go_at_call 53; refine (rdate_yes _ _ (by omega) (by omega)).mono ?_; rintro e w' ⟨rfl, rfl⟩)
                go_ret3
                exact ⟨ret_ints3 HE.out.1.symm HE.out.2.1.symm HE.out.2.2.symm, rfl⟩

set_option maxHeartbeats 1000000 in
theorem rlater_c (number n : Int) (w : World) : Calls Try.prog 31 #[.int .i64 number, .int .i64 n] w fun e w' => e = .returned (.tuple #[.int .i64 (Cal.laV number n), .int .i64 (Cal.laE number n)]) ∧ w = w' := by
  obtain ⟨va, vb, vc⟩ := la_vals number n
  rcases hc : Cal.cok number with _ | _
  · obtain ⟨e1, e2⟩ := vc hc
    have hne := cdE_ne number hc
    rw [e1, e2]
    clear va vb vc e1 e2 hc
    go_enter Try.func31, Try.ntmps31
    go_wp2_with (go_at_call 40; refine (rcdays_c _ _).mono ?_; rintro e w' ⟨rfl, rfl⟩)
    go_ret2
    exact ⟨rfl, rfl⟩
  · obtain ⟨p1, p2, p3⟩ := Cal.cd_yes number hc
    obtain ⟨q1, q2, q3, q4, q5, q6, q7, q8⟩ := Cal.cok_parts number hc
    clear q3 q7 q8
    rcases hl : Cal.laOk number n with _ | _
    · obtain ⟨e1, e2⟩ := vb hc hl
      rw [e1, e2]
      clear va vb vc e1 e2 hc q6
      have hl' := of_decide_eq_false hl
      by_cases h1 : n < -2000
      · clear hl hl'
        go_enter Try.func31, Try.ntmps31
        go_wp2_with (go_at_call 40; refine (rcdays_c _ _).mono ?_; rintro e w' ⟨rfl, rfl⟩)
        go_ret2
        exact ⟨rfl, rfl⟩
      · by_cases h2 : 2000 < n
        · clear hl hl'
          go_enter Try.func31, Try.ntmps31
          go_wp2_with (go_at_call 40; refine (rcdays_c _ _).mono ?_; rintro e w' ⟨rfl, rfl⟩)
          go_ret2
          exact ⟨rfl, rfl⟩
        · by_cases h3 : Cal.cf number + 28 * n < 26
          · clear hl hl'
            go_enter Try.func31, Try.ntmps31
            go_wp2_with (go_at_call 40; refine (rcdays_c _ _).mono ?_; rintro e w' ⟨rfl, rfl⟩)
            go_ret2
            exact ⟨rfl, rfl⟩
          · have h4 : 36524 < Cal.cf number + 28 * n := by omega
            clear hl hl'
            go_enter Try.func31, Try.ntmps31
            go_wp2_with (go_at_call 40; refine (rcdays_c _ _).mono ?_; rintro e w' ⟨rfl, rfl⟩)
            go_ret2
            exact ⟨rfl, rfl⟩
    · obtain ⟨e1, e2⟩ := va hc hl
      rw [e1, e2]
      clear va vb vc e1 e2 hc
      have hl' := of_decide_eq_true hl
      obtain ⟨r1, r2, r3, r4⟩ := hl'
      have hm : (Cal.cf number + 28 * n) % 28 = 26 := by omega
      have HM := Lib.hid hm
      clear hm q6 hl
      go_enter Try.func31, Try.ntmps31
      go_wp2_with (first | (go_at_call 40; refine (rcdays_c _ _).mono ?_; rintro e w' ⟨rfl, rfl⟩) | (go_at_call 48; refine (rnof_c _ _ (by omega) (by omega) HM.out).mono ?_; rintro e w' ⟨rfl, rfl⟩))
      go_ret2
      exact ⟨rfl, rfl⟩

end Go.Proofs.Ytplbjbpdinmjeaa
