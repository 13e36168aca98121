/-
  The statements about numbers: Months, Days, Dates, Next, Cycles, Instants, Later: each walk returns true.
-/
import Derived.Test.YtplbjbpdinmjeaaW4
import Derived.Test.YtplbjbpdinmjeaaPlain3
namespace Go.Proofs.Ytplbjbpdinmjeaa
set_option linter.unusedVariables false
open Go.RowKit

theorem aw1 (w : World) : Calls Try.prog 19 #[.int .i64 2000, .int .i64 3, .int .i64 1] w fun e w' => e = .returned (.tuple #[.int .i64 60, .int .i64 0]) ∧ w = w' := by
  refine (days_c 2000 3 1 w).mono ?_; rintro e w' ⟨rfl, rfl⟩; exact ⟨ret_ints (by decide) (by decide), rfl⟩
theorem aw2 (w : World) : Calls Try.prog 19 #[.int .i64 2020, .int .i64 1, .int .i64 2] w fun e w' => e = .returned (.tuple #[.int .i64 7306, .int .i64 0]) ∧ w = w' := by
  refine (days_c 2020 1 2 w).mono ?_; rintro e w' ⟨rfl, rfl⟩; exact ⟨ret_ints (by decide) (by decide), rfl⟩
theorem aw3 (w : World) : Calls Try.prog 23 #[.int .i64 7306] w fun e w' => e = .returned (.tuple #[.int .i64 2001, .int .i64 7306, .int .i64 7334, .int .i64 0]) ∧ w = w' := by
  refine (cycle_yes 7306 w (by omega) (by omega)).mono ?_; rintro e w' ⟨rfl, rfl⟩; exact ⟨ret_ints4 (by decide) (by decide) (by decide) rfl, rfl⟩
theorem aw4 (w : World) : Calls Try.prog 22 #[.int .i64 0] w fun e w' => e = .returned (.int .i64 6) ∧ w = w' := by
  refine (wd_c 0 w).mono ?_; rintro e w' ⟨rfl, rfl⟩; exact ⟨ret_int (by decide), rfl⟩
theorem aw5 (w : World) : Calls Try.prog 22 #[.int .i64 60] w fun e w' => e = .returned (.int .i64 3) ∧ w = w' := by
  refine (wd_c 60 w).mono ?_; rintro e w' ⟨rfl, rfl⟩; exact ⟨ret_int (by decide), rfl⟩

theorem awake_c (w : World) : Calls Try.prog 14 #[] w fun e w' => e = .returned (.bool true) ∧ w = w' := by
  go_enter Try.func14, Try.ntmps14
  go_wp2_with (first
    | (go_at_call 19; (with_reducible refine (aw1 _).mono ?_); rintro e w' ⟨rfl, rfl⟩)
    | (go_at_call 19; (with_reducible refine (aw2 _).mono ?_); rintro e w' ⟨rfl, rfl⟩)
    | (go_at_call 23; (with_reducible refine (aw3 _).mono ?_); rintro e w' ⟨rfl, rfl⟩)
    | (go_at_call 22; (with_reducible refine (aw4 _).mono ?_); rintro e w' ⟨rfl, rfl⟩)
    | (go_at_call 22; (with_reducible refine (aw5 _).mono ?_); rintro e w' ⟨rfl, rfl⟩))
  go_ret
  exact ⟨rfl, rfl⟩

theorem law_months (y m : Int) (w : World) : Calls Try.prog 3 #[.int .i64 y, .int .i64 m] w fun e w' => e = .returned (.bool true) ∧ w = w' := by
  go_enter Try.func3, Try.ntmps3
  go_wp2_with (first
    | (go_at_call 14; refine (awake_c _).mono ?_; rintro e w' ⟨rfl, rfl⟩)
    | (go_at_call 15; refine (leap_c _ _).mono ?_; rintro e w' ⟨rfl, rfl⟩)
    | (go_at_call 16; refine (rleap_c _ _).mono ?_; rintro e w' ⟨rfl, rfl⟩)
    | (go_at_call 17; refine (md_c _ _ _).mono ?_; rintro e w' ⟨rfl, rfl⟩)
    | (go_at_call 18; refine (rmd_c _ _ _).mono ?_; rintro e w' ⟨rfl, rfl⟩))
  go_ret
  exact ⟨rfl, rfl⟩

theorem law_days (y m d : Int) (w : World) : Calls Try.prog 4 #[.int .i64 y, .int .i64 m, .int .i64 d] w fun e w' => e = .returned (.bool true) ∧ w = w' := by
  go_enter Try.func4, Try.ntmps4
  go_wp2_with (first
    | (go_at_call 14; refine (awake_c _).mono ?_; rintro e w' ⟨rfl, rfl⟩)
    | (go_at_call 19; refine (days_c _ _ _ _).mono ?_; rintro e w' ⟨rfl, rfl⟩)
    | (go_at_call 20; refine (rdays_c _ _ _ _).mono ?_; rintro e w' ⟨rfl, rfl⟩))
  go_ret
  exact ⟨rfl, rfl⟩

theorem law_dates (day : Int) (w : World) : Calls Try.prog 5 #[.int .i64 day] w fun e w' => e = .returned (.bool true) ∧ w = w' := by
  by_cases h : day < 0 ∨ 36524 < day
  · rcases h with h | h
    · go_enter Try.func5, Try.ntmps5
      go_wp2_with (first
        | (go_at_call 14; refine (awake_c _).mono ?_; rintro e w' ⟨rfl, rfl⟩)
        | (go_at_call 21; refine (date_no _ _ (by omega)).mono ?_; rintro e w' ⟨rfl, rfl⟩))
      go_ret
      exact ⟨rfl, rfl⟩
    · have h' : ¬ day < 0 := by omega
      go_enter Try.func5, Try.ntmps5
      go_wp2_with (first
        | (go_at_call 14; refine (awake_c _).mono ?_; rintro e w' ⟨rfl, rfl⟩)
        | (go_at_call 21; refine (date_no _ _ (by omega)).mono ?_; rintro e w' ⟨rfl, rfl⟩))
      go_ret
      exact ⟨rfl, rfl⟩
  · have h1 : 0 ≤ day := by omega
    have h2 : day ≤ 36524 := by omega
    obtain ⟨e1, e2⟩ := Cal.days_date day h1 h2
    have hd := Cal.dom_bd day h1 h2
    have hdays : ∀ w : World, Calls Try.prog 19 #[.int .i64 (Cal.yr day), .int .i64 (Cal.mo day), .int .i64 (Cal.dom day)] w fun e w' => e = .returned (.tuple #[.int .i64 day, .int .i64 0]) ∧ w = w' := by
      intro w
      refine (days_c _ _ _ w).mono ?_
      rw [e1, e2]
      exact fun _ _ h => h
    have HD := Lib.hid hdays
    clear hdays e1 e2 h
    go_enter Try.func5, Try.ntmps5
    go_wp2_with (first
      | (go_at_call 14; refine (awake_c _).mono ?_; rintro e w' ⟨rfl, rfl⟩)
      | (go_at_call 21; refine (date_yes _ _ (by omega) (by omega)).mono ?_; rintro e w' ⟨rfl, rfl⟩)
      | (go_at_call 19; refine (HD.out _).mono ?_; rintro e w' ⟨rfl, rfl⟩)
      | (go_at_call 17; refine (md_c _ _ _).mono ?_; rintro e w' ⟨rfl, rfl⟩))
    go_ret
    exact ⟨rfl, rfl⟩

set_option maxHeartbeats 1000000 in
theorem law_next (day : Int) (w : World) : Calls Try.prog 6 #[.int .i64 day] w fun e w' => e = .returned (.bool true) ∧ w = w' := by
  by_cases h : day < 0 ∨ 36524 ≤ day
  · rcases h with h | h
    · have e1 := Cal.wd_no day (by omega)
      have e2 : (day != 36524) = true := by rw [bne_iff_ne]; omega
      go_enter Try.func6, Try.ntmps6
      go_wp2_with (first
        | (go_at_call 14; refine (awake_c _).mono ?_; rintro e w' ⟨rfl, rfl⟩)
        | (go_at_call 22; refine (wd_c _ _).mono ?_; rintro e w' ⟨rfl, rfl⟩))
      go_ret
      exact ⟨rfl, rfl⟩
    · have h' : ¬ day < 0 := by omega
      by_cases h3 : day = 36524
      · subst h3
        have e1 : Cal.wd 36524 = 4 := by decide
        go_enter Try.func6, Try.ntmps6
        go_wp2_with (first
          | (go_at_call 14; refine (awake_c _).mono ?_; rintro e w' ⟨rfl, rfl⟩)
          | (go_at_call 22; refine (wd_c _ _).mono ?_; rintro e w' ⟨rfl, rfl⟩))
        go_ret
        exact ⟨rfl, rfl⟩
      · have e1 := Cal.wd_no day (by omega)
        have e2 : (day != 36524) = true := by rw [bne_iff_ne]; omega
        clear h3
        go_enter Try.func6, Try.ntmps6
        go_wp2_with (first
          | (go_at_call 14; refine (awake_c _).mono ?_; rintro e w' ⟨rfl, rfl⟩)
          | (go_at_call 22; refine (wd_c _ _).mono ?_; rintro e w' ⟨rfl, rfl⟩))
        go_ret
        exact ⟨rfl, rfl⟩
  · have h1 : 0 ≤ day := by omega
    have h2 : day < 36524 := by omega
    clear h
    have hw := Cal.wd_next day h1 h2
    have hp := Cal.wd_pos day h1 (by omega)
    have hw2 : (Cal.wd day % 7 + 1 != Cal.wd (day + 1)) = false := by simpa using hw
    have hd := Cal.dom_bd day h1 (by omega)
    have hm := Cal.md_bd (Cal.yr day) (Cal.mo day)
    have hmo := Cal.mo_bd day
    have hy := Cal.yr_bd day h1 (by omega)
    obtain ⟨hy1, hy2, hy3, hy4, hy5⟩ := hy
    clear hw hy3 hy4 hy5
    by_cases c1 : Cal.dom day < Cal.md (Cal.yr day) (Cal.mo day)
    · obtain ⟨n1, n2, n3⟩ := Cal.next_same day h1 h2 c1
      go_enter Try.func6, Try.ntmps6
      go_wp2_with (first
        | (go_at_call 14; refine (awake_c _).mono ?_; rintro e w' ⟨rfl, rfl⟩)
        | (go_at_call 22; refine (wd_c _ _).mono ?_; rintro e w' ⟨rfl, rfl⟩)
        | (go_at_call 17; refine (md_c _ _ _).mono ?_; rintro e w' ⟨rfl, rfl⟩)
        | (go_at_call 21; refine (date_yes _ _ (by omega) (by omega)).mono ?_; rintro e w' ⟨rfl, rfl⟩))
      go_ret
      exact ⟨rfl, rfl⟩
    · by_cases c2 : Cal.mo day < 12
      · obtain ⟨n1, n2, n3⟩ := Cal.next_month day h1 h2 c1 c2
        go_enter Try.func6, Try.ntmps6
        go_wp2_with (first
          | (go_at_call 14; refine (awake_c _).mono ?_; rintro e w' ⟨rfl, rfl⟩)
          | (go_at_call 22; refine (wd_c _ _).mono ?_; rintro e w' ⟨rfl, rfl⟩)
          | (go_at_call 17; refine (md_c _ _ _).mono ?_; rintro e w' ⟨rfl, rfl⟩)
          | (go_at_call 21; refine (date_yes _ _ (by omega) (by omega)).mono ?_; rintro e w' ⟨rfl, rfl⟩))
        go_ret
        exact ⟨rfl, rfl⟩
      · obtain ⟨n1, n2, n3⟩ := Cal.next_year day h1 h2 c1 c2
        go_enter Try.func6, Try.ntmps6
        go_wp2_with (first
          | (go_at_call 14; refine (awake_c _).mono ?_; rintro e w' ⟨rfl, rfl⟩)
          | (go_at_call 22; refine (wd_c _ _).mono ?_; rintro e w' ⟨rfl, rfl⟩)
          | (go_at_call 17; refine (md_c _ _ _).mono ?_; rintro e w' ⟨rfl, rfl⟩)
          | (go_at_call 21; refine (date_yes _ _ (by omega) (by omega)).mono ?_; rintro e w' ⟨rfl, rfl⟩))
        go_ret
        exact ⟨rfl, rfl⟩

set_option maxHeartbeats 1000000 in
theorem law_cycles (day : Int) (w : World) : Calls Try.prog 7 #[.int .i64 day] w fun e w' => e = .returned (.bool true) ∧ w = w' := by
  by_cases h : day < 26 ∨ 36524 < day
  · have H := Lib.hid h
    clear h
    go_enter Try.func7, Try.ntmps7
    go_wp2_with (first
      | (go_at_call 14; refine (awake_c _).mono ?_; rintro e w' ⟨rfl, rfl⟩)
      | (go_at_call 23; refine (cycle_no _ _ H.out).mono ?_; rintro e w' ⟨rfl, rfl⟩)
      | (go_at_call 24; refine (rcycle_no _ _ H.out).mono ?_; rintro e w' ⟨rfl, rfl⟩))
    go_ret
    exact ⟨rfl, rfl⟩
  · obtain ⟨p1, p2, p3, p4, p5⟩ := Cal.cyF_parts day (by omega) (by omega)
    have k1 := Cal.cok_nof (Cal.cyF day) p1 p2 p3
    have k2 := Cal.cf_nof (Cal.cyF day) p1 p2 p3
    obtain ⟨d1, d2, d3⟩ := Cal.cd_yes _ k1
    rw [k2] at d1 d2
    have hcd : ∀ w : World, Calls Try.prog 25 #[.int .i64 (Cal.nof (Cal.cyF day))] w fun e w' => e = .returned (.tuple #[.int .i64 (Cal.cyF day), .int .i64 (Cal.cyF day + 28), .int .i64 0]) ∧ w = w' := by
      intro w
      refine (cdays_c _ w).mono ?_
      rw [d1, d2, d3]
      exact fun _ _ h => h
    have HD := Lib.hid hcd
    clear hcd d1 d2 d3 k1 k2 p3
    have h1 : 26 ≤ day := by omega
    have h2 : day ≤ 36524 := by omega
    clear h
    go_enter Try.func7, Try.ntmps7
    go_wp2_with (first
      | (go_at_call 14; refine (awake_c _).mono ?_; rintro e w' ⟨rfl, rfl⟩)
      | (go_at_call 23; refine (cycle_yes _ _ (by omega) (by omega)).mono ?_; rintro e w' ⟨rfl, rfl⟩)
      | (go_at_call 24; refine (rcycle_yes _ _ (by omega) (by omega)).mono ?_; rintro e w' ⟨rfl, rfl⟩)
      | (go_at_call 25; refine (HD.out _).mono ?_; rintro e w' ⟨rfl, rfl⟩))
    go_ret
    exact ⟨ret_bool (by simp; omega), rfl⟩

set_option maxHeartbeats 1000000 in
theorem law_instants (t d c : Int) (w : World) (ht : t ≤ 9223372036854775807) : Calls Try.prog 8 #[.int .i64 t, .int .i64 d, .int .i64 c] w fun e w' => e = .returned (.bool true) ∧ w = w' := by
  obtain ⟨sy, sn⟩ := split_vals t
  rcases hs : Cal.spOk t with _ | _
  · obtain ⟨e1, e2, e3⟩ := sn hs
    have HT := Lib.hid ht
    clear sy sn hs ht
    go_enter Try.func8, Try.ntmps8
    go_wp2_with (first
      | (go_at_call 14; refine (awake_c _).mono ?_; rintro e w' ⟨rfl, rfl⟩)
      | (go_at_call 26; refine (split_c _ _ HT.out).mono ?_; rintro e w' ⟨rfl, rfl⟩)
      | (go_at_call 27; refine (rsplit_c _ _ HT.out).mono ?_; rintro e w' ⟨rfl, rfl⟩)
      | (go_at_call 28; refine (join_c _ _ _).mono ?_; rintro e w' ⟨rfl, rfl⟩)
      | (go_at_call 29; refine (rjoin_c _ _ _).mono ?_; rintro e w' ⟨rfl, rfl⟩))
    go_ret
    exact ⟨rfl, rfl⟩
  · obtain ⟨e1, e2, e3⟩ := sy hs
    have hp := of_decide_eq_true hs
    obtain ⟨jy, jn⟩ := join_vals (t / 144000) (t % 144000)
    obtain ⟨j1, j2⟩ := jy (Cal.jn_yes _ _ (by omega))
    have j1' : Cal.jnV (t / 144000) (t % 144000) = t := by rw [j1]; omega
    have HT := Lib.hid ht
    clear sy sn hs ht jy jn hp j1
    go_enter Try.func8, Try.ntmps8
    go_wp2_with (first
      | (go_at_call 14; refine (awake_c _).mono ?_; rintro e w' ⟨rfl, rfl⟩)
      | (go_at_call 26; refine (split_c _ _ HT.out).mono ?_; rintro e w' ⟨rfl, rfl⟩)
      | (go_at_call 27; refine (rsplit_c _ _ HT.out).mono ?_; rintro e w' ⟨rfl, rfl⟩)
      | (go_at_call 28; refine (join_c _ _ _).mono ?_; rintro e w' ⟨rfl, rfl⟩)
      | (go_at_call 29; refine (rjoin_c _ _ _).mono ?_; rintro e w' ⟨rfl, rfl⟩))
    go_ret
    exact ⟨rfl, rfl⟩

theorem laE_ne (number n : Int) (h : ¬ (Cal.cok number = true ∧ Cal.laOk number n = true)) : (Cal.laE number n != 0) = true := by
  obtain ⟨va, vb, vc⟩ := la_vals number n
  rcases hc : Cal.cok number with _ | _
  · rw [(vc hc).2]; exact cdE_ne number hc
  · rcases hl : Cal.laOk number n with _ | _
    · rw [(vb hc hl).2]; rfl
    · exact absurd ⟨hc, hl⟩ h

set_option maxHeartbeats 1000000 in
theorem law_later (number n : Int) (w : World) : Calls Try.prog 9 #[.int .i64 number, .int .i64 n] w fun e w' => e = .returned (.bool true) ∧ w = w' := by
  by_cases h : Cal.cok number = true ∧ Cal.laOk number n = true
  · obtain ⟨hc, hl⟩ := h
    obtain ⟨va, vb, vc⟩ := la_vals number n
    obtain ⟨e1, e2⟩ := va hc hl
    obtain ⟨p1, p2, p3⟩ := Cal.cd_yes number hc
    obtain ⟨q1, q2, q3, q4⟩ := Cal.later_back number n hc hl
    have hp := of_decide_eq_true hl
    have hb := Cal.cok_parts number hc
    have hla : ∀ w : World, Calls Try.prog 30 #[.int .i64 number, .int .i64 n] w fun e w' => e = .returned (.tuple #[.int .i64 (Cal.nof (Cal.cf number + 28 * n)), .int .i64 0]) ∧ w = w' := by
      intro w
      refine (later_c _ _ w).mono ?_
      rw [e1, e2]
      exact fun _ _ h => h
    have hla2 : ∀ w : World, Calls Try.prog 31 #[.int .i64 number, .int .i64 n] w fun e w' => e = .returned (.tuple #[.int .i64 (Cal.nof (Cal.cf number + 28 * n)), .int .i64 0]) ∧ w = w' := by
      intro w
      refine (rlater_c _ _ w).mono ?_
      rw [e1, e2]
      exact fun _ _ h => h
    have hla3 : ∀ w : World, Calls Try.prog 30 #[.int .i64 (Cal.nof (Cal.cf number + 28 * n)), .int .i64 (-n)] w fun e w' => e = .returned (.tuple #[.int .i64 number, .int .i64 0]) ∧ w = w' := by
      intro w
      refine (later_c _ _ w).mono ?_
      obtain ⟨r1, r2⟩ := (la_vals (Cal.nof (Cal.cf number + 28 * n)) (-n)).1 q1 q3
      rw [r1, r2, q4]
      exact fun _ _ h => h
    have hd1 : ∀ w : World, Calls Try.prog 25 #[.int .i64 number] w fun e w' => e = .returned (.tuple #[.int .i64 (Cal.cf number), .int .i64 (Cal.cf number + 28), .int .i64 0]) ∧ w = w' := by
      intro w
      refine (cdays_c _ w).mono ?_
      rw [p1, p2, p3]
      exact fun _ _ h => h
    have hd2 : ∀ w : World, Calls Try.prog 25 #[.int .i64 (Cal.nof (Cal.cf number + 28 * n))] w fun e w' => e = .returned (.tuple #[.int .i64 (Cal.cf number + 28 * n), .int .i64 (Cal.cf number + 28 * n + 28), .int .i64 0]) ∧ w = w' := by
      intro w
      refine (cdays_c _ w).mono ?_
      obtain ⟨r1, r2, r3⟩ := Cal.cd_yes _ q1
      rw [r1, r2, r3, q2]
      exact fun _ _ h => h
    have H1 := Lib.hid hla
    have H2 := Lib.hid hla2
    have H3 := Lib.hid hla3
    have H4 := Lib.hid hd1
    have H5 := Lib.hid hd2
    obtain ⟨g1, g2, g3, g4⟩ := hp
    obtain ⟨b1, b2, b3, b4, b5, b6, b7, b8⟩ := hb
    clear hla hla2 hla3 hd1 hd2 hc hl va vb vc e1 e2 p1 p2 p3 q1 q2 q3 q4 b6 b7 b8 b3
    go_enter Try.func9, Try.ntmps9
    go_wp2_with (first
      | (go_at_call 14; refine (awake_c _).mono ?_; rintro e w' ⟨rfl, rfl⟩)
      | (go_at_call 30; (with_reducible refine (H1.out _).mono ?_); rintro e w' ⟨rfl, rfl⟩)
      | (go_at_call 30; (with_reducible refine (H3.out _).mono ?_); rintro e w' ⟨rfl, rfl⟩)
      | (go_at_call 31; refine (H2.out _).mono ?_; rintro e w' ⟨rfl, rfl⟩)
      | (go_at_call 25; (with_reducible refine (H4.out _).mono ?_); rintro e w' ⟨rfl, rfl⟩)
      | (go_at_call 25; (with_reducible refine (H5.out _).mono ?_); rintro e w' ⟨rfl, rfl⟩))
    go_ret
    exact ⟨ret_bool (by first | (simp; done) | (simp; omega)), rfl⟩
  · have hne := laE_ne number n h
    clear h
    go_enter Try.func9, Try.ntmps9
    go_wp2_with (first
      | (go_at_call 14; refine (awake_c _).mono ?_; rintro e w' ⟨rfl, rfl⟩)
      | (go_at_call 30; refine (later_c _ _ _).mono ?_; rintro e w' ⟨rfl, rfl⟩)
      | (go_at_call 31; refine (rlater_c _ _ _).mono ?_; rintro e w' ⟨rfl, rfl⟩))
    go_ret
    exact ⟨rfl, rfl⟩

end Go.Proofs.Ytplbjbpdinmjeaa
