/-
  The statements about texts: Parses, Texts, Clocks, Numbers: each walk returns true.
-/
import Derived.Test.YtplbjbpdinmjeaaW8
namespace Go.Proofs.Ytplbjbpdinmjeaa
set_option linter.unusedVariables false
open Go.RowKit

theorem law_texts (day : Int) (w : World) : Calls Try.prog 11 #[.int .i64 day] w fun e w' => e = .returned (.bool true) ∧ Below w.heap.size w w' := by
  by_cases h : day < 0 ∨ 36524 < day
  · have H := Lib.hid h
    clear h
    go_enter Try.func11, Try.ntmps11
    go_wp2_with (first
      | (go_at_call 14; refine (awake_c _).mono ?_; rintro e w' ⟨rfl, rfl⟩)
      | (go_at_call 36; refine (datetext_no _ _ H.out).mono ?_; rintro e w' ⟨rfl, rfl⟩)
      | (go_at_call 37; refine (rdatetext_no _ _ H.out).mono ?_; rintro e w' ⟨rfl, rfl⟩))
    go_ret
    exact ⟨rfl, Below.refl _ _⟩
  · have h1 : 0 ≤ day := by omega
    have h2 : day ≤ 36524 := by omega
    obtain ⟨e1, e2, e3⟩ := Cal.date_back day h1 h2
    have hp : ∀ w : World, Calls Try.prog 32 #[.string (Cal.dateB day)] w fun e w' => e = .returned (.tuple #[.int .i64 day, .int .i64 0]) ∧ w = w' := by
      intro w
      refine (parsedate_c _ w (by rw [e3]; decide)).mono ?_
      rw [e1, e2]
      exact fun _ _ h => h
    have HP := Lib.hid hp
    clear hp e1 e2 e3 h
    go_enter Try.func11, Try.ntmps11
    go_wp2_with (first
      | (go_at_call 14; refine (awake_c _).mono ?_; rintro e w' ⟨rfl, rfl⟩)
      | (go_at_call 36; refine (datetext_yes _ _ (by omega) (by omega)).mono ?_; rintro e w1 ⟨rfl, hb⟩)
      | (go_at_call 37; refine (rdatetext_yes _ _ (by omega) (by omega)).mono ?_; rintro e w' ⟨rfl, rfl⟩)
      | (go_at_call 32; refine (HP.out _).mono ?_; rintro e w' ⟨rfl, rfl⟩))
    go_ret
    exact ⟨rfl, hb⟩

theorem law_clocks (c : Int) (w : World) : Calls Try.prog 12 #[.int .i64 c] w fun e w' => e = .returned (.bool true) ∧ Below w.heap.size w w' := by
  by_cases h : c < 0 ∨ 144000 ≤ c
  · have H := Lib.hid h
    clear h
    go_enter Try.func12, Try.ntmps12
    go_wp2_with (first
      | (go_at_call 14; refine (awake_c _).mono ?_; rintro e w' ⟨rfl, rfl⟩)
      | (go_at_call 38; refine (clocktext_no _ _ H.out).mono ?_; rintro e w' ⟨rfl, rfl⟩)
      | (go_at_call 39; refine (rclocktext_no _ _ H.out).mono ?_; rintro e w' ⟨rfl, rfl⟩))
    go_ret
    exact ⟨rfl, Below.refl _ _⟩
  · have h1 : 0 ≤ c := by omega
    have h2 : c < 144000 := by omega
    obtain ⟨e1, e2, e3⟩ := Cal.clock_back c h1 h2
    have hn : ∃ n : Int, 0 ≤ n ∧ n = c / 6000 * 6000 + c % 6000 / 100 * 100 ∧ n ≤ c ∧ c - n < 100 ∧ n % 100 = 0 := ⟨_, by omega, rfl, by omega, by omega, by omega⟩
    obtain ⟨n, n0, n1, n2, n3, n4⟩ := hn
    have hp : ∀ w : World, Calls Try.prog 34 #[.string (Cal.clockB c)] w fun e w' => e = .returned (.tuple #[.int .i64 n, .int .i64 0]) ∧ w = w' := by
      intro w
      refine (parseclock_c _ w (by rw [e3]; decide)).mono ?_
      rw [e1, e2, ← n1]
      exact fun _ _ h => h
    have HP := Lib.hid hp
    clear hp e1 e2 e3 h n1
    go_enter Try.func12, Try.ntmps12
    go_wp2_with (first
      | (go_at_call 14; refine (awake_c _).mono ?_; rintro e w' ⟨rfl, rfl⟩)
      | (go_at_call 38; refine (clocktext_yes _ _ (by omega) (by omega)).mono ?_; rintro e w1 ⟨rfl, hb⟩)
      | (go_at_call 39; refine (rclocktext_yes _ _ (by omega) (by omega)).mono ?_; rintro e w' ⟨rfl, rfl⟩)
      | (go_at_call 34; refine (HP.out _).mono ?_; rintro e w' ⟨rfl, rfl⟩))
    go_ret
    exact ⟨rfl, hb⟩

set_option maxHeartbeats 1000000 in
theorem law_parses (s : ByteArray) (w : World) (hs : s.size ≤ 9223372036854775807) : Calls Try.prog 10 #[.string s] w fun e w' => e = .returned (.bool true) ∧ Below w.heap.size w w' := by
  by_cases h : s.size ≤ 40
  · go_enter Try.func10, Try.ntmps10
    go_wp2_with (first
      | (go_at_call 14; refine (awake_c _).mono ?_; rintro e w' ⟨rfl, rfl⟩)
      | (go_at_call 32; refine (parsedate_c _ _ (by first | omega | (simp; done) | (simp; omega))).mono ?_; rintro e w' ⟨rfl, rfl⟩)
      | (go_at_call 33; refine (rparsedate_c _ _ (by first | omega | (simp; done) | (simp; omega))).mono ?_; rintro e w1 ⟨rfl, hb⟩)
      | (go_at_call 34; refine (parseclock_c _ _ (by first | omega | (simp; done) | (simp; omega))).mono ?_; rintro e w' ⟨rfl, rfl⟩)
      | (go_at_call 35; refine (rparseclock_c _ _ (by first | omega | (simp; done) | (simp; omega))).mono ?_; rintro e w2 ⟨rfl, hb2⟩))
    go_ret
    exact ⟨rfl, bt hb hb2⟩
  · have h' : 40 < s.size := by omega
    go_enter Try.func10, Try.ntmps10
    go_wp2_with (first
      | (go_at_call 14; refine (awake_c _).mono ?_; rintro e w' ⟨rfl, rfl⟩)
      | (go_at_call 32; refine (parsedate_c _ _ (by first | omega | (simp; done) | (simp; omega))).mono ?_; rintro e w' ⟨rfl, rfl⟩)
      | (go_at_call 33; refine (rparsedate_c _ _ (by first | omega | (simp; done) | (simp; omega))).mono ?_; rintro e w1 ⟨rfl, hb⟩)
      | (go_at_call 34; refine (parseclock_c _ _ (by first | omega | (simp; done) | (simp; omega))).mono ?_; rintro e w' ⟨rfl, rfl⟩)
      | (go_at_call 35; refine (rparseclock_c _ _ (by first | omega | (simp; done) | (simp; omega))).mono ?_; rintro e w2 ⟨rfl, hb2⟩))
    go_ret
    exact ⟨rfl, bt hb hb2⟩

set_option maxHeartbeats 1000000 in
theorem law_numbers (n : Int) (s : ByteArray) (w : World) (hs : s.size ≤ 9223372036854775807) : Calls Try.prog 13 #[.int .i64 n, .string s] w fun e w' => e = .returned (.bool true) ∧ Below w.heap.size w w' := by
  rcases hc : Cal.cok n with _ | _
  · have hne := cdE_ne n hc
    have hne2 : (Cal.cdE n == 0) = false := by simpa using hne
    have HC := Lib.hid hc
    clear hc
    by_cases h : s.size ≤ 20
    · go_enter Try.func13, Try.ntmps13
      go_wp2_with (first
        | (go_at_call 14; refine (awake_c _).mono ?_; rintro e w' ⟨rfl, rfl⟩)
        | (go_at_call 25; refine (cdays_c _ _).mono ?_; rintro e w' ⟨rfl, rfl⟩)
        | (go_at_call 40; refine (rcdays_c _ _).mono ?_; rintro e w' ⟨rfl, rfl⟩)
        | (go_at_call 41; refine (cytext_no _ _ HC.out).mono ?_; rintro e w' ⟨rfl, rfl⟩)
        | (go_at_call 42; refine (rcytext_no _ _ HC.out).mono ?_; rintro e w' ⟨rfl, rfl⟩)
        | (go_at_call 43; refine (parsecycle_c _ _ (by first | omega | (simp; done) | (simp; omega))).mono ?_; rintro e w' ⟨rfl, rfl⟩)
        | (go_at_call 44; refine (rparsecycle_c _ _ (by first | omega | (simp; done) | (simp; omega))).mono ?_; rintro e w' ⟨rfl, rfl⟩))
      go_ret
      exact ⟨rfl, Below.refl _ _⟩
    · have h' : 20 < s.size := by omega
      go_enter Try.func13, Try.ntmps13
      go_wp2_with (first
        | (go_at_call 14; refine (awake_c _).mono ?_; rintro e w' ⟨rfl, rfl⟩)
        | (go_at_call 25; refine (cdays_c _ _).mono ?_; rintro e w' ⟨rfl, rfl⟩)
        | (go_at_call 40; refine (rcdays_c _ _).mono ?_; rintro e w' ⟨rfl, rfl⟩)
        | (go_at_call 41; refine (cytext_no _ _ HC.out).mono ?_; rintro e w' ⟨rfl, rfl⟩)
        | (go_at_call 42; refine (rcytext_no _ _ HC.out).mono ?_; rintro e w' ⟨rfl, rfl⟩)
        | (go_at_call 43; refine (parsecycle_c _ _ (by first | omega | (simp; done) | (simp; omega))).mono ?_; rintro e w' ⟨rfl, rfl⟩)
        | (go_at_call 44; refine (rparsecycle_c _ _ (by first | omega | (simp; done) | (simp; omega))).mono ?_; rintro e w' ⟨rfl, rfl⟩))
      go_ret
      exact ⟨rfl, Below.refl _ _⟩
  · obtain ⟨e1, e2⟩ := Cal.num_back n hc
    have hp : ∀ w : World, Calls Try.prog 43 #[.string (Cal.D4 n)] w fun e w' => e = .returned (.tuple #[.int .i64 n, .int .i64 0]) ∧ w = w' := by
      intro w
      refine (parsecycle_c _ w (by rw [Cal.D4_size]; decide)).mono ?_
      rw [e1, e2]
      exact fun _ _ h => h
    have HP := Lib.hid hp
    have HC := Lib.hid hc
    clear hp e1 e2 hc
    by_cases h : s.size ≤ 20
    · go_enter Try.func13, Try.ntmps13
      go_wp2_with (first
        | (go_at_call 14; refine (awake_c _).mono ?_; rintro e w' ⟨rfl, rfl⟩)
        | (go_at_call 25; refine (cdays_c _ _).mono ?_; rintro e w' ⟨rfl, rfl⟩)
        | (go_at_call 40; refine (rcdays_c _ _).mono ?_; rintro e w' ⟨rfl, rfl⟩)
        | (go_at_call 41; refine (cytext_yes _ _ HC.out).mono ?_; rintro e w1 ⟨rfl, hb⟩)
        | (go_at_call 42; refine (rcytext_yes _ _ HC.out).mono ?_; rintro e w' ⟨rfl, rfl⟩)
        | (go_at_call 43; (with_reducible refine (HP.out _).mono ?_); rintro e w' ⟨rfl, rfl⟩)
        | (go_at_call 43; refine (parsecycle_c _ _ (by first | omega | (simp; done) | (simp; omega))).mono ?_; rintro e w' ⟨rfl, rfl⟩)
        | (go_at_call 44; refine (rparsecycle_c _ _ (by first | omega | (simp; done) | (simp; omega))).mono ?_; rintro e w' ⟨rfl, rfl⟩))
      go_ret
      exact ⟨rfl, hb⟩
    · have h' : 20 < s.size := by omega
      go_enter Try.func13, Try.ntmps13
      go_wp2_with (first
        | (go_at_call 14; refine (awake_c _).mono ?_; rintro e w' ⟨rfl, rfl⟩)
        | (go_at_call 25; refine (cdays_c _ _).mono ?_; rintro e w' ⟨rfl, rfl⟩)
        | (go_at_call 40; refine (rcdays_c _ _).mono ?_; rintro e w' ⟨rfl, rfl⟩)
        | (go_at_call 41; refine (cytext_yes _ _ HC.out).mono ?_; rintro e w1 ⟨rfl, hb⟩)
        | (go_at_call 42; refine (rcytext_yes _ _ HC.out).mono ?_; rintro e w' ⟨rfl, rfl⟩)
        | (go_at_call 43; (with_reducible refine (HP.out _).mono ?_); rintro e w' ⟨rfl, rfl⟩)
        | (go_at_call 43; refine (parsecycle_c _ _ (by first | omega | (simp; done) | (simp; omega))).mono ?_; rintro e w' ⟨rfl, rfl⟩)
        | (go_at_call 44; refine (rparsecycle_c _ _ (by first | omega | (simp; done) | (simp; omega))).mono ?_; rintro e w' ⟨rfl, rfl⟩))
      go_ret
      exact ⟨rfl, hb⟩

end Go.Proofs.Ytplbjbpdinmjeaa
