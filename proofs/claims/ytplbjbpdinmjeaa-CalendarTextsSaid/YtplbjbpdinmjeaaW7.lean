/-
  Contracts about texts, of the program: DateText, ParseDate, ClockText, ParseClock, CycleText, ParseCycle.
-/
import Derived.Test.YtplbjbpdinmjeaaW6
namespace Go.Proofs.Ytplbjbpdinmjeaa
set_option linter.unusedVariables false
open Go.RowKit

theorem bt {w w1 w2 : World} (h : Below w.heap.size w w1) (k : Below w1.heap.size w1 w2) : Below w.heap.size w w2 := h.trans (k.mono h.size)
theorem ret_text {k : IntKind} {a b : ByteArray} {c d : Int} (h : a = b) (h2 : c = d) : Ending.returned (.tuple #[.string a, .int k c]) = .returned (.tuple #[.string b, .int k d]) := by rw [h, h2]

set_option maxHeartbeats 1000000 in
theorem datetext_yes (day : Int) (w : World) (h1 : 0 ≤ day) (h2 : day ≤ 36524) : Calls Try.prog 36 #[.int .i64 day] w fun e w' => e = .returned (.tuple #[.string (Cal.dateB day), .int .i64 0]) ∧ Below w.heap.size w w' := by
  have HD := Lib.hid (Cal.date_yes day h1 h2)
  have a := Cal.yr_bd day h1 h2
  obtain ⟨a1, a2, a3, a4, a5⟩ := a
  have b := Cal.mo_bd day
  have c := Cal.dom_bd day h1 h2
  have d := Cal.md_bd (Cal.yr day) (Cal.mo day)
  have s1 := Cal.D4_size (Cal.yr day)
  have s2 := Cal.D2_size (Cal.mo day)
  have s3 := Cal.D2_size (Cal.dom day)
  clear a3 a4 a5
  go_enter Try.func36, Try.ntmps36
  go_wp2_with (first
    | (go_at_call 21; refine (date_yes _ _ (by omega) (by omega)).mono ?_; rintro e w' ⟨rfl, rfl⟩)
    | (go_at_call 52; (with_reducible refine (digits4_c _ _ (by omega) (by omega)).mono ?_); rintro e w' ⟨rfl, hb⟩)
    | (go_at_call 52; (with_reducible refine (digits2_c _ _ (by omega) (by omega)).mono ?_); rintro e w' ⟨rfl, hb⟩))
  go_ret2
  exact ⟨ret_text (by rw [HD.out]; rfl) rfl, by repeat (first | exact Below.refl _ _ | assumption | refine bt ?_ (by assumption))⟩
theorem datetext_no (day : Int) (w : World) (h : day < 0 ∨ 36524 < day) : Calls Try.prog 36 #[.int .i64 day] w fun e w' => e = .returned (.tuple #[.string ByteArray.empty, .int .i64 2]) ∧ w = w' := by
  have H := Lib.hid h
  clear h
  go_enter Try.func36, Try.ntmps36
  go_wp2_with (go_at_call 21; refine (date_no _ _ H.out).mono ?_; rintro e w' ⟨rfl, rfl⟩)
  go_ret2
  exact ⟨rfl, rfl⟩

set_option maxHeartbeats 2000000 in
theorem parsedate_c (s : ByteArray) (w : World) (hs : s.size ≤ 9223372036854775807) : Calls Try.prog 32 #[.string s] w fun e w' => e = .returned (.tuple #[.int .i64 (Cal.pdV s), .int .i64 (Cal.pdE s)]) ∧ w = w' := by
  by_cases hl : s.size = 10
  · have i4 : 4 < s.size := by omega
    have i7 : 7 < s.size := by omega
    have hat := Cal.pd_at s hl
    by_cases h4 : (s[4].toNat : Int) = 45
    · by_cases h7 : (s[7].toNat : Int) = 45
      · have q4 : ((s[4].toNat : Int) != 45) = false := by simpa using h4
        have q7 : ((s[7].toNat : Int) != 45) = false := by simpa using h7
        rw [h4, h7] at hat
        rcases ha : Cal.nB (s.extract 0 4) with _ | _
        · have HE := Lib.hid (Cal.pd_bad s (by rw [hat, ha]; rfl))
          obtain ⟨e1, e2, e3⟩ := num_no _ ha
          have HL := Lib.hid hl
          clear hat ha h4 h7 e2 hl
          go_enter Try.func32, Try.ntmps32
          have hl := HL.out
          go_wp2_with (go_at_call 50; refine (number_c _ _ (by simp; omega)).mono ?_; rintro e w' ⟨rfl, rfl⟩)
          go_ret2
          exact ⟨ret_ints HE.out.1.symm HE.out.2.symm, rfl⟩
        · rcases hb : Cal.nB (s.extract 5 7) with _ | _
          · have HE := Lib.hid (Cal.pd_bad s (by rw [hat, ha, hb]; rfl))
            obtain ⟨e1, e2, e3⟩ := num_yes _ ha
            obtain ⟨f1, f2, f3⟩ := num_no _ hb
            clear hat ha hb h4 h7 e2 f2
            go_enter Try.func32, Try.ntmps32
            go_wp2_with (go_at_call 50; refine (number_c _ _ (by simp; omega)).mono ?_; rintro e w' ⟨rfl, rfl⟩)
            go_ret2
            exact ⟨ret_ints HE.out.1.symm HE.out.2.symm, rfl⟩
          · rcases hc : Cal.nB (s.extract 8 10) with _ | _
            · have HE := Lib.hid (Cal.pd_bad s (by rw [hat, ha, hb, hc]; rfl))
              obtain ⟨e1, e2, e3⟩ := num_yes _ ha
              obtain ⟨f1, f2, f3⟩ := num_yes _ hb
              obtain ⟨g1, g2, g3⟩ := num_no _ hc
              clear hat ha hb hc h4 h7 e2 f2 g2
              go_enter Try.func32, Try.ntmps32
              go_wp2_with (go_at_call 50; refine (number_c _ _ (by simp; omega)).mono ?_; rintro e w' ⟨rfl, rfl⟩)
              go_ret2
              exact ⟨ret_ints HE.out.1.symm HE.out.2.symm, rfl⟩
            · have HE := Lib.hid (Cal.pd_good s (by rw [hat, ha, hb, hc]; rfl))
              obtain ⟨e1, e2, e3⟩ := num_yes _ ha
              obtain ⟨f1, f2, f3⟩ := num_yes _ hb
              obtain ⟨g1, g2, g3⟩ := num_yes _ hc
              clear hat ha hb hc h4 h7 e2 f2 g2
              go_enter Try.func32, Try.ntmps32
              go_wp2_with (first
                | (go_at_call 50; refine (number_c _ _ (by simp; omega)).mono ?_; rintro e w' ⟨rfl, rfl⟩)
                | (go_at_call 19; refine (days_c _ _ _ _).mono ?_; rintro e w' ⟨rfl, rfl⟩))
              go_ret2
              exact ⟨ret_ints HE.out.1.symm HE.out.2.symm, rfl⟩
      · have HE := Lib.hid (Cal.pd_bad s (by rw [hat]; simp [h7]))
        have q4 : ((s[4].toNat : Int) != 45) = false := by simpa using h4
        have q7 : ((s[7].toNat : Int) != 45) = true := by simpa using h7
        clear hat h4 h7
        go_enter Try.func32, Try.ntmps32
        go_wp2
        go_ret2
        exact ⟨ret_ints HE.out.1.symm HE.out.2.symm, rfl⟩
    · have HE := Lib.hid (Cal.pd_bad s (by rw [hat]; simp [h4]))
      have q4 : ((s[4].toNat : Int) != 45) = true := by simpa using h4
      clear hat h4
      go_enter Try.func32, Try.ntmps32
      go_wp2
      go_ret2
      exact ⟨ret_ints HE.out.1.symm HE.out.2.symm, rfl⟩
  · have HE := Lib.hid (Cal.pd_bad s (Cal.pd_len s hl))
    have q : ((s.size : Int) != 10) = true := by rw [bne_iff_ne]; omega
    clear hl
    go_enter Try.func32, Try.ntmps32
    go_wp2
    go_ret2
    exact ⟨ret_ints HE.out.1.symm HE.out.2.symm, rfl⟩

set_option maxHeartbeats 1000000 in
theorem clocktext_yes (c : Int) (w : World) (h1 : 0 ≤ c) (h2 : c < 144000) : Calls Try.prog 38 #[.int .i64 c] w fun e w' => e = .returned (.tuple #[.string (Cal.clockB c), .int .i64 0]) ∧ Below w.heap.size w w' := by
  have s2 := Cal.D2_size (c / 6000)
  have s3 := Cal.D2_size (c % 6000 / 100)
  go_enter Try.func38, Try.ntmps38
  go_wp2_with (go_at_call 52; refine (digits2_c _ _ (by omega) (by omega)).mono ?_; rintro e w' ⟨rfl, hb⟩)
  go_ret2
  exact ⟨ret_text rfl rfl, by repeat (first | exact Below.refl _ _ | assumption | refine bt ?_ (by assumption))⟩
theorem clocktext_no (c : Int) (w : World) (h : c < 0 ∨ 144000 ≤ c) : Calls Try.prog 38 #[.int .i64 c] w fun e w' => e = .returned (.tuple #[.string ByteArray.empty, .int .i64 2]) ∧ w = w' := by
  rcases h with h | h
  · go_enter Try.func38, Try.ntmps38
    go_wp2
    go_ret2
    exact ⟨rfl, rfl⟩
  · have h' : ¬ c < 0 := by omega
    go_enter Try.func38, Try.ntmps38
    go_wp2
    go_ret2
    exact ⟨rfl, rfl⟩

set_option maxHeartbeats 2000000 in
theorem parseclock_c (s : ByteArray) (w : World) (hs : s.size ≤ 9223372036854775807) : Calls Try.prog 34 #[.string s] w fun e w' => e = .returned (.tuple #[.int .i64 (Cal.pcV s), .int .i64 (Cal.pcE s)]) ∧ w = w' := by
  by_cases hl : s.size = 5
  · have i2 : 2 < s.size := by omega
    have hat := Cal.pc_at s hl
    by_cases h2 : (s[2].toNat : Int) = 58
    · have q2 : ((s[2].toNat : Int) != 58) = false := by simpa using h2
      rw [h2] at hat
      rcases ha : Cal.nB (s.extract 0 2) with _ | _
      · have HE := Lib.hid (Cal.pc_bad s (by rw [hat, ha]; rfl))
        obtain ⟨e1, e2, e3⟩ := num_no _ ha
        clear hat ha h2 e2
        go_enter Try.func34, Try.ntmps34
        go_wp2_with (go_at_call 50; refine (number_c _ _ (by simp; omega)).mono ?_; rintro e w' ⟨rfl, rfl⟩)
        go_ret2
        exact ⟨ret_ints HE.out.1.symm HE.out.2.symm, rfl⟩
      · rcases hb : Cal.nB (s.extract 3 5) with _ | _
        · have HE := Lib.hid (Cal.pc_bad s (by rw [hat, ha, hb]; rfl))
          obtain ⟨e1, e2, e3⟩ := num_yes _ ha
          obtain ⟨f1, f2, f3⟩ := num_no _ hb
          clear hat ha hb h2 e2 f2
          go_enter Try.func34, Try.ntmps34
          go_wp2_with (go_at_call 50; refine (number_c _ _ (by simp; omega)).mono ?_; rintro e w' ⟨rfl, rfl⟩)
          go_ret2
          exact ⟨ret_ints HE.out.1.symm HE.out.2.symm, rfl⟩
        · have ok : Cal.pcOk s = true := by rw [hat, ha, hb]; rfl
          obtain ⟨e1, e2, e3⟩ := num_yes _ ha
          obtain ⟨f1, f2, f3⟩ := num_yes _ hb
          have b1 : 0 ≤ Cal.nb (s.extract 0 2) ∧ Cal.nb (s.extract 0 2) ≤ 9999 := Cal.nv_len (s.extract 0 2).data.toList 2 (by simp; omega) ha (by omega)
          have b2 : 0 ≤ Cal.nb (s.extract 3 5) ∧ Cal.nb (s.extract 3 5) ≤ 9999 := Cal.nv_len (s.extract 3 5).data.toList 2 (by simp; omega) hb (by omega)
          by_cases c1 : Cal.nb (s.extract 0 2) ≤ 23
          · by_cases c2 : Cal.nb (s.extract 3 5) ≤ 59
            · have HE := Lib.hid (Cal.pc_good s ok (decide_eq_true ⟨c1, c2⟩))
              clear hat ha hb h2 e2 f2 ok
              go_enter Try.func34, Try.ntmps34
              go_wp2_with (go_at_call 50; refine (number_c _ _ (by simp; omega)).mono ?_; rintro e w' ⟨rfl, rfl⟩)
              go_ret2
              exact ⟨ret_ints HE.out.1.symm HE.out.2.symm, rfl⟩
            · have HE := Lib.hid (Cal.pc_range s ok (decide_eq_false (fun h => c2 h.2)))
              clear hat ha hb h2 e2 f2 ok
              go_enter Try.func34, Try.ntmps34
              go_wp2_with (go_at_call 50; refine (number_c _ _ (by simp; omega)).mono ?_; rintro e w' ⟨rfl, rfl⟩)
              go_ret2
              exact ⟨ret_ints HE.out.1.symm HE.out.2.symm, rfl⟩
          · have HE := Lib.hid (Cal.pc_range s ok (decide_eq_false (fun h => c1 h.1)))
            clear hat ha hb h2 e2 f2 ok
            go_enter Try.func34, Try.ntmps34
            go_wp2_with (go_at_call 50; refine (number_c _ _ (by simp; omega)).mono ?_; rintro e w' ⟨rfl, rfl⟩)
            go_ret2
            exact ⟨ret_ints HE.out.1.symm HE.out.2.symm, rfl⟩
    · have HE := Lib.hid (Cal.pc_bad s (by rw [hat]; simp [h2]))
      have q2 : ((s[2].toNat : Int) != 58) = true := by simpa using h2
      clear hat h2
      go_enter Try.func34, Try.ntmps34
      go_wp2
      go_ret2
      exact ⟨ret_ints HE.out.1.symm HE.out.2.symm, rfl⟩
  · have HE := Lib.hid (Cal.pc_bad s (Cal.pc_len s hl))
    have q : ((s.size : Int) != 5) = true := by rw [bne_iff_ne]; omega
    clear hl
    go_enter Try.func34, Try.ntmps34
    go_wp2
    go_ret2
    exact ⟨ret_ints HE.out.1.symm HE.out.2.symm, rfl⟩

theorem cytext_yes (n : Int) (w : World) (h : Cal.cok n = true) : Calls Try.prog 41 #[.int .i64 n] w fun e w' => e = .returned (.tuple #[.string (Cal.D4 n), .int .i64 0]) ∧ Below w.heap.size w w' := by
  obtain ⟨e1, e2, e3⟩ := Cal.cd_yes n h
  obtain ⟨b1, b2, b3⟩ := Cal.cok_parts n h
  clear b3 h e1 e2
  go_enter Try.func41, Try.ntmps41
  go_wp2_with (first
    | (go_at_call 25; refine (cdays_c _ _).mono ?_; rintro e w' ⟨rfl, rfl⟩)
    | (go_at_call 52; refine (digits4_c _ _ (by omega) (by omega)).mono ?_; rintro e w' ⟨rfl, hb⟩))
  go_ret2
  exact ⟨rfl, hb⟩
theorem cytext_no (n : Int) (w : World) (h : Cal.cok n = false) : Calls Try.prog 41 #[.int .i64 n] w fun e w' => e = .returned (.tuple #[.string ByteArray.empty, .int .i64 (Cal.cdE n)]) ∧ w = w' := by
  have hne := cdE_ne n h
  clear h
  go_enter Try.func41, Try.ntmps41
  go_wp2_with (go_at_call 25; refine (cdays_c _ _).mono ?_; rintro e w' ⟨rfl, rfl⟩)
  go_ret2
  exact ⟨rfl, rfl⟩

set_option maxHeartbeats 1000000 in
theorem parsecycle_c (s : ByteArray) (w : World) (hs : s.size ≤ 9223372036854775807) : Calls Try.prog 43 #[.string s] w fun e w' => e = .returned (.tuple #[.int .i64 (Cal.pyV s), .int .i64 (Cal.pyE s)]) ∧ w = w' := by
  by_cases hl : s.size = 4
  · have hat := Cal.py_at s hl
    rcases ha : Cal.nB s with _ | _
    · have HE := Lib.hid (Cal.py_bad s (by rw [hat, ha]))
      obtain ⟨e1, e2, e3⟩ := num_no _ ha
      clear hat ha e2
      go_enter Try.func43, Try.ntmps43
      go_wp2_with (go_at_call 50; refine (number_c _ _ (by omega)).mono ?_; rintro e w' ⟨rfl, rfl⟩)
      go_ret2
      exact ⟨ret_ints HE.out.1.symm HE.out.2.symm, rfl⟩
    · have ok : Cal.pyOk s = true := by rw [hat, ha]
      obtain ⟨e1, e2, e3⟩ := num_yes _ ha
      rcases hc : Cal.cok (Cal.nb s) with _ | _
      · have HE := Lib.hid (Cal.py_none s ok hc)
        have hne := cdE_ne _ hc
        clear hat ha e2 hc ok
        go_enter Try.func43, Try.ntmps43
        go_wp2_with (first
          | (go_at_call 50; refine (number_c _ _ (by omega)).mono ?_; rintro e w' ⟨rfl, rfl⟩)
          | (go_at_call 25; refine (cdays_c _ _).mono ?_; rintro e w' ⟨rfl, rfl⟩))
        go_ret2
        exact ⟨ret_ints HE.out.1.symm HE.out.2.symm, rfl⟩
      · have HE := Lib.hid (Cal.py_good s ok hc)
        have hz := cdE_zero _ hc
        clear hat ha e2 hc ok
        go_enter Try.func43, Try.ntmps43
        go_wp2_with (first
          | (go_at_call 50; refine (number_c _ _ (by omega)).mono ?_; rintro e w' ⟨rfl, rfl⟩)
          | (go_at_call 25; refine (cdays_c _ _).mono ?_; rintro e w' ⟨rfl, rfl⟩))
        go_ret2
        exact ⟨ret_ints HE.out.1.symm HE.out.2.symm, rfl⟩
  · have HE := Lib.hid (Cal.py_bad s (Cal.py_len s hl))
    have q : ((s.size : Int) != 4) = true := by rw [bne_iff_ne]; omega
    have HS := Lib.hid hs
    clear hl hs
    go_enter Try.func43, Try.ntmps43
    go_wp2_with (go_at_call 50; refine (number_any _ _ HS.out).mono ?_; rintro e w' ⟨v, b, rfl, rfl⟩)
    go_ret2
    exact ⟨ret_ints HE.out.1.symm HE.out.2.symm, rfl⟩

end Go.Proofs.Ytplbjbpdinmjeaa
