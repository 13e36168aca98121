/-
  Contracts about texts, of the reference: digits, number, DateText, ParseDate, ClockText, ParseClock, CycleText, ParseCycle.
-/
import Derived.Test.YtplbjbpdinmjeaaW7
import Derived.Deep.QuietTactic
import Derived.BigQuiet
namespace Go.Proofs.Ytplbjbpdinmjeaa
set_option linter.unusedVariables false
open Go.RowKit

theorem q_same {P : Program} {f : FuncId} {args : Array Value} {w : World} {v : Value} (h : Calls P f args w fun e w' => e = .returned v ∧ w = w') : Calls P f args w fun e w' => e = .returned v ∧ w' = w :=
  h.mono fun _ _ ⟨a, b⟩ => ⟨a, b.symm⟩
theorem bdn (w : World) (n : Nat) : Below w.heap.size w (w.drewN n) := ⟨rfl, rfl, rfl, Nat.le_refl _, fun _ _ => rfl⟩

set_option maxHeartbeats 1000000 in
theorem rnumber_c (s : ByteArray) (w : World) (hs : s.size ≤ 18) : Calls Try.prog 51 #[.string s] w fun e w' => e = .returned (.int .i64 (Cal.nR s)) ∧ w = w' := by
  go_enter Try.func51, Try.ntmps51
  go_wp2
  go_loop [3, 4] (fun n i => ∃ k : Nat, k ≤ s.size ∧ i = .int .i64 k ∧ Hid (Cal.nok (s.data.toList.take k) = true) ∧ n = .int .i64 (Cal.nv (s.data.toList.take k))) (fun _ i => s.size - (intOf i).toNat)
  case atStart => exact ⟨0, Nat.zero_le _, rfl, Lib.hid rfl, rfl⟩
  case round =>
    obtain ⟨k, hk, rfl, hok, rfl⟩ := hrel
    have bd := Cal.nv_bd18 (s.data.toList.take k) (by simp; omega) hok.out
    by_cases hlt : k < s.size
    · by_cases h1 : (s[k].toNat : Int) < 48
      · have HF := Lib.hid (num_no s (Cal.nok_false s k hlt (Cal.isd_lo _ h1)))
        go_wp2
        go_ret
        exact ⟨ret_int HF.out.2.1.symm, rfl⟩
      · by_cases h2 : 57 < (s[k].toNat : Int)
        · have HF := Lib.hid (num_no s (Cal.nok_false s k hlt (Cal.isd_hi _ h2)))
          go_wp2
          go_ret
          exact ⟨ret_int HF.out.2.1.symm, rfl⟩
        · have hts := Cal.take_snoc s k hlt
          have hok2 : Cal.nok (s.data.toList.take (k + 1)) = true := by rw [hts, Cal.nok_snoc, hok.out, Cal.isd_in _ h1 h2]; rfl
          have hnv : Cal.nv (s.data.toList.take (k + 1)) = 10 * Cal.nv (s.data.toList.take k) + ((s[k].toNat : Int) - 48) := by rw [hts, Cal.nv_snoc]
          have bd2 := Cal.nv_bd18 (s.data.toList.take (k + 1)) (by simp; omega) hok2
          have bd3 : Cal.nv (s.data.toList.take k) ≤ 100000000000000000 := by omega
          have HO := Lib.hid hok2
          have HN := Lib.hid hnv
          clear hts hok2 hnv bd2
          go_wp2
          go_round
          case rel => exact ⟨k + 1, by omega, by go_num, HO, by rw [HN.out]⟩
          case measure => simp [intOf]; omega
    · obtain rfl : k = s.size := by omega
      have e := Cal.take_all s
      have HF := Lib.hid (num_yes s (by have h := hok.out; rw [e] at h; exact h))
      have HE := Lib.hid e
      clear e
      go_wp2
      go_ret
      exact ⟨ret_int (by rw [HE.out, HF.out.2.1]; rfl), rfl⟩

theorem enc_digit (n : Int) : Utf8.encode (48 + n % 10) = ⟨#[Cal.dg n]⟩ := by
  have h : ∀ k : Nat, k < 10 → Utf8.encode (48 + (k : Int)) = ⟨#[UInt8.ofNat (48 + k)]⟩ := by decide
  have a := h (n % 10).toNat (by omega)
  have e : ((n % 10).toNat : Int) = n % 10 := by omega
  rw [e] at a
  rw [a]
  unfold Cal.dg
  rw [show (48 + n % 10).toNat = 48 + (n % 10).toNat by omega]

set_option maxHeartbeats 1000000 in
theorem rdigits2_c (n : Int) (w : World) (h1 : 0 ≤ n) (h2 : n ≤ 99) : Calls Try.prog 54 #[.int .i64 n, .int .i64 2] w fun e w' => e = .returned (.string (Cal.D2 n)) ∧ w = w' := by
  have e0 := enc_digit n
  have e1 := enc_digit (n / 10)
  go_enter Try.func54, Try.ntmps54
  go_wp2
  refine wp_loop_rounds 3 ?_
  rw [rounds_succ]
  go_wp2
  rw [rounds_succ]
  go_wp2
  rw [rounds_succ]
  go_wp2
  go_ret
  exact ⟨congrArg Ending.returned (congrArg Value.string (by apply ByteArray.ext; simp [Cal.D2, ByteArray.data_append])), rfl⟩
set_option maxHeartbeats 1000000 in
theorem rdigits4_c (n : Int) (w : World) (h1 : 0 ≤ n) (h2 : n ≤ 9999) : Calls Try.prog 54 #[.int .i64 n, .int .i64 4] w fun e w' => e = .returned (.string (Cal.D4 n)) ∧ w = w' := by
  have e0 := enc_digit n
  have e1 := enc_digit (n / 10)
  have e2 := enc_digit (n / 10 / 10)
  have e3 := enc_digit (n / 10 / 10 / 10)
  go_enter Try.func54, Try.ntmps54
  go_wp2
  refine wp_loop_rounds 5 ?_
  rw [rounds_succ]
  go_wp2
  rw [rounds_succ]
  go_wp2
  rw [rounds_succ]
  go_wp2
  rw [rounds_succ]
  go_wp2
  rw [rounds_succ]
  go_wp2
  go_ret
  exact ⟨congrArg Ending.returned (congrArg Value.string (by apply ByteArray.ext; simp [Cal.D4, ByteArray.data_append])), rfl⟩

set_option maxHeartbeats 1000000 in
theorem rdatetext_yes (day : Int) (w : World) (h1 : 0 ≤ day) (h2 : day ≤ 36524) : Calls Try.prog 37 #[.int .i64 day] w fun e w' => e = .returned (.tuple #[.string (Cal.dateB day), .int .i64 0]) ∧ w = w' := by
  have HD := Lib.hid (Cal.date_yes day h1 h2)
  have a := Cal.yr_bd day h1 h2
  obtain ⟨a1, a2, a3, a4, a5⟩ := a
  have b := Cal.mo_bd day
  have c := Cal.dom_bd day h1 h2
  have d := Cal.md_bd (Cal.yr day) (Cal.mo day)
  have s1 := Cal.D4_size (Cal.yr day)
  have s2 := Cal.D2_size (Cal.mo day)
  have s3 := Cal.D2_size (Cal.dom day)
  clear a3 a4 a5
  go_enter Try.func37, Try.ntmps37
  go_wp2_with (first
    | (go_at_call 53; refine (rdate_yes _ _ (by omega) (by omega)).mono ?_; rintro e w' ⟨rfl, rfl⟩)
    | (go_at_call 54; (with_reducible refine (rdigits4_c _ _ (by omega) (by omega)).mono ?_); rintro e w' ⟨rfl, rfl⟩)
    | (go_at_call 54; (with_reducible refine (rdigits2_c _ _ (by omega) (by omega)).mono ?_); rintro e w' ⟨rfl, rfl⟩))
  go_ret2
  exact ⟨ret_text (by rw [HD.out]; rfl) rfl, rfl⟩
theorem rdatetext_no (day : Int) (w : World) (h : day < 0 ∨ 36524 < day) : Calls Try.prog 37 #[.int .i64 day] w fun e w' => e = .returned (.tuple #[.string ByteArray.empty, .int .i64 2]) ∧ w = w' := by
  have H := Lib.hid h
  clear h
  go_enter Try.func37, Try.ntmps37
  go_wp2_with (go_at_call 53; refine (rdate_no _ _ H.out).mono ?_; rintro e w' ⟨rfl, rfl⟩)
  go_ret2
  exact ⟨rfl, rfl⟩

set_option maxHeartbeats 2000000 in
theorem rparsedate_c (s : ByteArray) (w : World) (hs : s.size ≤ 9223372036854775807) : Calls Try.prog 33 #[.string s] w fun e w' => e = .returned (.tuple #[.int .i64 (Cal.pdV s), .int .i64 (Cal.pdE s)]) ∧ Below w.heap.size w w' := by
  by_cases hl : s.size = 10
  · have i4 : 4 < s.size := by omega
    have i7 : 7 < s.size := by omega
    have hat := Cal.pd_at s hl
    by_cases h4 : (s[4].toNat : Int) = 45
    · by_cases h7 : (s[7].toNat : Int) = 45
      · have q4 : ((s[4].toNat : Int) != 45) = false := by simpa using h4
        have q7 : ((s[7].toNat : Int) != 45) = false := by simpa using h7
        rw [h4, h7] at hat
        rcases ha : Cal.nB (s.extract 0 4) with _ | _
        · have HE := Lib.hid (Cal.pd_bad s (by rw [hat, ha]; rfl))
          obtain ⟨e1, e2, e3⟩ := num_no _ ha
          clear hat ha h4 h7 e1 e3
          go_enter Try.func33, Try.ntmps33
          go_wp2_with (go_at_call 51; refine (rnumber_c _ _ (by simp; omega)).mono ?_; rintro e w' ⟨rfl, rfl⟩)
          go_ret2
          exact ⟨ret_ints HE.out.1.symm HE.out.2.symm, Below.refl _ _⟩
        · have b1 : 0 ≤ Cal.nb (s.extract 0 4) ∧ Cal.nb (s.extract 0 4) ≤ 9999 := Cal.nv_len (s.extract 0 4).data.toList 4 (by simp; omega) ha (by omega)
          rcases hb : Cal.nB (s.extract 5 7) with _ | _
          · have HE := Lib.hid (Cal.pd_bad s (by rw [hat, ha, hb]; rfl))
            obtain ⟨e1, e2, e3⟩ := num_yes _ ha
            obtain ⟨f1, f2, f3⟩ := num_no _ hb
            clear hat ha hb h4 h7 e1 f1 e3 f3
            go_enter Try.func33, Try.ntmps33
            go_wp2_with (go_at_call 51; refine (rnumber_c _ _ (by simp; omega)).mono ?_; rintro e w' ⟨rfl, rfl⟩)
            go_ret2
            exact ⟨ret_ints HE.out.1.symm HE.out.2.symm, Below.refl _ _⟩
          · have b2 : 0 ≤ Cal.nb (s.extract 5 7) ∧ Cal.nb (s.extract 5 7) ≤ 9999 := Cal.nv_len (s.extract 5 7).data.toList 2 (by simp; omega) hb (by omega)
            rcases hc : Cal.nB (s.extract 8 10) with _ | _
            · have HE := Lib.hid (Cal.pd_bad s (by rw [hat, ha, hb, hc]; rfl))
              obtain ⟨e1, e2, e3⟩ := num_yes _ ha
              obtain ⟨f1, f2, f3⟩ := num_yes _ hb
              obtain ⟨g1, g2, g3⟩ := num_no _ hc
              clear hat ha hb hc h4 h7 e1 f1 g1 e3 f3 g3
              go_enter Try.func33, Try.ntmps33
              go_wp2_with (go_at_call 51; refine (rnumber_c _ _ (by simp; omega)).mono ?_; rintro e w' ⟨rfl, rfl⟩)
              go_ret2
              exact ⟨ret_ints HE.out.1.symm HE.out.2.symm, Below.refl _ _⟩
            · have b3 : 0 ≤ Cal.nb (s.extract 8 10) ∧ Cal.nb (s.extract 8 10) ≤ 9999 := Cal.nv_len (s.extract 8 10).data.toList 2 (by simp; omega) hc (by omega)
              have HE := Lib.hid (Cal.pd_good s (by rw [hat, ha, hb, hc]; rfl))
              obtain ⟨e1, e2, e3⟩ := num_yes _ ha
              obtain ⟨f1, f2, f3⟩ := num_yes _ hb
              obtain ⟨g1, g2, g3⟩ := num_yes _ hc
              clear hat ha hb hc h4 h7 e1 f1 g1 e3 f3 g3
              go_enter Try.func33, Try.ntmps33
              go_wp2_with (go_at_call 51; refine (rnumber_c _ _ (by simp; omega)).mono ?_; rintro e w' ⟨rfl, rfl⟩)
              go_quiet ((first | (go_at_call 51; exact Calls.quiet_of_same (q_same (rnumber_c _ _ (by simp; omega)))) | (go_at_call 20; exact Calls.quiet_of_same (q_same (rdays_c _ _ _ _)))))
              go_wp2
              go_ret2
              exact ⟨ret_ints HE.out.1.symm HE.out.2.symm, bdn _ _⟩
      · have HE := Lib.hid (Cal.pd_bad s (by rw [hat]; simp [h7]))
        have q4 : ((s[4].toNat : Int) != 45) = false := by simpa using h4
        have q7 : ((s[7].toNat : Int) != 45) = true := by simpa using h7
        clear hat h4 h7
        go_enter Try.func33, Try.ntmps33
        go_wp2
        go_ret2
        exact ⟨ret_ints HE.out.1.symm HE.out.2.symm, Below.refl _ _⟩
    · have HE := Lib.hid (Cal.pd_bad s (by rw [hat]; simp [h4]))
      have q4 : ((s[4].toNat : Int) != 45) = true := by simpa using h4
      clear hat h4
      go_enter Try.func33, Try.ntmps33
      go_wp2
      go_ret2
      exact ⟨ret_ints HE.out.1.symm HE.out.2.symm, Below.refl _ _⟩
  · have HE := Lib.hid (Cal.pd_bad s (Cal.pd_len s hl))
    have q : ((s.size : Int) != 10) = true := by rw [bne_iff_ne]; omega
    clear hl
    go_enter Try.func33, Try.ntmps33
    go_wp2
    go_ret2
    exact ⟨ret_ints HE.out.1.symm HE.out.2.symm, Below.refl _ _⟩

set_option maxHeartbeats 1000000 in
theorem rclocktext_yes (c : Int) (w : World) (h1 : 0 ≤ c) (h2 : c < 144000) : Calls Try.prog 39 #[.int .i64 c] w fun e w' => e = .returned (.tuple #[.string (Cal.clockB c), .int .i64 0]) ∧ w = w' := by
  have s2 := Cal.D2_size (c / 6000)
  have s3 := Cal.D2_size (c % 6000 / 100)
  go_enter Try.func39, Try.ntmps39
  go_wp2_with (go_at_call 54; refine (rdigits2_c _ _ (by omega) (by omega)).mono ?_; rintro e w' ⟨rfl, rfl⟩)
  go_ret2
  exact ⟨ret_text rfl rfl, rfl⟩
theorem rclocktext_no (c : Int) (w : World) (h : c < 0 ∨ 144000 ≤ c) : Calls Try.prog 39 #[.int .i64 c] w fun e w' => e = .returned (.tuple #[.string ByteArray.empty, .int .i64 2]) ∧ w = w' := by
  rcases h with h | h
  · go_enter Try.func39, Try.ntmps39
    go_wp2
    go_ret2
    exact ⟨rfl, rfl⟩
  · have h' : ¬ c < 0 := by omega
    go_enter Try.func39, Try.ntmps39
    go_wp2
    go_ret2
    exact ⟨rfl, rfl⟩

set_option maxHeartbeats 2000000 in
theorem rparseclock_c (s : ByteArray) (w : World) (hs : s.size ≤ 9223372036854775807) : Calls Try.prog 35 #[.string s] w fun e w' => e = .returned (.tuple #[.int .i64 (Cal.pcV s), .int .i64 (Cal.pcE s)]) ∧ Below w.heap.size w w' := by
  by_cases hl : s.size = 5
  · have i2 : 2 < s.size := by omega
    have hat := Cal.pc_at s hl
    by_cases h2 : (s[2].toNat : Int) = 58
    · have q2 : ((s[2].toNat : Int) != 58) = false := by simpa using h2
      rw [h2] at hat
      rcases ha : Cal.nB (s.extract 0 2) with _ | _
      · have HE := Lib.hid (Cal.pc_bad s (by rw [hat, ha]; rfl))
        obtain ⟨e1, e2, e3⟩ := num_no _ ha
        clear hat ha h2 e1 e3
        go_enter Try.func35, Try.ntmps35
        go_wp2_with (go_at_call 51; refine (rnumber_c _ _ (by simp; omega)).mono ?_; rintro e w' ⟨rfl, rfl⟩)
        go_ret2
        exact ⟨ret_ints HE.out.1.symm HE.out.2.symm, Below.refl _ _⟩
      · have b1 : 0 ≤ Cal.nb (s.extract 0 2) ∧ Cal.nb (s.extract 0 2) ≤ 9999 := Cal.nv_len (s.extract 0 2).data.toList 2 (by simp; omega) ha (by omega)
        rcases hb : Cal.nB (s.extract 3 5) with _ | _
        · have HE := Lib.hid (Cal.pc_bad s (by rw [hat, ha, hb]; rfl))
          obtain ⟨e1, e2, e3⟩ := num_yes _ ha
          obtain ⟨f1, f2, f3⟩ := num_no _ hb
          clear hat ha hb h2 e1 f1 e3 f3
          go_enter Try.func35, Try.ntmps35
          go_wp2_with (go_at_call 51; refine (rnumber_c _ _ (by simp; omega)).mono ?_; rintro e w' ⟨rfl, rfl⟩)
          go_ret2
          exact ⟨ret_ints HE.out.1.symm HE.out.2.symm, Below.refl _ _⟩
        · have ok : Cal.pcOk s = true := by rw [hat, ha, hb]; rfl
          obtain ⟨e1, e2, e3⟩ := num_yes _ ha
          obtain ⟨f1, f2, f3⟩ := num_yes _ hb
          have b2 : 0 ≤ Cal.nb (s.extract 3 5) ∧ Cal.nb (s.extract 3 5) ≤ 9999 := Cal.nv_len (s.extract 3 5).data.toList 2 (by simp; omega) hb (by omega)
          by_cases c1 : Cal.nb (s.extract 0 2) ≤ 23
          · by_cases c2 : Cal.nb (s.extract 3 5) ≤ 59
            · have HE := Lib.hid (Cal.pc_good s ok (decide_eq_true ⟨c1, c2⟩))
              clear hat ha hb h2 e1 f1 e3 f3 ok
              go_enter Try.func35, Try.ntmps35
              go_wp2_with (go_at_call 51; refine (rnumber_c _ _ (by simp; omega)).mono ?_; rintro e w' ⟨rfl, rfl⟩)
              go_quiet ((go_at_call 51; exact Calls.quiet_of_same (q_same (rnumber_c _ _ (by simp; omega)))))
              go_wp2
              go_ret2
              exact ⟨ret_ints HE.out.1.symm HE.out.2.symm, bdn _ _⟩
            · have HE := Lib.hid (Cal.pc_range s ok (decide_eq_false (fun h => c2 h.2)))
              clear hat ha hb h2 e1 f1 e3 f3 ok
              go_enter Try.func35, Try.ntmps35
              go_wp2_with (go_at_call 51; refine (rnumber_c _ _ (by simp; omega)).mono ?_; rintro e w' ⟨rfl, rfl⟩)
              go_quiet ((go_at_call 51; exact Calls.quiet_of_same (q_same (rnumber_c _ _ (by simp; omega)))))
              go_wp2
              go_ret2
              exact ⟨ret_ints HE.out.1.symm HE.out.2.symm, bdn _ _⟩
          · have HE := Lib.hid (Cal.pc_range s ok (decide_eq_false (fun h => c1 h.1)))
            clear hat ha hb h2 e1 f1 e3 f3 ok
            go_enter Try.func35, Try.ntmps35
            go_wp2_with (go_at_call 51; refine (rnumber_c _ _ (by simp; omega)).mono ?_; rintro e w' ⟨rfl, rfl⟩)
            go_quiet ((go_at_call 51; exact Calls.quiet_of_same (q_same (rnumber_c _ _ (by simp; omega)))))
            go_wp2
            go_ret2
            exact ⟨ret_ints HE.out.1.symm HE.out.2.symm, bdn _ _⟩
    · have HE := Lib.hid (Cal.pc_bad s (by rw [hat]; simp [h2]))
      have q2 : ((s[2].toNat : Int) != 58) = true := by simpa using h2
      clear hat h2
      go_enter Try.func35, Try.ntmps35
      go_wp2
      go_ret2
      exact ⟨ret_ints HE.out.1.symm HE.out.2.symm, Below.refl _ _⟩
  · have HE := Lib.hid (Cal.pc_bad s (Cal.pc_len s hl))
    have q : ((s.size : Int) != 5) = true := by rw [bne_iff_ne]; omega
    clear hl
    go_enter Try.func35, Try.ntmps35
    go_wp2
    go_ret2
    exact ⟨ret_ints HE.out.1.symm HE.out.2.symm, Below.refl _ _⟩

theorem rcytext_yes (n : Int) (w : World) (h : Cal.cok n = true) : Calls Try.prog 42 #[.int .i64 n] w fun e w' => e = .returned (.tuple #[.string (Cal.D4 n), .int .i64 0]) ∧ w = w' := by
  obtain ⟨e1, e2, e3⟩ := Cal.cd_yes n h
  obtain ⟨b1, b2, b3⟩ := Cal.cok_parts n h
  clear b3 h e1 e2
  go_enter Try.func42, Try.ntmps42
  go_wp2_with (first
    | (go_at_call 40; refine (rcdays_c _ _).mono ?_; rintro e w' ⟨rfl, rfl⟩)
    | (go_at_call 54; refine (rdigits4_c _ _ (by omega) (by omega)).mono ?_; rintro e w' ⟨rfl, rfl⟩))
  go_ret2
  exact ⟨rfl, rfl⟩
theorem rcytext_no (n : Int) (w : World) (h : Cal.cok n = false) : Calls Try.prog 42 #[.int .i64 n] w fun e w' => e = .returned (.tuple #[.string ByteArray.empty, .int .i64 (Cal.cdE n)]) ∧ w = w' := by
  have hne := cdE_ne n h
  clear h
  go_enter Try.func42, Try.ntmps42
  go_wp2_with (go_at_call 40; refine (rcdays_c _ _).mono ?_; rintro e w' ⟨rfl, rfl⟩)
  go_ret2
  exact ⟨rfl, rfl⟩

set_option maxHeartbeats 1000000 in
theorem rparsecycle_c (s : ByteArray) (w : World) (hs : s.size ≤ 9223372036854775807) : Calls Try.prog 44 #[.string s] w fun e w' => e = .returned (.tuple #[.int .i64 (Cal.pyV s), .int .i64 (Cal.pyE s)]) ∧ w = w' := by
  by_cases hl : s.size = 4
  · have hat := Cal.py_at s hl
    rcases ha : Cal.nB s with _ | _
    · have HE := Lib.hid (Cal.py_bad s (by rw [hat, ha]))
      obtain ⟨e1, e2, e3⟩ := num_no _ ha
      clear hat ha e1 e3
      go_enter Try.func44, Try.ntmps44
      go_wp2_with (go_at_call 51; refine (rnumber_c _ _ (by omega)).mono ?_; rintro e w' ⟨rfl, rfl⟩)
      go_ret2
      exact ⟨ret_ints HE.out.1.symm HE.out.2.symm, rfl⟩
    · have ok : Cal.pyOk s = true := by rw [hat, ha]
      obtain ⟨e1, e2, e3⟩ := num_yes _ ha
      have b1 : 0 ≤ Cal.nb s ∧ Cal.nb s ≤ 9999 := Cal.nv_len s.data.toList 4 (by simp; omega) ha (by omega)
      rcases hc : Cal.cok (Cal.nb s) with _ | _
      · have HE := Lib.hid (Cal.py_none s ok hc)
        have hne := cdE_ne _ hc
        clear hat ha e1 e3 hc ok
        go_enter Try.func44, Try.ntmps44
        go_wp2_with (first
          | (go_at_call 51; refine (rnumber_c _ _ (by omega)).mono ?_; rintro e w' ⟨rfl, rfl⟩)
          | (go_at_call 40; refine (rcdays_c _ _).mono ?_; rintro e w' ⟨rfl, rfl⟩))
        go_ret2
        exact ⟨ret_ints HE.out.1.symm HE.out.2.symm, rfl⟩
      · have HE := Lib.hid (Cal.py_good s ok hc)
        have hz := cdE_zero _ hc
        clear hat ha e1 e3 hc ok
        go_enter Try.func44, Try.ntmps44
        go_wp2_with (first
          | (go_at_call 51; refine (rnumber_c _ _ (by omega)).mono ?_; rintro e w' ⟨rfl, rfl⟩)
          | (go_at_call 40; refine (rcdays_c _ _).mono ?_; rintro e w' ⟨rfl, rfl⟩))
        go_ret2
        exact ⟨ret_ints HE.out.1.symm HE.out.2.symm, rfl⟩
  · have HE := Lib.hid (Cal.py_bad s (Cal.py_len s hl))
    have q : ((s.size : Int) != 4) = true := by rw [bne_iff_ne]; omega
    clear hl
    go_enter Try.func44, Try.ntmps44
    go_wp2
    go_ret2
    exact ⟨ret_ints HE.out.1.symm HE.out.2.symm, rfl⟩

end Go.Proofs.Ytplbjbpdinmjeaa
