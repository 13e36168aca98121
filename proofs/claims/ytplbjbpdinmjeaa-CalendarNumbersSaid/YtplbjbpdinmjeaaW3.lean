/-
  Contracts: Split, Join, firstOf, numberOf, Cycle, CycleDays, Later, of the program.
-/
import Derived.Test.YtplbjbpdinmjeaaW2
import Derived.Test.YtplbjbpdinmjeaaPlain2
namespace Go.Proofs.Ytplbjbpdinmjeaa
set_option linter.unusedVariables false
open Go.RowKit

theorem ret_ints3 {a b c d x y : Int} {k l m : IntKind} (h : a = b) (h2 : c = d) (h3 : x = y) : Ending.returned (.tuple #[.int k a, .int l c, .int m x]) = .returned (.tuple #[.int k b, .int l d, .int m y]) := by rw [h, h2, h3]
theorem ret_ints4 {a b c d x y u v : Int} {k l m n : IntKind} (h : a = b) (h2 : c = d) (h3 : x = y) (h4 : u = v) : Ending.returned (.tuple #[.int k a, .int l c, .int m x, .int n u]) = .returned (.tuple #[.int k b, .int l d, .int m y, .int n v]) := by rw [h, h2, h3, h4]

theorem split_vals (t : Int) : (Cal.spOk t = true → Cal.spA t = t / 144000 ∧ Cal.spB t = t % 144000 ∧ Cal.spE t = 0) ∧ (Cal.spOk t = false → Cal.spA t = 0 ∧ Cal.spB t = 0 ∧ Cal.spE t = 2) := by
  unfold Cal.spA Cal.spB Cal.spE
  constructor <;> intro h <;> simp [h]

theorem split_c (t : Int) (w : World) (ht : t ≤ 9223372036854775807) : Calls Try.prog 26 #[.int .i64 t] w fun e w' => e = .returned (.tuple #[.int .i64 (Cal.spA t), .int .i64 (Cal.spB t), .int .i64 (Cal.spE t)]) ∧ w = w' := by
  obtain ⟨sy, sn⟩ := split_vals t
  by_cases h1 : t < 0
  · obtain ⟨e1, e2, e3⟩ := sn (Cal.sp_no t (by omega))
    rw [e1, e2, e3]
    clear sy sn e1 e2 e3
    go_enter Try.func26, Try.ntmps26
    go_wp2
    go_ret3
    exact ⟨rfl, rfl⟩
  · by_cases h2 : 36524 < t / 144000
    · obtain ⟨e1, e2, e3⟩ := sn (Cal.sp_no t (by omega))
      rw [e1, e2, e3]
      clear sy sn e1 e2 e3
      go_enter Try.func26, Try.ntmps26
      go_wp2
      go_ret3
      exact ⟨rfl, rfl⟩
    · obtain ⟨e1, e2, e3⟩ := sy (Cal.sp_yes t (by omega) (by omega))
      rw [e1, e2, e3]
      clear sy sn e1 e2 e3
      go_enter Try.func26, Try.ntmps26
      go_wp2
      go_ret3
      exact ⟨rfl, rfl⟩

theorem join_vals (d c : Int) : (Cal.jnOk d c = true → Cal.jnV d c = d * 144000 + c ∧ Cal.jnE d c = 0) ∧ (Cal.jnOk d c = false → Cal.jnV d c = 0 ∧ Cal.jnE d c = 2) := by
  unfold Cal.jnV Cal.jnE
  constructor <;> intro h <;> simp [h]

set_option maxHeartbeats 800000 in
theorem join_c (d c : Int) (w : World) : Calls Try.prog 28 #[.int .i64 d, .int .i64 c] w fun e w' => e = .returned (.tuple #[.int .i64 (Cal.jnV d c), .int .i64 (Cal.jnE d c)]) ∧ w = w' := by
  obtain ⟨sy, sn⟩ := join_vals d c
  by_cases h : 0 ≤ d ∧ d ≤ 36524 ∧ 0 ≤ c ∧ c < 144000
  · obtain ⟨e1, e2⟩ := sy (Cal.jn_yes d c h)
    obtain ⟨h1, h2, h3, h4⟩ := h
    rw [e1, e2]
    clear sy sn e1 e2
    go_enter Try.func28, Try.ntmps28
    go_wp2
    go_ret2
    exact ⟨rfl, rfl⟩
  · obtain ⟨e1, e2⟩ := sn (Cal.jn_no d c h)
    rw [e1, e2]
    clear sy sn e1 e2
    by_cases h1 : d < 0
    · go_enter Try.func28, Try.ntmps28
      go_wp2
      go_ret2
      exact ⟨rfl, rfl⟩
    · by_cases h2 : 36524 < d
      · go_enter Try.func28, Try.ntmps28
        go_wp2
        go_ret2
        exact ⟨rfl, rfl⟩
      · by_cases h3 : c < 0
        · go_enter Try.func28, Try.ntmps28
          go_wp2
          go_ret2
          exact ⟨rfl, rfl⟩
        · have h4 : 144000 ≤ c := by omega
          go_enter Try.func28, Try.ntmps28
          go_wp2
          go_ret2
          exact ⟨rfl, rfl⟩

theorem fo_c (y : Int) (w : World) (h1 : 2000 ≤ y) (h2 : y ≤ 2099) : Calls Try.prog 49 #[.int .i64 y] w fun e w' => e = .returned (.int .i64 (Cal.fo y)) ∧ w = w' := by
  have hj := Cal.jan_bd y (by omega) (by omega)
  by_cases h : Cal.jan y ≤ 26
  · go_enter Try.func49, Try.ntmps49
    go_wp2_with (go_at_call 45; refine (jan_c _ _ (by omega) (by omega)).mono ?_; rintro e w' ⟨rfl, rfl⟩)
    go_ret
    exact ⟨ret_int (by unfold Cal.fo; rw [if_pos h]), rfl⟩
  · go_enter Try.func49, Try.ntmps49
    go_wp2_with (go_at_call 45; refine (jan_c _ _ (by omega) (by omega)).mono ?_; rintro e w' ⟨rfl, rfl⟩)
    go_ret
    exact ⟨ret_int (by unfold Cal.fo; rw [if_neg (by omega)]; omega), rfl⟩

theorem nof_c (f : Int) (w : World) (h1 : 26 ≤ f) (h2 : f ≤ 36524) (h3 : f % 28 = 26) : Calls Try.prog 47 #[.int .i64 f] w fun e w' => e = .returned (.int .i64 (Cal.nof f)) ∧ w = w' := by
  obtain ⟨p1, p2, p3, p4, p5, p6⟩ := Cal.nof_parts f h1 h2 h3
  clear p5 p6 h3
  go_enter Try.func47, Try.ntmps47
  go_wp2_with (first | (go_at_call 21; refine (date_yes _ _ (by omega) (by omega)).mono ?_; rintro e w' ⟨rfl, rfl⟩) | (go_at_call 49; refine (fo_c _ _ (by omega) (by omega)).mono ?_; rintro e w' ⟨rfl, rfl⟩))
  go_ret
  exact ⟨ret_int (by unfold Cal.nof; omega), rfl⟩

theorem cycle_yes (day : Int) (w : World) (h1 : 26 ≤ day) (h2 : day ≤ 36524) : Calls Try.prog 23 #[.int .i64 day] w fun e w' =>
    e = .returned (.tuple #[.int .i64 (Cal.nof (Cal.cyF day)), .int .i64 (Cal.cyF day), .int .i64 (Cal.cyF day + 28), .int .i64 0]) ∧ w = w' := by
  obtain ⟨p1, p2, p3, p4, p5⟩ := Cal.cyF_parts day h1 h2
  have P3 := Lib.hid p3
  clear p3
  go_enter Try.func23, Try.ntmps23
  go_wp2_with (go_at_call 47; refine (nof_c (Cal.cyF day) _ (by omega) (by omega) P3.out).mono ?_; rintro e w' ⟨rfl, rfl⟩)
  refine bodyPost_ret (results4 rfl _ _ _) rfl ?_
  exact ⟨rfl, rfl⟩
theorem cycle_no (day : Int) (w : World) (h : day < 26 ∨ 36524 < day) : Calls Try.prog 23 #[.int .i64 day] w fun e w' => e = .returned (.tuple #[.int .i64 0, .int .i64 0, .int .i64 0, .int .i64 2]) ∧ w = w' := by
  rcases h with h | h
  · go_enter Try.func23, Try.ntmps23
    go_wp2
    refine bodyPost_ret (results4 rfl _ _ _) rfl ?_
    exact ⟨rfl, rfl⟩
  · have h' : ¬ day < 26 := by omega
    go_enter Try.func23, Try.ntmps23
    go_wp2
    refine bodyPost_ret (results4 rfl _ _ _) rfl ?_
    exact ⟨rfl, rfl⟩

theorem cf_eq (n : Int) : Cal.cf n = Cal.fo (2000 + n / 100) + (n % 100 - 1) * 28 := rfl

set_option maxHeartbeats 1000000 in
theorem cdays_c (n : Int) (w : World) : Calls Try.prog 25 #[.int .i64 n] w fun e w' => e = .returned (.tuple #[.int .i64 (Cal.cdA n), .int .i64 (Cal.cdB n), .int .i64 (Cal.cdE n)]) ∧ w = w' := by
  by_cases h1 : n < 0
  · obtain ⟨e1, e2, e3⟩ := Cal.cd_range n (by omega)
    rw [e1, e2, e3]
    clear e1 e2 e3
    go_enter Try.func25, Try.ntmps25
    go_wp2
    go_ret3
    exact ⟨rfl, rfl⟩
  · by_cases h2 : 9999 < n
    · obtain ⟨e1, e2, e3⟩ := Cal.cd_range n (by omega)
      rw [e1, e2, e3]
      clear e1 e2 e3
      go_enter Try.func25, Try.ntmps25
      go_wp2
      go_ret3
      exact ⟨rfl, rfl⟩
    · have fb := Cal.fo_bd (2000 + n / 100) (by omega) (by omega)
      have cm : (Cal.fo (2000 + n / 100) + (n % 100 - 1) * 28) % 28 = 26 := Cal.cf_mod n (by omega) (by omega)
      obtain ⟨f1, f2, f3, f4, f5⟩ := fb
      have CM := Lib.hid cm
      clear f4 cm
      by_cases h3 : n % 100 = 0
      · obtain ⟨e1, e2, e3⟩ := Cal.cd_none n (by omega) (by omega) (Cal.cok_false n (by omega) (by omega) (by omega))
        rw [e1, e2, e3]
        clear e1 e2 e3
        go_enter Try.func25, Try.ntmps25
        go_wp2_with (go_at_call 49; refine (fo_c _ _ (by omega) (by omega)).mono ?_; rintro e w' ⟨rfl, rfl⟩)
        go_ret3
        exact ⟨rfl, rfl⟩
      · have h3' : (n % 100 == 0) = false := by simpa using h3
        have h26 : ¬ Cal.fo (2000 + n / 100) + (n % 100 - 1) * 28 < 26 := by omega
        by_cases h4 : 36524 < Cal.fo (2000 + n / 100) + (n % 100 - 1) * 28
        · obtain ⟨e1, e2, e3⟩ := Cal.cd_none n (by omega) (by omega) (Cal.cok_false n (by omega) (by omega) (by rw [cf_eq]; omega))
          rw [e1, e2, e3]
          clear e1 e2 e3
          go_enter Try.func25, Try.ntmps25
          go_wp2_with (go_at_call 49; refine (fo_c _ _ (by omega) (by omega)).mono ?_; rintro e w' ⟨rfl, rfl⟩)
          go_ret3
          exact ⟨rfl, rfl⟩
        · have hn := Cal.nof_cf n (by omega) (by omega) h3 (by rw [cf_eq]; omega)
          by_cases h5 : Cal.nof (Cal.cf n) = n
          · obtain ⟨e1, e2, e3⟩ := Cal.cd_yes n (Cal.cok_true n (by omega) (by omega) h3 (by rw [cf_eq]; omega) (hn.1 h5))
            rw [e1, e2, e3]
            have h5' : (Cal.nof (Cal.fo (2000 + n / 100) + (n % 100 - 1) * 28) != n) = false := by rw [← cf_eq]; simpa using h5
            clear e1 e2 e3 hn h5
            go_enter Try.func25, Try.ntmps25
            go_wp2_with (first | (go_at_call 49; refine (fo_c _ _ (by omega) (by omega)).mono ?_; rintro e w' ⟨rfl, rfl⟩) | (go_at_call 47; refine (nof_c _ _ (by omega) (by omega) CM.out).mono ?_; rintro e w' ⟨rfl, rfl⟩))
            go_ret3
            exact ⟨rfl, rfl⟩
          · obtain ⟨e1, e2, e3⟩ := Cal.cd_none n (by omega) (by omega) (Cal.cok_false n (by omega) (by omega) (Or.inr (Or.inr (fun h => h5 (hn.2 h)))))
            rw [e1, e2, e3]
            have h5' : (Cal.nof (Cal.fo (2000 + n / 100) + (n % 100 - 1) * 28) != n) = true := by rw [← cf_eq]; simpa using h5
            clear e1 e2 e3 hn h5
            go_enter Try.func25, Try.ntmps25
            go_wp2_with (first | (go_at_call 49; refine (fo_c _ _ (by omega) (by omega)).mono ?_; rintro e w' ⟨rfl, rfl⟩) | (go_at_call 47; refine (nof_c _ _ (by omega) (by omega) CM.out).mono ?_; rintro e w' ⟨rfl, rfl⟩))
            go_ret3
            exact ⟨rfl, rfl⟩

theorem la_vals (number n : Int) : (Cal.cok number = true → Cal.laOk number n = true → Cal.laV number n = Cal.nof (Cal.cf number + 28 * n) ∧ Cal.laE number n = 0) ∧
    (Cal.cok number = true → Cal.laOk number n = false → Cal.laV number n = 0 ∧ Cal.laE number n = 2) ∧ (Cal.cok number = false → Cal.laV number n = 0 ∧ Cal.laE number n = Cal.cdE number) := by
  unfold Cal.laV Cal.laE
  refine ⟨fun a b => ?_, fun a b => ?_, fun a => ?_⟩
  · have := Cal.cok_parts number a
    rw [if_pos ⟨a, b⟩, if_neg (by omega), if_pos a, if_pos b]; exact ⟨rfl, rfl⟩
  · have := Cal.cok_parts number a
    rw [if_neg (by simp [b]), if_neg (by omega), if_pos a, if_neg (by simp [b])]; exact ⟨rfl, rfl⟩
  · rw [if_neg (by simp [a])]
    refine ⟨rfl, ?_⟩
    unfold Cal.cdE
    split
    · rfl
    · rw [if_neg (by simp [a]), if_neg (by simp [a])]
theorem cdE_zero (n : Int) (h : Cal.cok n = true) : Cal.cdE n = 0 := (Cal.cd_yes n h).2.2
theorem cdE_ne (n : Int) (h : Cal.cok n = false) : (Cal.cdE n != 0) = true := by
  by_cases h1 : n < 0 ∨ 9999 < n
  · rw [(Cal.cd_range n h1).2.2]; rfl
  · rw [(Cal.cd_none n (by omega) (by omega) h).2.2]; rfl

set_option maxHeartbeats 1000000 in
theorem later_c (number n : Int) (w : World) : Calls Try.prog 30 #[.int .i64 number, .int .i64 n] w fun e w' => e = .returned (.tuple #[.int .i64 (Cal.laV number n), .int .i64 (Cal.laE number n)]) ∧ w = w' := by
  obtain ⟨va, vb, vc⟩ := la_vals number n
  rcases hc : Cal.cok number with _ | _
  · obtain ⟨e1, e2⟩ := vc hc
    have hne := cdE_ne number hc
    rw [e1, e2]
    clear va vb vc e1 e2 hc
    go_enter Try.func30, Try.ntmps30
    go_wp2_with (go_at_call 25; refine (cdays_c _ _).mono ?_; rintro e w' ⟨rfl, rfl⟩)
    go_ret2
    exact ⟨rfl, rfl⟩
  · obtain ⟨p1, p2, p3⟩ := Cal.cd_yes number hc
    obtain ⟨q1, q2, q3, q4, q5, q6, q7, q8⟩ := Cal.cok_parts number hc
    clear q3 q7 q8
    rcases hl : Cal.laOk number n with _ | _
    · obtain ⟨e1, e2⟩ := vb hc hl
      rw [e1, e2]
      clear va vb vc e1 e2 hc q6
      have hl' := of_decide_eq_false hl
      by_cases h1 : n < -36524
      · clear hl hl'
        go_enter Try.func30, Try.ntmps30
        go_wp2_with (go_at_call 25; refine (cdays_c _ _).mono ?_; rintro e w' ⟨rfl, rfl⟩)
        go_ret2
        exact ⟨rfl, rfl⟩
      · by_cases h2 : 36524 < n
        · clear hl hl'
          go_enter Try.func30, Try.ntmps30
          go_wp2_with (go_at_call 25; refine (cdays_c _ _).mono ?_; rintro e w' ⟨rfl, rfl⟩)
          go_ret2
          exact ⟨rfl, rfl⟩
        · by_cases h3 : Cal.cf number + 28 * n < 26
          · clear hl hl'
            go_enter Try.func30, Try.ntmps30
            go_wp2_with (go_at_call 25; refine (cdays_c _ _).mono ?_; rintro e w' ⟨rfl, rfl⟩)
            go_ret2
            exact ⟨rfl, rfl⟩
          · have h4 : 36524 < Cal.cf number + 28 * n := by omega
            clear hl hl'
            go_enter Try.func30, Try.ntmps30
            go_wp2_with (go_at_call 25; refine (cdays_c _ _).mono ?_; rintro e w' ⟨rfl, rfl⟩)
            go_ret2
            exact ⟨rfl, rfl⟩
    · obtain ⟨e1, e2⟩ := va hc hl
      rw [e1, e2]
      clear va vb vc e1 e2 hc
      have hl' := of_decide_eq_true hl
      obtain ⟨r1, r2, r3, r4⟩ := hl'
      have hm : (Cal.cf number + 28 * n) % 28 = 26 := by omega
      have HM := Lib.hid hm
      clear hm q6 hl
      go_enter Try.func30, Try.ntmps30
      go_wp2_with (first | (go_at_call 25; refine (cdays_c _ _).mono ?_; rintro e w' ⟨rfl, rfl⟩) | (go_at_call 47; refine (nof_c _ _ (by omega) (by omega) HM.out).mono ?_; rintro e w' ⟨rfl, rfl⟩))
      go_ret2
      exact ⟨rfl, rfl⟩

end Go.Proofs.Ytplbjbpdinmjeaa
