/-
  Contracts: Left, Mass, Low.
-/
import Derived.Test.YtoebjiocmnonnaaW1
namespace Go.Proofs.Ytoebjiocmnonnaa
set_option linter.unusedVariables false
open Go.RowKit


theorem left_c (E L R B : Int) (w : World) : Calls Try.prog 22 #[.agg #[.int .i64 E, .int .i64 L, .int .i64 R, .int .i64 B]] w fun e w' => e = .returned (.int .i64 (Fu.lf E L R B)) ∧ Below w.heap.size w w' := by
  by_cases h : Fu.ok E L R B
  · have hk := Fu.ck_yes h
    have HL : Hid (Fu.lf E L R B = L - B) := Lib.hid (by unfold Fu.lf; rw [hk]; rfl)
    obtain ⟨h1, h2, h3, h4, h5, h6, h7, h8⟩ := h
    go_enter Try.func22, Try.ntmps22
    go_wp2_with (go_at_call 24; refine (check_c _ _ _ _ _).mono ?_; rintro e w1 ⟨rfl, hb⟩; obtain ⟨hc, hf⟩ := bcell hb)
    go_ret
    exact ⟨ret_int HL.out.symm, bt (ba _ _) hb⟩
  · have hk := Fu.ck_no h
    have HL : Hid (Fu.lf E L R B = 0) := Lib.hid (by unfold Fu.lf; rw [hk]; rfl)
    clear h
    go_enter Try.func22, Try.ntmps22
    go_wp2_with (go_at_call 24; refine (check_c _ _ _ _ _).mono ?_; rintro e w1 ⟨rfl, hb⟩; obtain ⟨hc, hf⟩ := bcell hb)
    go_ret
    exact ⟨ret_int HL.out.symm, bt (ba _ _) hb⟩

theorem rleft_c (E L R B : Int) (w : World) : Calls Try.prog 26 #[.agg #[.int .i64 E, .int .i64 L, .int .i64 R, .int .i64 B]] w fun e w' => e = .returned (.int .i64 (Fu.lf E L R B)) ∧ Below w.heap.size w w' := by
  by_cases h : Fu.ok E L R B
  · have hk := Fu.ck_yes h
    have HL : Hid (Fu.lf E L R B = L - B) := Lib.hid (by unfold Fu.lf; rw [hk]; rfl)
    obtain ⟨h1, h2, h3, h4, h5, h6, h7, h8⟩ := h
    go_enter Try.func26, Try.ntmps26
    go_wp2_with (go_at_call 25; refine (rcheck_c _ _ _ _ _).mono ?_; rintro e w1 ⟨rfl, hb⟩; obtain ⟨hc, hf⟩ := bcell hb)
    go_ret
    exact ⟨ret_int HL.out.symm, bt (ba _ _) hb⟩
  · have hk := Fu.ck_no h
    have HL : Hid (Fu.lf E L R B = 0) := Lib.hid (by unfold Fu.lf; rw [hk]; rfl)
    clear h
    go_enter Try.func26, Try.ntmps26
    go_wp2_with (go_at_call 25; refine (rcheck_c _ _ _ _ _).mono ?_; rintro e w1 ⟨rfl, hb⟩; obtain ⟨hc, hf⟩ := bcell hb)
    go_ret
    exact ⟨ret_int HL.out.symm, bt (ba _ _) hb⟩

theorem mass_c (E L R B : Int) (w : World) : Calls Try.prog 27 #[.agg #[.int .i64 E, .int .i64 L, .int .i64 R, .int .i64 B]] w fun e w' => e = .returned (.int .i64 (Fu.ms E L R B)) ∧ Below w.heap.size w w' := by
  by_cases h : Fu.ok E L R B
  · have hk := Fu.ck_yes h
    have hl : Fu.lf E L R B = L - B := by unfold Fu.lf; rw [hk]; rfl
    have HL : Hid (Fu.ms E L R B = E + (L - B)) := Lib.hid (by unfold Fu.ms; rw [hk]; rfl)
    obtain ⟨h1, h2, h3, h4, h5, h6, h7, h8⟩ := h
    go_enter Try.func27, Try.ntmps27
    go_wp2_with (go_at_call 24; refine (check_c _ _ _ _ _).mono ?_; rintro e w1 ⟨rfl, hb⟩; obtain ⟨c0, c1, c2, c3, hz, hbw⟩ := acc_keep (acc_new (.int .i64 E) (.int .i64 L) (.int .i64 R) (.int .i64 B) 23 w) hb; clear hb)
    have hw := IntWalk.i64_in (E + (L - B)) (by omega)
    go_region_held3 (fun w' => w'.cell? ⟨w.heap.size, 0, none⟩ = some (.int .i64 E) ∧ w'.cell? ⟨w.heap.size, 1, none⟩ = some (.int .i64 L) ∧ w'.cell? ⟨w.heap.size, 2, none⟩ = some (.int .i64 R) ∧ w'.cell? ⟨w.heap.size, 3, none⟩ = some (.int .i64 B) ∧ w.heap.size < w'.heap.size ∧ Below w.heap.size w w') (first | exact acc_drew (acc_new _ _ _ _ _ _) | exact ⟨c0, c1, c2, c3, hz, hbw.drew⟩ | exact acc_keep (by assumption) (by assumption)) (first | (go_at_call 22; refine (left_c _ _ _ _ _).mono ?_; rintro e w2 ⟨rfl, hb2⟩))
    go_wp2
    go_ret
    exact ⟨ret_int HL.out.symm, bt hbw.drew hb2⟩
  · have hk := Fu.ck_no h
    have HL : Hid (Fu.ms E L R B = 0) := Lib.hid (by unfold Fu.ms; rw [hk]; rfl)
    clear h
    go_enter Try.func27, Try.ntmps27
    go_wp2_with (go_at_call 24; refine (check_c _ _ _ _ _).mono ?_; rintro e w1 ⟨rfl, hb⟩; obtain ⟨hc, hf⟩ := bcell hb)
    go_ret
    exact ⟨ret_int HL.out.symm, bt (ba _ _) hb⟩

theorem rmass_c (E L R B : Int) (w : World) : Calls Try.prog 28 #[.agg #[.int .i64 E, .int .i64 L, .int .i64 R, .int .i64 B]] w fun e w' => e = .returned (.int .i64 (Fu.ms E L R B)) ∧ Below w.heap.size w w' := by
  by_cases h : Fu.ok E L R B
  · have hk := Fu.ck_yes h
    have HL : Hid (Fu.ms E L R B = E + L - B) := Lib.hid (by unfold Fu.ms; rw [hk, Fu.sel0]; omega)
    obtain ⟨h1, h2, h3, h4, h5, h6, h7, h8⟩ := h
    go_enter Try.func28, Try.ntmps28
    go_wp2_with (go_at_call 25; refine (rcheck_c _ _ _ _ _).mono ?_; rintro e w1 ⟨rfl, hb⟩; obtain ⟨hc, hf⟩ := bcell hb)
    go_ret
    exact ⟨ret_int HL.out.symm, bt (ba _ _) hb⟩
  · have hk := Fu.ck_no h
    have HL : Hid (Fu.ms E L R B = 0) := Lib.hid (by unfold Fu.ms; rw [hk]; rfl)
    clear h
    go_enter Try.func28, Try.ntmps28
    go_wp2_with (go_at_call 25; refine (rcheck_c _ _ _ _ _).mono ?_; rintro e w1 ⟨rfl, hb⟩; obtain ⟨hc, hf⟩ := bcell hb)
    go_ret
    exact ⟨ret_int HL.out.symm, bt (ba _ _) hb⟩

set_option maxHeartbeats 1000000 in
theorem low_c (E L R B : Int) (w : World) : Calls Try.prog 20 #[.agg #[.int .i64 E, .int .i64 L, .int .i64 R, .int .i64 B]] w fun e w' => e = .returned (.bool (Fu.low E L R B)) ∧ Below w.heap.size w w' := by
  by_cases h : Fu.ok E L R B
  · have hk := Fu.ck_yes h
    have hl : Fu.lf E L R B = L - B := by unfold Fu.lf; rw [hk]; rfl
    by_cases hlt : L - B < R
    · have HL : Hid (Fu.low E L R B = true) := Lib.hid (decide_eq_true ⟨h, hlt⟩)
      clear h
      go_enter Try.func20, Try.ntmps20
      go_wp2_with fail
      go_region_held3 (fun w' => w'.cell? ⟨w.heap.size, 0, none⟩ = some (.int .i64 E) ∧ w'.cell? ⟨w.heap.size, 1, none⟩ = some (.int .i64 L) ∧ w'.cell? ⟨w.heap.size, 2, none⟩ = some (.int .i64 R) ∧ w'.cell? ⟨w.heap.size, 3, none⟩ = some (.int .i64 B) ∧ w.heap.size < w'.heap.size ∧ Below w.heap.size w w') (first | exact acc_drew (acc_new _ _ _ _ _ _) | exact ⟨c0, c1, c2, c3, hz, hbw.drew⟩ | exact acc_keep (by assumption) (by assumption)) (first | (go_at_call 24; refine (check_c _ _ _ _ _).mono ?_; rintro e w1 ⟨rfl, hb1⟩) | (go_at_call 22; refine (left_c _ _ _ _ _).mono ?_; rintro e w2 ⟨rfl, hb2⟩))
      go_wp2
      go_ret
      exact ⟨ret_bool HL.out.symm, bt (bt (ba _ _).drew hb1) hb2⟩
    · have HL : Hid (Fu.low E L R B = false) := Lib.hid (decide_eq_false (fun q => hlt q.2))
      have hd : decide (L - B < R) = false := by simpa using hlt
      clear h hlt
      go_enter Try.func20, Try.ntmps20
      go_wp2_with fail
      go_region_held3 (fun w' => w'.cell? ⟨w.heap.size, 0, none⟩ = some (.int .i64 E) ∧ w'.cell? ⟨w.heap.size, 1, none⟩ = some (.int .i64 L) ∧ w'.cell? ⟨w.heap.size, 2, none⟩ = some (.int .i64 R) ∧ w'.cell? ⟨w.heap.size, 3, none⟩ = some (.int .i64 B) ∧ w.heap.size < w'.heap.size ∧ Below w.heap.size w w') (first | exact acc_drew (acc_new _ _ _ _ _ _) | exact ⟨c0, c1, c2, c3, hz, hbw.drew⟩ | exact acc_keep (by assumption) (by assumption)) (first | (go_at_call 24; refine (check_c _ _ _ _ _).mono ?_; rintro e w1 ⟨rfl, hb1⟩) | (go_at_call 22; refine (left_c _ _ _ _ _).mono ?_; rintro e w2 ⟨rfl, hb2⟩))
      go_wp2
      go_ret
      exact ⟨ret_bool HL.out.symm, bt (bt (ba _ _).drew hb1) hb2⟩
  · have hk := Fu.ck_no h
    have HL : Hid (Fu.low E L R B = false) := Lib.hid (decide_eq_false (fun q => h q.1))
    clear h
    go_enter Try.func20, Try.ntmps20
    go_wp2_with fail
    (first | go_region_with (go_at_call 24; refine (check_c _ _ _ _ _).mono ?_; rintro e w1 ⟨rfl, hb1⟩) | fail)
    all_goals go_wp2
    all_goals go_ret
    all_goals exact ⟨ret_bool HL.out.symm, bt (ba _ _).drew hb1⟩

set_option maxHeartbeats 1000000 in
theorem rlow_c (E L R B : Int) (w : World) : Calls Try.prog 29 #[.agg #[.int .i64 E, .int .i64 L, .int .i64 R, .int .i64 B]] w fun e w' => e = .returned (.bool (Fu.low E L R B)) ∧ Below w.heap.size w w' := by
  by_cases h : Fu.ok E L R B
  · have hk := Fu.ck_yes h
    have hl : Fu.lf E L R B = L - B := by unfold Fu.lf; rw [hk]; rfl
    by_cases hlt : L - B < R
    · have HL : Hid (Fu.low E L R B = true) := Lib.hid (decide_eq_true ⟨h, hlt⟩)
      clear h
      go_enter Try.func29, Try.ntmps29
      go_wp2_with fail
      go_region_held3 (fun w' => w'.cell? ⟨w.heap.size, 0, none⟩ = some (.int .i64 E) ∧ w'.cell? ⟨w.heap.size, 1, none⟩ = some (.int .i64 L) ∧ w'.cell? ⟨w.heap.size, 2, none⟩ = some (.int .i64 R) ∧ w'.cell? ⟨w.heap.size, 3, none⟩ = some (.int .i64 B) ∧ w.heap.size < w'.heap.size ∧ Below w.heap.size w w') (first | exact acc_drew (acc_new _ _ _ _ _ _) | exact ⟨c0, c1, c2, c3, hz, hbw.drew⟩ | exact acc_keep (by assumption) (by assumption)) (first | (go_at_call 25; refine (rcheck_c _ _ _ _ _).mono ?_; rintro e w1 ⟨rfl, hb1⟩) | (go_at_call 26; refine (rleft_c _ _ _ _ _).mono ?_; rintro e w2 ⟨rfl, hb2⟩))
      go_wp2
      go_ret
      exact ⟨ret_bool HL.out.symm, bt (bt (ba _ _).drew hb1) hb2⟩
    · have HL : Hid (Fu.low E L R B = false) := Lib.hid (decide_eq_false (fun q => hlt q.2))
      have hd : decide (L - B < R) = false := by simpa using hlt
      clear h hlt
      go_enter Try.func29, Try.ntmps29
      go_wp2_with fail
      go_region_held3 (fun w' => w'.cell? ⟨w.heap.size, 0, none⟩ = some (.int .i64 E) ∧ w'.cell? ⟨w.heap.size, 1, none⟩ = some (.int .i64 L) ∧ w'.cell? ⟨w.heap.size, 2, none⟩ = some (.int .i64 R) ∧ w'.cell? ⟨w.heap.size, 3, none⟩ = some (.int .i64 B) ∧ w.heap.size < w'.heap.size ∧ Below w.heap.size w w') (first | exact acc_drew (acc_new _ _ _ _ _ _) | exact ⟨c0, c1, c2, c3, hz, hbw.drew⟩ | exact acc_keep (by assumption) (by assumption)) (first | (go_at_call 25; refine (rcheck_c _ _ _ _ _).mono ?_; rintro e w1 ⟨rfl, hb1⟩) | (go_at_call 26; refine (rleft_c _ _ _ _ _).mono ?_; rintro e w2 ⟨rfl, hb2⟩))
      go_wp2
      go_ret
      exact ⟨ret_bool HL.out.symm, bt (bt (ba _ _).drew hb1) hb2⟩
  · have hk := Fu.ck_no h
    have HL : Hid (Fu.low E L R B = false) := Lib.hid (decide_eq_false (fun q => h q.1))
    clear h
    go_enter Try.func29, Try.ntmps29
    go_wp2_with fail
    (first | go_region_with (go_at_call 25; refine (rcheck_c _ _ _ _ _).mono ?_; rintro e w1 ⟨rfl, hb1⟩) | fail)
    all_goals go_wp2
    all_goals go_ret
    all_goals exact ⟨ret_bool HL.out.symm, bt (ba _ _).drew hb1⟩

end Go.Proofs.Ytoebjiocmnonnaa
