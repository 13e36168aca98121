/-
  Contracts: New, Endurance.
-/
import Derived.Test.YtoebjiocmnonnaaW3
namespace Go.Proofs.Ytoebjiocmnonnaa
set_option linter.unusedVariables false
open Go.RowKit


theorem new_c (E L R : Int) (w : World) : Calls Try.prog 21 #[.int .i64 E, .int .i64 L, .int .i64 R] w fun e w' =>
    e = .returned (.tuple #[.agg #[.int .i64 (Fu.sel (Fu.ck E L R 0) E), .int .i64 (Fu.sel (Fu.ck E L R 0) L), .int .i64 (Fu.sel (Fu.ck E L R 0) R), .int .i64 0], .int .i64 (Fu.ck E L R 0)]) ∧ Below w.heap.size w w' := by
  by_cases h : Fu.ok E L R 0
  · have hk := Fu.ck_yes h
    have HK := Lib.hid hk
    clear h
    go_enter Try.func21, Try.ntmps21
    go_wp2_with (go_at_call 24; refine (check_c _ _ _ _ _).mono ?_; rintro e w1 ⟨rfl, hb⟩; obtain ⟨c0, c1, c2, c3, d0, d1, d2, d3, f0, g0, hz, hbw⟩ := two_cells hb)
    refine bodyPost_ret (v := .tuple #[.agg #[.int .i64 E, .int .i64 L, .int .i64 R, .int .i64 0], .int .i64 0]) (by simp [results, Try.results21, go_sem, *]) rfl ⟨?_, (by repeat (first | assumption | refine Below.setCell ?_ (by simp) _))⟩
    exact ret_acc (by rw [HK.out]; rfl) (by rw [HK.out]; rfl) (by rw [HK.out]; rfl) rfl HK.out.symm
  · have hk := Fu.ck_no h
    have HK := Lib.hid hk
    clear h
    go_enter Try.func21, Try.ntmps21
    go_wp2_with (go_at_call 24; refine (check_c _ _ _ _ _).mono ?_; rintro e w1 ⟨rfl, hb⟩; obtain ⟨c0, c1, c2, c3, d0, d1, d2, d3, f0, g0, hz, hbw⟩ := two_cells hb)
    refine bodyPost_ret (v := .tuple #[.agg #[.int .i64 0, .int .i64 0, .int .i64 0, .int .i64 0], .int .i64 2]) (by simp [results, Try.results21, go_sem, *]) rfl ⟨?_, (by repeat (first | assumption | refine Below.setCell ?_ (by simp) _))⟩
    exact ret_acc (by rw [HK.out]; rfl) (by rw [HK.out]; rfl) (by rw [HK.out]; rfl) rfl HK.out.symm

theorem rnew_c (E L R : Int) (w : World) : Calls Try.prog 23 #[.int .i64 E, .int .i64 L, .int .i64 R] w fun e w' =>
    e = .returned (.tuple #[.agg #[.int .i64 (Fu.sel (Fu.ck E L R 0) E), .int .i64 (Fu.sel (Fu.ck E L R 0) L), .int .i64 (Fu.sel (Fu.ck E L R 0) R), .int .i64 0], .int .i64 (Fu.ck E L R 0)]) ∧ Below w.heap.size w w' := by
  by_cases h : Fu.ok E L R 0
  · have hk := Fu.ck_yes h
    have HK := Lib.hid hk
    clear h
    go_enter Try.func23, Try.ntmps23
    go_wp2_with (go_at_call 25; refine (rcheck_c _ _ _ _ _).mono ?_; rintro e w1 ⟨rfl, hb⟩; obtain ⟨c0, c1, c2, c3, d0, d1, d2, d3, f0, g0, hz, hbw⟩ := two_cells hb)
    refine bodyPost_ret (v := .tuple #[.agg #[.int .i64 E, .int .i64 L, .int .i64 R, .int .i64 0], .int .i64 0]) (by simp [results, Try.results23, go_sem, *]) rfl ⟨?_, (by repeat (first | assumption | refine Below.setCell ?_ (by simp) _))⟩
    exact ret_acc (by rw [HK.out]; rfl) (by rw [HK.out]; rfl) (by rw [HK.out]; rfl) rfl HK.out.symm
  · have hk := Fu.ck_no h
    have HK := Lib.hid hk
    clear h
    go_enter Try.func23, Try.ntmps23
    go_wp2_with (go_at_call 25; refine (rcheck_c _ _ _ _ _).mono ?_; rintro e w1 ⟨rfl, hb⟩; obtain ⟨c0, c1, c2, c3, d0, d1, d2, d3, f0, g0, hz, hbw⟩ := two_cells hb)
    refine bodyPost_ret (v := .tuple #[.agg #[.int .i64 0, .int .i64 0, .int .i64 0, .int .i64 0], .int .i64 2]) (by simp [results, Try.results23, go_sem, *]) rfl ⟨?_, (by repeat (first | assumption | refine Below.setCell ?_ (by simp) _))⟩
    exact ret_acc (by rw [HK.out]; rfl) (by rw [HK.out]; rfl) (by rw [HK.out]; rfl) rfl HK.out.symm

set_option maxHeartbeats 2000000 in
theorem endur_c (E L R B f : Int) (w : World) : Calls Try.prog 14 #[.agg #[.int .i64 E, .int .i64 L, .int .i64 R, .int .i64 B], .int .i64 f] w fun e w' => e = .returned (.tuple #[.int .i64 (Fu.endV E L R B f), .int .i64 (Fu.endE E L R B f)]) ∧ Below w.heap.size w w' := by
  by_cases h : Fu.ok E L R B
  rotate_left
  · have HE := Lib.hid (Fu.end_1 h (f := f))
    have hk := Fu.ck_no h
    clear h
    go_enter Try.func14, Try.ntmps14
    go_wp2_with (first | (go_at_call 24; refine (check_c _ _ _ _ _).mono ?_; rintro e w1 ⟨rfl, hb⟩; obtain ⟨c0, c1, c2, c3, hz, hbw⟩ := acc_keep (acc_new (.int .i64 E) (.int .i64 L) (.int .i64 R) (.int .i64 B) 23 w) hb; clear hb) | (go_at_call 20; refine (low_c _ _ _ _ _).mono ?_; rintro e w3 ⟨rfl, hb3⟩; obtain ⟨c0, c1, c2, c3, hz, hbw⟩ := acc_keep ⟨c0, c1, c2, c3, hz, hbw⟩ hb3))
    go_ret2
    exact ⟨ret_ints (by unfold Fu.endV; rw [HE.out]; rfl) HE.out.symm, hbw⟩
  have hk := Fu.ck_yes h
  by_cases f1 : f < 1
  · have HE := Lib.hid (Fu.end_2 h (f := f) (Or.inl f1))
    clear h
    go_enter Try.func14, Try.ntmps14
    go_wp2_with (first | (go_at_call 24; refine (check_c _ _ _ _ _).mono ?_; rintro e w1 ⟨rfl, hb⟩; obtain ⟨c0, c1, c2, c3, hz, hbw⟩ := acc_keep (acc_new (.int .i64 E) (.int .i64 L) (.int .i64 R) (.int .i64 B) 23 w) hb; clear hb) | (go_at_call 20; refine (low_c _ _ _ _ _).mono ?_; rintro e w3 ⟨rfl, hb3⟩; obtain ⟨c0, c1, c2, c3, hz, hbw⟩ := acc_keep ⟨c0, c1, c2, c3, hz, hbw⟩ hb3))
    go_ret2
    exact ⟨ret_ints (by unfold Fu.endV; rw [HE.out]; rfl) HE.out.symm, hbw⟩
  by_cases f2 : 50000 < f
  · have HE := Lib.hid (Fu.end_2 h (f := f) (Or.inr f2))
    clear h
    go_enter Try.func14, Try.ntmps14
    go_wp2_with (first | (go_at_call 24; refine (check_c _ _ _ _ _).mono ?_; rintro e w1 ⟨rfl, hb⟩; obtain ⟨c0, c1, c2, c3, hz, hbw⟩ := acc_keep (acc_new (.int .i64 E) (.int .i64 L) (.int .i64 R) (.int .i64 B) 23 w) hb; clear hb) | (go_at_call 20; refine (low_c _ _ _ _ _).mono ?_; rintro e w3 ⟨rfl, hb3⟩; obtain ⟨c0, c1, c2, c3, hz, hbw⟩ := acc_keep ⟨c0, c1, c2, c3, hz, hbw⟩ hb3))
    go_ret2
    exact ⟨ret_ints (by unfold Fu.endV; rw [HE.out]; rfl) HE.out.symm, hbw⟩
  have hl : Fu.lf E L R B = L - B := by unfold Fu.lf; rw [hk]; rfl
  have hf0 : (f == 0) = false := by rw [beq_eq_false_iff_ne]; omega
  have hfn : ¬ f = 0 := by omega
  by_cases hlt : L - B < R
  · have HE := Lib.hid (Fu.end_3 h (f := f) (by omega) hlt)
    have hlow : Fu.low E L R B = true := decide_eq_true ⟨h, hlt⟩
    clear h
    go_enter Try.func14, Try.ntmps14
    go_wp2_with (first | (go_at_call 24; refine (check_c _ _ _ _ _).mono ?_; rintro e w1 ⟨rfl, hb⟩; obtain ⟨c0, c1, c2, c3, hz, hbw⟩ := acc_keep (acc_new (.int .i64 E) (.int .i64 L) (.int .i64 R) (.int .i64 B) 23 w) hb; clear hb) | (go_at_call 20; refine (low_c _ _ _ _ _).mono ?_; rintro e w3 ⟨rfl, hb3⟩; obtain ⟨c0, c1, c2, c3, hz, hbw⟩ := acc_keep ⟨c0, c1, c2, c3, hz, hbw⟩ hb3))
    go_ret2
    exact ⟨ret_ints (by unfold Fu.endV; rw [HE.out]; rfl) HE.out.symm, hbw⟩
  · have HE := Lib.hid (Fu.end_4 h (f := f) (by omega) hlt)
    have hlow : Fu.low E L R B = false := decide_eq_false (fun q => hlt q.2)
    obtain ⟨h1, h2, h3, h4, h5, h6, h7, h8⟩ := h
    have hw1 : IntKind.i64.wrap (L - B - R) = L - B - R := IntWalk.i64_in _ (by omega)
    have hq : (L - B - R) / f ≤ L - B - R := Int.ediv_le_self _ (by omega)
    have hq0 : 0 ≤ (L - B - R) / f := Int.ediv_nonneg (by omega) (by omega)
    have hw2 : IntKind.i64.wrap ((L - B - R).tdiv f) = (L - B - R) / f := by rw [Int.tdiv_eq_ediv_of_nonneg (by omega)]; exact IntWalk.i64_in _ (by omega)
    go_enter Try.func14, Try.ntmps14
    go_wp2_with (first | (go_at_call 24; refine (check_c _ _ _ _ _).mono ?_; rintro e w1 ⟨rfl, hb⟩; obtain ⟨c0, c1, c2, c3, hz, hbw⟩ := acc_keep (acc_new (.int .i64 E) (.int .i64 L) (.int .i64 R) (.int .i64 B) 23 w) hb; clear hb) | (go_at_call 20; refine (low_c _ _ _ _ _).mono ?_; rintro e w3 ⟨rfl, hb3⟩; obtain ⟨c0, c1, c2, c3, hz, hbw⟩ := acc_keep ⟨c0, c1, c2, c3, hz, hbw⟩ hb3))
    go_region_held3 (fun w' => w'.cell? ⟨w.heap.size, 0, none⟩ = some (.int .i64 E) ∧ w'.cell? ⟨w.heap.size, 1, none⟩ = some (.int .i64 L) ∧ w'.cell? ⟨w.heap.size, 2, none⟩ = some (.int .i64 R) ∧ w'.cell? ⟨w.heap.size, 3, none⟩ = some (.int .i64 B) ∧ w.heap.size < w'.heap.size ∧ Below w.heap.size w w') (first | exact acc_drew (acc_new _ _ _ _ _ _) | exact ⟨c0, c1, c2, c3, hz, hbw.drew⟩ | exact acc_keep (by assumption) (by assumption)) (first | (go_at_call 22; refine (left_c _ _ _ _ _).mono ?_; rintro e w2 ⟨rfl, hb2⟩))
    go_wp2
    go_ret2
    exact ⟨ret_ints (by unfold Fu.endV; rw [HE.out]; rfl) HE.out.symm, bt hbw.drew hb2⟩

set_option maxHeartbeats 2000000 in
theorem rendur_c (E L R B f : Int) (w : World) : Calls Try.prog 15 #[.agg #[.int .i64 E, .int .i64 L, .int .i64 R, .int .i64 B], .int .i64 f] w fun e w' => e = .returned (.tuple #[.int .i64 (Fu.endV E L R B f), .int .i64 (Fu.endE E L R B f)]) ∧ Below w.heap.size w w' := by
  by_cases h : Fu.ok E L R B
  rotate_left
  · have HE := Lib.hid (Fu.end_1 h (f := f))
    have hk := Fu.ck_no h
    clear h
    go_enter Try.func15, Try.ntmps15
    go_wp2_with (first | (go_at_call 25; refine (rcheck_c _ _ _ _ _).mono ?_; rintro e w1 ⟨rfl, hb⟩; obtain ⟨c0, c1, c2, c3, hz, hbw⟩ := acc_keep (acc_new (.int .i64 E) (.int .i64 L) (.int .i64 R) (.int .i64 B) 23 w) hb; clear hb))
    go_ret2
    exact ⟨ret_ints (by unfold Fu.endV; rw [HE.out]; rfl) HE.out.symm, hbw⟩
  have hk := Fu.ck_yes h
  by_cases f1 : f < 1
  · have HE := Lib.hid (Fu.end_2 h (f := f) (Or.inl f1))
    clear h
    go_enter Try.func15, Try.ntmps15
    go_wp2_with (first | (go_at_call 25; refine (rcheck_c _ _ _ _ _).mono ?_; rintro e w1 ⟨rfl, hb⟩; obtain ⟨c0, c1, c2, c3, hz, hbw⟩ := acc_keep (acc_new (.int .i64 E) (.int .i64 L) (.int .i64 R) (.int .i64 B) 23 w) hb; clear hb))
    go_ret2
    exact ⟨ret_ints (by unfold Fu.endV; rw [HE.out]; rfl) HE.out.symm, hbw⟩
  by_cases f2 : 50000 < f
  · have HE := Lib.hid (Fu.end_2 h (f := f) (Or.inr f2))
    clear h
    go_enter Try.func15, Try.ntmps15
    go_wp2_with (first | (go_at_call 25; refine (rcheck_c _ _ _ _ _).mono ?_; rintro e w1 ⟨rfl, hb⟩; obtain ⟨c0, c1, c2, c3, hz, hbw⟩ := acc_keep (acc_new (.int .i64 E) (.int .i64 L) (.int .i64 R) (.int .i64 B) 23 w) hb; clear hb))
    go_ret2
    exact ⟨ret_ints (by unfold Fu.endV; rw [HE.out]; rfl) HE.out.symm, hbw⟩
  have hl : Fu.lf E L R B = L - B := by unfold Fu.lf; rw [hk]; rfl
  have hf0 : (f == 0) = false := by rw [beq_eq_false_iff_ne]; omega
  have hfn : ¬ f = 0 := by omega
  by_cases hlt : L - B < R
  · have HE := Lib.hid (Fu.end_3 h (f := f) (by omega) hlt)
    clear h
    go_enter Try.func15, Try.ntmps15
    go_wp2_with (first | (go_at_call 25; refine (rcheck_c _ _ _ _ _).mono ?_; rintro e w1 ⟨rfl, hb⟩; obtain ⟨c0, c1, c2, c3, hz, hbw⟩ := acc_keep (acc_new (.int .i64 E) (.int .i64 L) (.int .i64 R) (.int .i64 B) 23 w) hb; clear hb))
    go_region_held3 (fun w' => w'.cell? ⟨w.heap.size, 0, none⟩ = some (.int .i64 E) ∧ w'.cell? ⟨w.heap.size, 1, none⟩ = some (.int .i64 L) ∧ w'.cell? ⟨w.heap.size, 2, none⟩ = some (.int .i64 R) ∧ w'.cell? ⟨w.heap.size, 3, none⟩ = some (.int .i64 B) ∧ w.heap.size < w'.heap.size ∧ Below w.heap.size w w') (first | exact acc_drew (acc_new _ _ _ _ _ _) | exact ⟨c0, c1, c2, c3, hz, hbw.drew⟩ | exact acc_keep (by assumption) (by assumption)) (first | (go_at_call 26; refine (rleft_c _ _ _ _ _).mono ?_; rintro e w2 ⟨rfl, hb2⟩))
    go_wp2
    go_ret2
    exact ⟨ret_ints (by unfold Fu.endV; rw [HE.out]; rfl) HE.out.symm, bt hbw.drew hb2⟩
  · have HE := Lib.hid (Fu.end_4 h (f := f) (by omega) hlt)
    have hd : decide (L - B < R) = false := decide_eq_false hlt
    obtain ⟨h1, h2, h3, h4, h5, h6, h7, h8⟩ := h
    have hw1 : IntKind.i64.wrap (L - B - R) = L - B - R := IntWalk.i64_in _ (by omega)
    have hq : (L - B - R) / f ≤ L - B - R := Int.ediv_le_self _ (by omega)
    have hq0 : 0 ≤ (L - B - R) / f := Int.ediv_nonneg (by omega) (by omega)
    have hw2 : IntKind.i64.wrap ((L - B - R).tdiv f) = (L - B - R) / f := by rw [Int.tdiv_eq_ediv_of_nonneg (by omega)]; exact IntWalk.i64_in _ (by omega)
    go_enter Try.func15, Try.ntmps15
    go_wp2_with (first | (go_at_call 25; refine (rcheck_c _ _ _ _ _).mono ?_; rintro e w1 ⟨rfl, hb⟩; obtain ⟨c0, c1, c2, c3, hz, hbw⟩ := acc_keep (acc_new (.int .i64 E) (.int .i64 L) (.int .i64 R) (.int .i64 B) 23 w) hb; clear hb))
    go_region_held3 (fun w' => w'.cell? ⟨w.heap.size, 0, none⟩ = some (.int .i64 E) ∧ w'.cell? ⟨w.heap.size, 1, none⟩ = some (.int .i64 L) ∧ w'.cell? ⟨w.heap.size, 2, none⟩ = some (.int .i64 R) ∧ w'.cell? ⟨w.heap.size, 3, none⟩ = some (.int .i64 B) ∧ w.heap.size < w'.heap.size ∧ Below w.heap.size w w') (first | exact acc_drew (acc_new _ _ _ _ _ _) | exact ⟨c0, c1, c2, c3, hz, hbw.drew⟩ | exact acc_keep (by assumption) (by assumption)) (first | (go_at_call 26; refine (rleft_c _ _ _ _ _).mono ?_; rintro e w2 ⟨rfl, hb2⟩))
    rename_i hH
    have hb3 := hb2
    obtain ⟨c0, c1, c2, c3, hz, hbw⟩ := hH
    go_wp2_with fail
    go_region_held3 (fun w' => w'.cell? ⟨w.heap.size, 0, none⟩ = some (.int .i64 E) ∧ w'.cell? ⟨w.heap.size, 1, none⟩ = some (.int .i64 L) ∧ w'.cell? ⟨w.heap.size, 2, none⟩ = some (.int .i64 R) ∧ w'.cell? ⟨w.heap.size, 3, none⟩ = some (.int .i64 B) ∧ w.heap.size < w'.heap.size ∧ Below w.heap.size w w') (first | exact acc_drew (acc_new _ _ _ _ _ _) | exact ⟨c0, c1, c2, c3, hz, hbw.drew⟩ | exact acc_keep (by assumption) (by assumption)) (first | (go_at_call 26; refine (rleft_c _ _ _ _ _).mono ?_; rintro e w2 ⟨rfl, hb2⟩))
    go_wp2
    go_ret2
    exact ⟨ret_ints (by unfold Fu.endV; rw [HE.out]; rfl) HE.out.symm, bt hbw.drew hb2⟩

end Go.Proofs.Ytoebjiocmnonnaa
