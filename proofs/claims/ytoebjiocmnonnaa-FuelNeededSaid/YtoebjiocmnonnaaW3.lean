/-
  Contracts: Burn.
-/
import Derived.Test.YtoebjiocmnonnaaW2
namespace Go.Proofs.Ytoebjiocmnonnaa
set_option linter.unusedVariables false
open Go.RowKit


set_option maxHeartbeats 2000000 in
theorem burn_c (E L R B f t : Int) (w : World) : Calls Try.prog 12 #[.agg #[.int .i64 E, .int .i64 L, .int .i64 R, .int .i64 B], .int .i64 f, .int .i64 t] w fun e w' =>
    e = .returned (.tuple #[.agg #[.int .i64 (Fu.sel (Fu.burnE E L R B f t) E), .int .i64 (Fu.sel (Fu.burnE E L R B f t) L), .int .i64 (Fu.sel (Fu.burnE E L R B f t) R), .int .i64 (Fu.sel (Fu.burnE E L R B f t) (B + f * t))], .int .i64 (Fu.burnE E L R B f t)]) ∧ Below w.heap.size w w' := by
  by_cases h : Fu.ok E L R B
  rotate_left
  · have HB := Lib.hid (Fu.burn_1 h (f := f) (t := t))
    have hk := Fu.ck_no h
    clear h
    go_enter Try.func12, Try.ntmps12
    go_wp2_with (go_at_call 24; refine (check_c _ _ _ _ _).mono ?_; rintro e w1 ⟨rfl, hb⟩; obtain ⟨c0, c1, c2, c3, d0, d1, d2, d3, f0, g0, hz, hbw⟩ := two_cells hb)
    refine bodyPost_ret (v := .tuple #[.agg #[.int .i64 0, .int .i64 0, .int .i64 0, .int .i64 0], .int .i64 2]) (by simp [results, Try.results12, go_sem, *]) rfl ⟨?_, (by repeat (first | assumption | refine Below.setCell ?_ (by simp) _))⟩
    exact ret_acc (by rw [HB.out]; rfl) (by rw [HB.out]; rfl) (by rw [HB.out]; rfl) (by rw [HB.out]; rfl) HB.out.symm
  have hk := Fu.ck_yes h
  by_cases f1 : 0 ≤ f
  rotate_left
  · have HB := Lib.hid (Fu.burn_2 h (f := f) (t := t) (fun q => absurd q.1 f1))
    clear h
    have hd : decide (0 ≤ f) = false := decide_eq_false f1
    go_enter Try.func12, Try.ntmps12
    go_wp2_with (first | (go_at_call 24; refine (check_c _ _ _ _ _).mono ?_; rintro e w1 ⟨rfl, hb⟩; obtain ⟨c0, c1, c2, c3, d0, d1, d2, d3, f0, g0, hz, hbw⟩ := two_cells hb) | (go_at_call 22; refine (left_c _ _ _ _ _).mono ?_; rintro e w2 ⟨rfl, hb2⟩; clear c0 c1 c2 c3 d0 d1 d2 d3 f0 g0 hz hbw; obtain ⟨c0, c1, c2, c3, d0, d1, d2, d3, f0, g0, hz, hbw⟩ := two_cells (bt hb hb2)) | (go_at_call 30; go_in))
    refine bodyPost_ret (v := .tuple #[.agg #[.int .i64 0, .int .i64 0, .int .i64 0, .int .i64 0], .int .i64 2]) (by simp [results, Try.results12, go_sem, *]) rfl ⟨?_, (by repeat (first | assumption | refine Below.setCell ?_ (by simp) _))⟩
    exact ret_acc (by rw [HB.out]; rfl) (by rw [HB.out]; rfl) (by rw [HB.out]; rfl) (by rw [HB.out]; rfl) HB.out.symm
  by_cases f2 : f ≤ 50000
  rotate_left
  · have HB := Lib.hid (Fu.burn_2 h (f := f) (t := t) (fun q => absurd q.2.1 f2))
    clear h
    have hd : decide (f ≤ 50000) = false := decide_eq_false f2
    go_enter Try.func12, Try.ntmps12
    go_wp2_with (first | (go_at_call 24; refine (check_c _ _ _ _ _).mono ?_; rintro e w1 ⟨rfl, hb⟩; obtain ⟨c0, c1, c2, c3, d0, d1, d2, d3, f0, g0, hz, hbw⟩ := two_cells hb) | (go_at_call 22; refine (left_c _ _ _ _ _).mono ?_; rintro e w2 ⟨rfl, hb2⟩; clear c0 c1 c2 c3 d0 d1 d2 d3 f0 g0 hz hbw; obtain ⟨c0, c1, c2, c3, d0, d1, d2, d3, f0, g0, hz, hbw⟩ := two_cells (bt hb hb2)) | (go_at_call 30; go_in))
    refine bodyPost_ret (v := .tuple #[.agg #[.int .i64 0, .int .i64 0, .int .i64 0, .int .i64 0], .int .i64 2]) (by simp [results, Try.results12, go_sem, *]) rfl ⟨?_, (by repeat (first | assumption | refine Below.setCell ?_ (by simp) _))⟩
    exact ret_acc (by rw [HB.out]; rfl) (by rw [HB.out]; rfl) (by rw [HB.out]; rfl) (by rw [HB.out]; rfl) HB.out.symm
  by_cases t1 : 0 ≤ t
  rotate_left
  · have HB := Lib.hid (Fu.burn_2 h (f := f) (t := t) (fun q => absurd q.2.2.1 t1))
    clear h
    have hd : decide (0 ≤ t) = false := decide_eq_false t1
    go_enter Try.func12, Try.ntmps12
    go_wp2_with (first | (go_at_call 24; refine (check_c _ _ _ _ _).mono ?_; rintro e w1 ⟨rfl, hb⟩; obtain ⟨c0, c1, c2, c3, d0, d1, d2, d3, f0, g0, hz, hbw⟩ := two_cells hb) | (go_at_call 22; refine (left_c _ _ _ _ _).mono ?_; rintro e w2 ⟨rfl, hb2⟩; clear c0 c1 c2 c3 d0 d1 d2 d3 f0 g0 hz hbw; obtain ⟨c0, c1, c2, c3, d0, d1, d2, d3, f0, g0, hz, hbw⟩ := two_cells (bt hb hb2)) | (go_at_call 30; go_in))
    refine bodyPost_ret (v := .tuple #[.agg #[.int .i64 0, .int .i64 0, .int .i64 0, .int .i64 0], .int .i64 2]) (by simp [results, Try.results12, go_sem, *]) rfl ⟨?_, (by repeat (first | assumption | refine Below.setCell ?_ (by simp) _))⟩
    exact ret_acc (by rw [HB.out]; rfl) (by rw [HB.out]; rfl) (by rw [HB.out]; rfl) (by rw [HB.out]; rfl) HB.out.symm
  by_cases t2 : t ≤ 1099511627776
  rotate_left
  · have HB := Lib.hid (Fu.burn_2 h (f := f) (t := t) (fun q => absurd q.2.2.2 t2))
    clear h
    have hd : decide (t ≤ 1099511627776) = false := decide_eq_false t2
    go_enter Try.func12, Try.ntmps12
    go_wp2_with (first | (go_at_call 24; refine (check_c _ _ _ _ _).mono ?_; rintro e w1 ⟨rfl, hb⟩; obtain ⟨c0, c1, c2, c3, d0, d1, d2, d3, f0, g0, hz, hbw⟩ := two_cells hb) | (go_at_call 22; refine (left_c _ _ _ _ _).mono ?_; rintro e w2 ⟨rfl, hb2⟩; clear c0 c1 c2 c3 d0 d1 d2 d3 f0 g0 hz hbw; obtain ⟨c0, c1, c2, c3, d0, d1, d2, d3, f0, g0, hz, hbw⟩ := two_cells (bt hb hb2)) | (go_at_call 30; go_in))
    refine bodyPost_ret (v := .tuple #[.agg #[.int .i64 0, .int .i64 0, .int .i64 0, .int .i64 0], .int .i64 2]) (by simp [results, Try.results12, go_sem, *]) rfl ⟨?_, (by repeat (first | assumption | refine Below.setCell ?_ (by simp) _))⟩
    exact ret_acc (by rw [HB.out]; rfl) (by rw [HB.out]; rfl) (by rw [HB.out]; rfl) (by rw [HB.out]; rfl) HB.out.symm
  have hi : Fu.inB f t := ⟨f1, f2, t1, t2⟩
  obtain ⟨m1, m2⟩ := Fu.mul_bd hi
  have hl : Fu.lf E L R B = L - B := by unfold Fu.lf; rw [hk]; rfl
  by_cases hlt : L - B < f * t
  · have HB := Lib.hid (Fu.burn_3 h hi hlt)
    obtain ⟨h1, h2, h3, h4, h5, h6, h7, h8⟩ := h
    go_enter Try.func12, Try.ntmps12
    go_wp2_with (first | (go_at_call 24; refine (check_c _ _ _ _ _).mono ?_; rintro e w1 ⟨rfl, hb⟩; obtain ⟨c0, c1, c2, c3, d0, d1, d2, d3, f0, g0, hz, hbw⟩ := two_cells hb) | (go_at_call 22; refine (left_c _ _ _ _ _).mono ?_; rintro e w2 ⟨rfl, hb2⟩; clear c0 c1 c2 c3 d0 d1 d2 d3 f0 g0 hz hbw; obtain ⟨c0, c1, c2, c3, d0, d1, d2, d3, f0, g0, hz, hbw⟩ := two_cells (bt hb hb2)) | (go_at_call 30; go_in))
    refine bodyPost_ret (v := .tuple #[.agg #[.int .i64 0, .int .i64 0, .int .i64 0, .int .i64 0], .int .i64 15]) (by simp [results, Try.results12, go_sem, *]) rfl ⟨?_, (by repeat (first | assumption | refine Below.setCell ?_ (by simp) _))⟩
    exact ret_acc (by rw [HB.out]; rfl) (by rw [HB.out]; rfl) (by rw [HB.out]; rfl) (by rw [HB.out]; rfl) HB.out.symm
  · have HB := Lib.hid (Fu.burn_4 h hi hlt)
    obtain ⟨h1, h2, h3, h4, h5, h6, h7, h8⟩ := h
    go_enter Try.func12, Try.ntmps12
    go_wp2_with (first | (go_at_call 24; refine (check_c _ _ _ _ _).mono ?_; rintro e w1 ⟨rfl, hb⟩; obtain ⟨c0, c1, c2, c3, d0, d1, d2, d3, f0, g0, hz, hbw⟩ := two_cells hb) | (go_at_call 22; refine (left_c _ _ _ _ _).mono ?_; rintro e w2 ⟨rfl, hb2⟩; clear c0 c1 c2 c3 d0 d1 d2 d3 f0 g0 hz hbw; obtain ⟨c0, c1, c2, c3, d0, d1, d2, d3, f0, g0, hz, hbw⟩ := two_cells (bt hb hb2)) | (go_at_call 30; go_in))
    refine bodyPost_ret (v := .tuple #[.agg #[.int .i64 E, .int .i64 L, .int .i64 R, .int .i64 (B + f * t)], .int .i64 0]) (by simp [results, Try.results12, go_sem, *]) rfl ⟨?_, (by repeat (first | assumption | refine Below.setCell ?_ (by simp) _))⟩
    exact ret_acc (by rw [HB.out]; rfl) (by rw [HB.out]; rfl) (by rw [HB.out]; rfl) (by rw [HB.out]; rfl) HB.out.symm

set_option maxHeartbeats 2000000 in
theorem rburn_c (E L R B f t : Int) (w : World) : Calls Try.prog 13 #[.agg #[.int .i64 E, .int .i64 L, .int .i64 R, .int .i64 B], .int .i64 f, .int .i64 t] w fun e w' =>
    e = .returned (.tuple #[.agg #[.int .i64 (Fu.sel (Fu.burnE E L R B f t) E), .int .i64 (Fu.sel (Fu.burnE E L R B f t) L), .int .i64 (Fu.sel (Fu.burnE E L R B f t) R), .int .i64 (Fu.sel (Fu.burnE E L R B f t) (B + f * t))], .int .i64 (Fu.burnE E L R B f t)]) ∧ Below w.heap.size w w' := by
  by_cases h : Fu.ok E L R B
  rotate_left
  · have HB := Lib.hid (Fu.burn_1 h (f := f) (t := t))
    have hk := Fu.ck_no h
    clear h
    go_enter Try.func13, Try.ntmps13
    go_wp2_with (go_at_call 25; refine (rcheck_c _ _ _ _ _).mono ?_; rintro e w1 ⟨rfl, hb⟩; obtain ⟨c0, c1, c2, c3, d0, d1, d2, d3, f0, g0, hz, hbw⟩ := two_cells hb)
    refine bodyPost_ret (v := .tuple #[.agg #[.int .i64 0, .int .i64 0, .int .i64 0, .int .i64 0], .int .i64 2]) (by simp [results, Try.results13, go_sem, *]) rfl ⟨?_, (by repeat (first | assumption | refine Below.setCell ?_ (by simp) _))⟩
    exact ret_acc (by rw [HB.out]; rfl) (by rw [HB.out]; rfl) (by rw [HB.out]; rfl) (by rw [HB.out]; rfl) HB.out.symm
  have hk := Fu.ck_yes h
  by_cases f1 : 0 ≤ f
  rotate_left
  · have HB := Lib.hid (Fu.burn_2 h (f := f) (t := t) (fun q => absurd q.1 f1))
    clear h
    have hd : decide (0 ≤ f) = false := decide_eq_false f1
    go_enter Try.func13, Try.ntmps13
    go_wp2_with (first | (go_at_call 25; refine (rcheck_c _ _ _ _ _).mono ?_; rintro e w1 ⟨rfl, hb⟩; obtain ⟨c0, c1, c2, c3, d0, d1, d2, d3, f0, g0, hz, hbw⟩ := two_cells hb) | (go_at_call 26; refine (rleft_c _ _ _ _ _).mono ?_; rintro e w2 ⟨rfl, hb2⟩; clear c0 c1 c2 c3 d0 d1 d2 d3 f0 g0 hz hbw; obtain ⟨c0, c1, c2, c3, d0, d1, d2, d3, f0, g0, hz, hbw⟩ := two_cells (bt hb hb2)))
    refine bodyPost_ret (v := .tuple #[.agg #[.int .i64 0, .int .i64 0, .int .i64 0, .int .i64 0], .int .i64 2]) (by simp [results, Try.results13, go_sem, *]) rfl ⟨?_, (by repeat (first | assumption | refine Below.setCell ?_ (by simp) _))⟩
    exact ret_acc (by rw [HB.out]; rfl) (by rw [HB.out]; rfl) (by rw [HB.out]; rfl) (by rw [HB.out]; rfl) HB.out.symm
  by_cases f2 : f ≤ 50000
  rotate_left
  · have HB := Lib.hid (Fu.burn_2 h (f := f) (t := t) (fun q => absurd q.2.1 f2))
    clear h
    have hd : decide (f ≤ 50000) = false := decide_eq_false f2
    go_enter Try.func13, Try.ntmps13
    go_wp2_with (first | (go_at_call 25; refine (rcheck_c _ _ _ _ _).mono ?_; rintro e w1 ⟨rfl, hb⟩; obtain ⟨c0, c1, c2, c3, d0, d1, d2, d3, f0, g0, hz, hbw⟩ := two_cells hb) | (go_at_call 26; refine (rleft_c _ _ _ _ _).mono ?_; rintro e w2 ⟨rfl, hb2⟩; clear c0 c1 c2 c3 d0 d1 d2 d3 f0 g0 hz hbw; obtain ⟨c0, c1, c2, c3, d0, d1, d2, d3, f0, g0, hz, hbw⟩ := two_cells (bt hb hb2)))
    refine bodyPost_ret (v := .tuple #[.agg #[.int .i64 0, .int .i64 0, .int .i64 0, .int .i64 0], .int .i64 2]) (by simp [results, Try.results13, go_sem, *]) rfl ⟨?_, (by repeat (first | assumption | refine Below.setCell ?_ (by simp) _))⟩
    exact ret_acc (by rw [HB.out]; rfl) (by rw [HB.out]; rfl) (by rw [HB.out]; rfl) (by rw [HB.out]; rfl) HB.out.symm
  by_cases t1 : 0 ≤ t
  rotate_left
  · have HB := Lib.hid (Fu.burn_2 h (f := f) (t := t) (fun q => absurd q.2.2.1 t1))
    clear h
    have hd : decide (0 ≤ t) = false := decide_eq_false t1
    go_enter Try.func13, Try.ntmps13
    go_wp2_with (first | (go_at_call 25; refine (rcheck_c _ _ _ _ _).mono ?_; rintro e w1 ⟨rfl, hb⟩; obtain ⟨c0, c1, c2, c3, d0, d1, d2, d3, f0, g0, hz, hbw⟩ := two_cells hb) | (go_at_call 26; refine (rleft_c _ _ _ _ _).mono ?_; rintro e w2 ⟨rfl, hb2⟩; clear c0 c1 c2 c3 d0 d1 d2 d3 f0 g0 hz hbw; obtain ⟨c0, c1, c2, c3, d0, d1, d2, d3, f0, g0, hz, hbw⟩ := two_cells (bt hb hb2)))
    refine bodyPost_ret (v := .tuple #[.agg #[.int .i64 0, .int .i64 0, .int .i64 0, .int .i64 0], .int .i64 2]) (by simp [results, Try.results13, go_sem, *]) rfl ⟨?_, (by repeat (first | assumption | refine Below.setCell ?_ (by simp) _))⟩
    exact ret_acc (by rw [HB.out]; rfl) (by rw [HB.out]; rfl) (by rw [HB.out]; rfl) (by rw [HB.out]; rfl) HB.out.symm
  by_cases t2 : t ≤ 1099511627776
  rotate_left
  · have HB := Lib.hid (Fu.burn_2 h (f := f) (t := t) (fun q => absurd q.2.2.2 t2))
    clear h
    have hd : decide (t ≤ 1099511627776) = false := decide_eq_false t2
    go_enter Try.func13, Try.ntmps13
    go_wp2_with (first | (go_at_call 25; refine (rcheck_c _ _ _ _ _).mono ?_; rintro e w1 ⟨rfl, hb⟩; obtain ⟨c0, c1, c2, c3, d0, d1, d2, d3, f0, g0, hz, hbw⟩ := two_cells hb) | (go_at_call 26; refine (rleft_c _ _ _ _ _).mono ?_; rintro e w2 ⟨rfl, hb2⟩; clear c0 c1 c2 c3 d0 d1 d2 d3 f0 g0 hz hbw; obtain ⟨c0, c1, c2, c3, d0, d1, d2, d3, f0, g0, hz, hbw⟩ := two_cells (bt hb hb2)))
    refine bodyPost_ret (v := .tuple #[.agg #[.int .i64 0, .int .i64 0, .int .i64 0, .int .i64 0], .int .i64 2]) (by simp [results, Try.results13, go_sem, *]) rfl ⟨?_, (by repeat (first | assumption | refine Below.setCell ?_ (by simp) _))⟩
    exact ret_acc (by rw [HB.out]; rfl) (by rw [HB.out]; rfl) (by rw [HB.out]; rfl) (by rw [HB.out]; rfl) HB.out.symm
  have hi : Fu.inB f t := ⟨f1, f2, t1, t2⟩
  obtain ⟨m1, m2⟩ := Fu.mul_bd hi
  have hl : Fu.lf E L R B = L - B := by unfold Fu.lf; rw [hk]; rfl
  by_cases hlt : L - B < f * t
  · have HB := Lib.hid (Fu.burn_3 h hi hlt)
    obtain ⟨h1, h2, h3, h4, h5, h6, h7, h8⟩ := h
    go_enter Try.func13, Try.ntmps13
    go_wp2_with (first | (go_at_call 25; refine (rcheck_c _ _ _ _ _).mono ?_; rintro e w1 ⟨rfl, hb⟩; obtain ⟨c0, c1, c2, c3, d0, d1, d2, d3, f0, g0, hz, hbw⟩ := two_cells hb) | (go_at_call 26; refine (rleft_c _ _ _ _ _).mono ?_; rintro e w2 ⟨rfl, hb2⟩; clear c0 c1 c2 c3 d0 d1 d2 d3 f0 g0 hz hbw; obtain ⟨c0, c1, c2, c3, d0, d1, d2, d3, f0, g0, hz, hbw⟩ := two_cells (bt hb hb2)))
    refine bodyPost_ret (v := .tuple #[.agg #[.int .i64 0, .int .i64 0, .int .i64 0, .int .i64 0], .int .i64 15]) (by simp [results, Try.results13, go_sem, *]) rfl ⟨?_, (by repeat (first | assumption | refine Below.setCell ?_ (by simp) _))⟩
    exact ret_acc (by rw [HB.out]; rfl) (by rw [HB.out]; rfl) (by rw [HB.out]; rfl) (by rw [HB.out]; rfl) HB.out.symm
  · have HB := Lib.hid (Fu.burn_4 h hi hlt)
    obtain ⟨h1, h2, h3, h4, h5, h6, h7, h8⟩ := h
    go_enter Try.func13, Try.ntmps13
    go_wp2_with (first | (go_at_call 25; refine (rcheck_c _ _ _ _ _).mono ?_; rintro e w1 ⟨rfl, hb⟩; obtain ⟨c0, c1, c2, c3, d0, d1, d2, d3, f0, g0, hz, hbw⟩ := two_cells hb) | (go_at_call 26; refine (rleft_c _ _ _ _ _).mono ?_; rintro e w2 ⟨rfl, hb2⟩; clear c0 c1 c2 c3 d0 d1 d2 d3 f0 g0 hz hbw; obtain ⟨c0, c1, c2, c3, d0, d1, d2, d3, f0, g0, hz, hbw⟩ := two_cells (bt hb hb2)))
    refine bodyPost_ret (v := .tuple #[.agg #[.int .i64 E, .int .i64 L, .int .i64 R, .int .i64 (B + f * t)], .int .i64 0]) (by simp [results, Try.results13, go_sem, *]) rfl ⟨?_, (by repeat (first | assumption | refine Below.setCell ?_ (by simp) _))⟩
    exact ret_acc (by rw [HB.out]; rfl) (by rw [HB.out]; rfl) (by rw [HB.out]; rfl) (by rw [HB.out]; rfl) HB.out.symm

end Go.Proofs.Ytoebjiocmnonnaa
