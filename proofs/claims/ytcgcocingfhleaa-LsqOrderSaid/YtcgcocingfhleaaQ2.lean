/-
  Contracts: the reference's validity of a measurement.
-/
import Derived.Test.YtcgcocingfhleaaQ1
namespace Go.Proofs.Ytcgcocingfhleaa
set_option linter.unusedVariables false
set_option linter.unusedSimpArgs false
open Go.RowKit

set_option maxHeartbeats 1000000 in
theorem within_t (x a b : Int) (w : World) (q1 : a ≤ x) (q2 : x ≤ b) : Calls Try.prog 58 #[.int .i64 x, .int .i64 a, .int .i64 b] w fun e w' => e = .returned (.bool true) ∧ w = w' := by
  go_enter Try.func58, Try.ntmps58
  go_wp2_with fail
  go_returns
  exact ⟨rfl, rfl⟩
theorem within_f (x a b : Int) (w : World) (h : ¬ (a ≤ x ∧ x ≤ b)) : Calls Try.prog 58 #[.int .i64 x, .int .i64 a, .int .i64 b] w fun e w' => e = .returned (.bool false) ∧ w = w' := by
  by_cases q1 : a ≤ x
  · have n1 : decide (x ≤ b) = false := decide_eq_false (by omega)
    clear h
    go_enter Try.func58, Try.ntmps58
    go_wp2_with fail
    go_returns
    exact ⟨rfl, rfl⟩
  · clear h
    go_enter Try.func58, Try.ntmps58
    go_wp2_with fail
    go_returns
    exact ⟨rfl, rfl⟩
set_option maxRecDepth 100000 in
set_option maxHeartbeats 4000000 in
theorem rvalid_c (s a b z d g : Int) (w : World) : Calls Try.prog 37 #[.agg #[.int .i64 s, .int .i64 a, .int .i64 b, .int .i64 z, .int .i64 d, .int .i64 g]] w fun e w' => e = .returned (.bool (Lq.vm s a b z d g)) ∧ Below w.heap.size w w' := by
  by_cases q1 : 1 ≤ s
  rotate_left
  · have E := Lib.hid (vm_no (s := s) (a := a) (b := b) (z := z) (d := d) (g := g) (by omega))
    go_enter Try.func37, Try.ntmps37
    try simp only [List.append_eq, List.cons_append, List.nil_append]
    go_wp2_with (go_at_call 58; (first | refine (within_t _ _ _ _ (by omega) (by omega)).mono ?_ | refine (within_f _ _ _ _ (by omega)).mono ?_); rintro e wn ⟨rfl, rfl⟩)
    all_goals (go_returns; exact ⟨ret_bool E.out.symm, by go_grown⟩)
  by_cases q2 : s ≤ 8
  rotate_left
  · have E := Lib.hid (vm_no (s := s) (a := a) (b := b) (z := z) (d := d) (g := g) (by omega))
    go_enter Try.func37, Try.ntmps37
    try simp only [List.append_eq, List.cons_append, List.nil_append]
    go_wp2_with (go_at_call 58; (first | refine (within_t _ _ _ _ (by omega) (by omega)).mono ?_ | refine (within_f _ _ _ _ (by omega)).mono ?_); rintro e wn ⟨rfl, rfl⟩)
    all_goals (go_returns; exact ⟨ret_bool E.out.symm, by go_grown⟩)
  by_cases q3 : -256 ≤ a
  rotate_left
  · have E := Lib.hid (vm_no (s := s) (a := a) (b := b) (z := z) (d := d) (g := g) (by omega))
    go_enter Try.func37, Try.ntmps37
    try simp only [List.append_eq, List.cons_append, List.nil_append]
    go_wp2_with (go_at_call 58; (first | refine (within_t _ _ _ _ (by omega) (by omega)).mono ?_ | refine (within_f _ _ _ _ (by omega)).mono ?_); rintro e wn ⟨rfl, rfl⟩)
    all_goals (go_returns; exact ⟨ret_bool E.out.symm, by go_grown⟩)
  by_cases q4 : a ≤ 256
  rotate_left
  · have E := Lib.hid (vm_no (s := s) (a := a) (b := b) (z := z) (d := d) (g := g) (by omega))
    go_enter Try.func37, Try.ntmps37
    try simp only [List.append_eq, List.cons_append, List.nil_append]
    go_wp2_with (go_at_call 58; (first | refine (within_t _ _ _ _ (by omega) (by omega)).mono ?_ | refine (within_f _ _ _ _ (by omega)).mono ?_); rintro e wn ⟨rfl, rfl⟩)
    all_goals (go_returns; exact ⟨ret_bool E.out.symm, by go_grown⟩)
  by_cases q5 : -256 ≤ b
  rotate_left
  · have E := Lib.hid (vm_no (s := s) (a := a) (b := b) (z := z) (d := d) (g := g) (by omega))
    go_enter Try.func37, Try.ntmps37
    try simp only [List.append_eq, List.cons_append, List.nil_append]
    go_wp2_with (go_at_call 58; (first | refine (within_t _ _ _ _ (by omega) (by omega)).mono ?_ | refine (within_f _ _ _ _ (by omega)).mono ?_); rintro e wn ⟨rfl, rfl⟩)
    all_goals (go_returns; exact ⟨ret_bool E.out.symm, by go_grown⟩)
  by_cases q6 : b ≤ 256
  rotate_left
  · have E := Lib.hid (vm_no (s := s) (a := a) (b := b) (z := z) (d := d) (g := g) (by omega))
    go_enter Try.func37, Try.ntmps37
    try simp only [List.append_eq, List.cons_append, List.nil_append]
    go_wp2_with (go_at_call 58; (first | refine (within_t _ _ _ _ (by omega) (by omega)).mono ?_ | refine (within_f _ _ _ _ (by omega)).mono ?_); rintro e wn ⟨rfl, rfl⟩)
    all_goals (go_returns; exact ⟨ret_bool E.out.symm, by go_grown⟩)
  by_cases q7 : a ≠ 0 ∨ b ≠ 0
  rotate_left
  · have E := Lib.hid (vm_no (s := s) (a := a) (b := b) (z := z) (d := d) (g := g) (by omega))
    have n1 : (a != 0) = false := by simp; omega
    have n2 : (b != 0) = false := by simp; omega
    clear q7
    go_enter Try.func37, Try.ntmps37
    try simp only [List.append_eq, List.cons_append, List.nil_append]
    go_wp2_with (go_at_call 58; (first | refine (within_t _ _ _ _ (by omega) (by omega)).mono ?_ | refine (within_f _ _ _ _ (by omega)).mono ?_); rintro e wn ⟨rfl, rfl⟩)
    all_goals (go_returns; exact ⟨ret_bool E.out.symm, by go_grown⟩)
  by_cases q8 : -4294967296 ≤ z
  rotate_left
  · by_cases q0 : a = 0
    · have q8' : b ≠ 0 := by omega
      have E := Lib.hid (vm_no (s := s) (a := a) (b := b) (z := z) (d := d) (g := g) (by omega))
      have n2 : (a != 0) = false := by simpa using q0
      have n3 : (b != 0) = true := by simpa using q8'
      clear q0 q7 q8'
      go_enter Try.func37, Try.ntmps37
      try simp only [List.append_eq, List.cons_append, List.nil_append]
      go_wp2_with (go_at_call 58; (first | refine (within_t _ _ _ _ (by omega) (by omega)).mono ?_ | refine (within_f _ _ _ _ (by omega)).mono ?_); rintro e wn ⟨rfl, rfl⟩)
      all_goals (go_returns; exact ⟨ret_bool E.out.symm, by go_grown⟩)
    · have E := Lib.hid (vm_no (s := s) (a := a) (b := b) (z := z) (d := d) (g := g) (by omega))
      have n2 : (a != 0) = true := by simpa using q0
      clear q0 q7
      go_enter Try.func37, Try.ntmps37
      try simp only [List.append_eq, List.cons_append, List.nil_append]
      go_wp2_with (go_at_call 58; (first | refine (within_t _ _ _ _ (by omega) (by omega)).mono ?_ | refine (within_f _ _ _ _ (by omega)).mono ?_); rintro e wn ⟨rfl, rfl⟩)
      all_goals (go_returns; exact ⟨ret_bool E.out.symm, by go_grown⟩)
  by_cases q9 : z ≤ 4294967296
  rotate_left
  · by_cases q0 : a = 0
    · have q8' : b ≠ 0 := by omega
      have E := Lib.hid (vm_no (s := s) (a := a) (b := b) (z := z) (d := d) (g := g) (by omega))
      have n2 : (a != 0) = false := by simpa using q0
      have n3 : (b != 0) = true := by simpa using q8'
      clear q0 q7 q8'
      go_enter Try.func37, Try.ntmps37
      try simp only [List.append_eq, List.cons_append, List.nil_append]
      go_wp2_with (go_at_call 58; (first | refine (within_t _ _ _ _ (by omega) (by omega)).mono ?_ | refine (within_f _ _ _ _ (by omega)).mono ?_); rintro e wn ⟨rfl, rfl⟩)
      all_goals (go_returns; exact ⟨ret_bool E.out.symm, by go_grown⟩)
    · have E := Lib.hid (vm_no (s := s) (a := a) (b := b) (z := z) (d := d) (g := g) (by omega))
      have n2 : (a != 0) = true := by simpa using q0
      clear q0 q7
      go_enter Try.func37, Try.ntmps37
      try simp only [List.append_eq, List.cons_append, List.nil_append]
      go_wp2_with (go_at_call 58; (first | refine (within_t _ _ _ _ (by omega) (by omega)).mono ?_ | refine (within_f _ _ _ _ (by omega)).mono ?_); rintro e wn ⟨rfl, rfl⟩)
      all_goals (go_returns; exact ⟨ret_bool E.out.symm, by go_grown⟩)
  by_cases q10 : 0 ≤ d
  rotate_left
  · by_cases q0 : a = 0
    · have q8' : b ≠ 0 := by omega
      have E := Lib.hid (vm_no (s := s) (a := a) (b := b) (z := z) (d := d) (g := g) (by omega))
      have n2 : (a != 0) = false := by simpa using q0
      have n3 : (b != 0) = true := by simpa using q8'
      clear q0 q7 q8'
      go_enter Try.func37, Try.ntmps37
      try simp only [List.append_eq, List.cons_append, List.nil_append]
      go_wp2_with (go_at_call 58; (first | refine (within_t _ _ _ _ (by omega) (by omega)).mono ?_ | refine (within_f _ _ _ _ (by omega)).mono ?_); rintro e wn ⟨rfl, rfl⟩)
      all_goals (go_returns; exact ⟨ret_bool E.out.symm, by go_grown⟩)
    · have E := Lib.hid (vm_no (s := s) (a := a) (b := b) (z := z) (d := d) (g := g) (by omega))
      have n2 : (a != 0) = true := by simpa using q0
      clear q0 q7
      go_enter Try.func37, Try.ntmps37
      try simp only [List.append_eq, List.cons_append, List.nil_append]
      go_wp2_with (go_at_call 58; (first | refine (within_t _ _ _ _ (by omega) (by omega)).mono ?_ | refine (within_f _ _ _ _ (by omega)).mono ?_); rintro e wn ⟨rfl, rfl⟩)
      all_goals (go_returns; exact ⟨ret_bool E.out.symm, by go_grown⟩)
  by_cases q11 : d ≤ 4294967296
  rotate_left
  · by_cases q0 : a = 0
    · have q8' : b ≠ 0 := by omega
      have E := Lib.hid (vm_no (s := s) (a := a) (b := b) (z := z) (d := d) (g := g) (by omega))
      have n2 : (a != 0) = false := by simpa using q0
      have n3 : (b != 0) = true := by simpa using q8'
      clear q0 q7 q8'
      go_enter Try.func37, Try.ntmps37
      try simp only [List.append_eq, List.cons_append, List.nil_append]
      go_wp2_with (go_at_call 58; (first | refine (within_t _ _ _ _ (by omega) (by omega)).mono ?_ | refine (within_f _ _ _ _ (by omega)).mono ?_); rintro e wn ⟨rfl, rfl⟩)
      all_goals (go_returns; exact ⟨ret_bool E.out.symm, by go_grown⟩)
    · have E := Lib.hid (vm_no (s := s) (a := a) (b := b) (z := z) (d := d) (g := g) (by omega))
      have n2 : (a != 0) = true := by simpa using q0
      clear q0 q7
      go_enter Try.func37, Try.ntmps37
      try simp only [List.append_eq, List.cons_append, List.nil_append]
      go_wp2_with (go_at_call 58; (first | refine (within_t _ _ _ _ (by omega) (by omega)).mono ?_ | refine (within_f _ _ _ _ (by omega)).mono ?_); rintro e wn ⟨rfl, rfl⟩)
      all_goals (go_returns; exact ⟨ret_bool E.out.symm, by go_grown⟩)
  by_cases q12 : 1 ≤ g
  rotate_left
  · by_cases q0 : a = 0
    · have q8' : b ≠ 0 := by omega
      have E := Lib.hid (vm_no (s := s) (a := a) (b := b) (z := z) (d := d) (g := g) (by omega))
      have n2 : (a != 0) = false := by simpa using q0
      have n3 : (b != 0) = true := by simpa using q8'
      clear q0 q7 q8'
      go_enter Try.func37, Try.ntmps37
      try simp only [List.append_eq, List.cons_append, List.nil_append]
      go_wp2_with (go_at_call 58; (first | refine (within_t _ _ _ _ (by omega) (by omega)).mono ?_ | refine (within_f _ _ _ _ (by omega)).mono ?_); rintro e wn ⟨rfl, rfl⟩)
      all_goals (go_returns; exact ⟨ret_bool E.out.symm, by go_grown⟩)
    · have E := Lib.hid (vm_no (s := s) (a := a) (b := b) (z := z) (d := d) (g := g) (by omega))
      have n2 : (a != 0) = true := by simpa using q0
      clear q0 q7
      go_enter Try.func37, Try.ntmps37
      try simp only [List.append_eq, List.cons_append, List.nil_append]
      go_wp2_with (go_at_call 58; (first | refine (within_t _ _ _ _ (by omega) (by omega)).mono ?_ | refine (within_f _ _ _ _ (by omega)).mono ?_); rintro e wn ⟨rfl, rfl⟩)
      all_goals (go_returns; exact ⟨ret_bool E.out.symm, by go_grown⟩)
  by_cases q13 : g ≤ 16
  rotate_left
  · by_cases q0 : a = 0
    · have q8' : b ≠ 0 := by omega
      have E := Lib.hid (vm_no (s := s) (a := a) (b := b) (z := z) (d := d) (g := g) (by omega))
      have n2 : (a != 0) = false := by simpa using q0
      have n3 : (b != 0) = true := by simpa using q8'
      clear q0 q7 q8'
      have n1 : decide (g ≤ 16) = false := decide_eq_false q13
      go_enter Try.func37, Try.ntmps37
      try simp only [List.append_eq, List.cons_append, List.nil_append]
      go_wp2_with (go_at_call 58; (first | refine (within_t _ _ _ _ (by omega) (by omega)).mono ?_ | refine (within_f _ _ _ _ (by omega)).mono ?_); rintro e wn ⟨rfl, rfl⟩)
      all_goals (go_returns; exact ⟨ret_bool E.out.symm, by go_grown⟩)
    · have E := Lib.hid (vm_no (s := s) (a := a) (b := b) (z := z) (d := d) (g := g) (by omega))
      have n2 : (a != 0) = true := by simpa using q0
      clear q0 q7
      have n1 : decide (g ≤ 16) = false := decide_eq_false q13
      go_enter Try.func37, Try.ntmps37
      try simp only [List.append_eq, List.cons_append, List.nil_append]
      go_wp2_with (go_at_call 58; (first | refine (within_t _ _ _ _ (by omega) (by omega)).mono ?_ | refine (within_f _ _ _ _ (by omega)).mono ?_); rintro e wn ⟨rfl, rfl⟩)
      all_goals (go_returns; exact ⟨ret_bool E.out.symm, by go_grown⟩)
  by_cases q0 : a = 0
  · have q8' : b ≠ 0 := by omega
    have E := Lib.hid (vm_yes (s := s) (a := a) (b := b) (z := z) (d := d) (g := g) (by omega))
    have n2 : (a != 0) = false := by simpa using q0
    have n3 : (b != 0) = true := by simpa using q8'
    clear q0 q7 q8'
    go_enter Try.func37, Try.ntmps37
    try simp only [List.append_eq, List.cons_append, List.nil_append]
    go_wp2_with (go_at_call 58; (first | refine (within_t _ _ _ _ (by omega) (by omega)).mono ?_ | refine (within_f _ _ _ _ (by omega)).mono ?_); rintro e wn ⟨rfl, rfl⟩)
    all_goals (go_returns; exact ⟨ret_bool E.out.symm, by go_grown⟩)
  · have E := Lib.hid (vm_yes (s := s) (a := a) (b := b) (z := z) (d := d) (g := g) (by omega))
    have n2 : (a != 0) = true := by simpa using q0
    clear q0 q7
    go_enter Try.func37, Try.ntmps37
    try simp only [List.append_eq, List.cons_append, List.nil_append]
    go_wp2_with (go_at_call 58; (first | refine (within_t _ _ _ _ (by omega) (by omega)).mono ?_ | refine (within_f _ _ _ _ (by omega)).mono ?_); rintro e wn ⟨rfl, rfl⟩)
    all_goals (go_returns; exact ⟨ret_bool E.out.symm, by go_grown⟩)
end Go.Proofs.Ytcgcocingfhleaa
