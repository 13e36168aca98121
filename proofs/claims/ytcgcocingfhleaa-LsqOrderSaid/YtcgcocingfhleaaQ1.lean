/-
  Contracts: whether a measurement is valid.
-/
import Derived.Test.YtcgcocingfhleaaQPlain2
import Derived.Test.YtcgcocingfhleaaW1
namespace Go.Proofs.Ytcgcocingfhleaa
set_option linter.unusedVariables false
set_option linter.unusedSimpArgs false
open Go.RowKit

theorem vm_no {s a b z d g : Int} (h : ¬ (1 ≤ s ∧ s ≤ 8 ∧ -256 ≤ a ∧ a ≤ 256 ∧ -256 ≤ b ∧ b ≤ 256 ∧ (a ≠ 0 ∨ b ≠ 0) ∧ -4294967296 ≤ z ∧ z ≤ 4294967296 ∧ 0 ≤ d ∧ d ≤ 4294967296 ∧ 1 ≤ g ∧ g ≤ 16)) : Lq.vm s a b z d g = false := decide_eq_false h
theorem vm_yes {s a b z d g : Int} (h : 1 ≤ s ∧ s ≤ 8 ∧ -256 ≤ a ∧ a ≤ 256 ∧ -256 ≤ b ∧ b ≤ 256 ∧ (a ≠ 0 ∨ b ≠ 0) ∧ -4294967296 ≤ z ∧ z ≤ 4294967296 ∧ 0 ≤ d ∧ d ≤ 4294967296 ∧ 1 ≤ g ∧ g ≤ 16) : Lq.vm s a b z d g = true := decide_eq_true h
set_option maxRecDepth 100000 in
set_option maxHeartbeats 4000000 in
theorem valid_c (s a b z d g : Int) (w : World) : Calls Try.prog 36 #[.agg #[.int .i64 s, .int .i64 a, .int .i64 b, .int .i64 z, .int .i64 d, .int .i64 g]] w fun e w' => e = .returned (.bool (Lq.vm s a b z d g)) ∧ Below w.heap.size w w' := by
  by_cases q1 : 1 ≤ s
  rotate_left
  · have E := Lib.hid (vm_no (s := s) (a := a) (b := b) (z := z) (d := d) (g := g) (by omega))
    go_enter Try.func36, Try.ntmps36
    try simp only [List.append_eq, List.cons_append, List.nil_append]
    go_wp2_with fail
    go_returns
    exact ⟨ret_bool E.out.symm, by go_grown⟩
  by_cases q2 : s ≤ 8
  rotate_left
  · have E := Lib.hid (vm_no (s := s) (a := a) (b := b) (z := z) (d := d) (g := g) (by omega))
    go_enter Try.func36, Try.ntmps36
    try simp only [List.append_eq, List.cons_append, List.nil_append]
    go_wp2_with fail
    go_returns
    exact ⟨ret_bool E.out.symm, by go_grown⟩
  by_cases q3 : -256 ≤ a
  rotate_left
  · have E := Lib.hid (vm_no (s := s) (a := a) (b := b) (z := z) (d := d) (g := g) (by omega))
    go_enter Try.func36, Try.ntmps36
    try simp only [List.append_eq, List.cons_append, List.nil_append]
    go_wp2_with fail
    go_returns
    exact ⟨ret_bool E.out.symm, by go_grown⟩
  by_cases q4 : a ≤ 256
  rotate_left
  · have E := Lib.hid (vm_no (s := s) (a := a) (b := b) (z := z) (d := d) (g := g) (by omega))
    go_enter Try.func36, Try.ntmps36
    try simp only [List.append_eq, List.cons_append, List.nil_append]
    go_wp2_with fail
    go_returns
    exact ⟨ret_bool E.out.symm, by go_grown⟩
  by_cases q5 : -256 ≤ b
  rotate_left
  · have E := Lib.hid (vm_no (s := s) (a := a) (b := b) (z := z) (d := d) (g := g) (by omega))
    go_enter Try.func36, Try.ntmps36
    try simp only [List.append_eq, List.cons_append, List.nil_append]
    go_wp2_with fail
    go_returns
    exact ⟨ret_bool E.out.symm, by go_grown⟩
  by_cases q6 : b ≤ 256
  rotate_left
  · have E := Lib.hid (vm_no (s := s) (a := a) (b := b) (z := z) (d := d) (g := g) (by omega))
    go_enter Try.func36, Try.ntmps36
    try simp only [List.append_eq, List.cons_append, List.nil_append]
    go_wp2_with fail
    go_returns
    exact ⟨ret_bool E.out.symm, by go_grown⟩
  by_cases q7 : a ≠ 0 ∨ b ≠ 0
  rotate_left
  · have E := Lib.hid (vm_no (s := s) (a := a) (b := b) (z := z) (d := d) (g := g) (by omega))
    have n1 : (a != 0) = false := by simp; omega
    have n2 : (b != 0) = false := by simp; omega
    clear q7
    go_enter Try.func36, Try.ntmps36
    try simp only [List.append_eq, List.cons_append, List.nil_append]
    go_wp2_with fail
    go_returns
    exact ⟨ret_bool E.out.symm, by go_grown⟩
  by_cases q8 : -4294967296 ≤ z
  rotate_left
  · by_cases q0 : a = 0
    · have q8' : b ≠ 0 := by omega
      have E := Lib.hid (vm_no (s := s) (a := a) (b := b) (z := z) (d := d) (g := g) (by omega))
      have n2 : (a != 0) = false := by simpa using q0
      have n3 : (b != 0) = true := by simpa using q8'
      clear q0 q7 q8'
      go_enter Try.func36, Try.ntmps36
      try simp only [List.append_eq, List.cons_append, List.nil_append]
      go_wp2_with fail
      go_returns
      exact ⟨ret_bool E.out.symm, by go_grown⟩
    · have E := Lib.hid (vm_no (s := s) (a := a) (b := b) (z := z) (d := d) (g := g) (by omega))
      have n2 : (a != 0) = true := by simpa using q0
      clear q0 q7
      go_enter Try.func36, Try.ntmps36
      try simp only [List.append_eq, List.cons_append, List.nil_append]
      go_wp2_with fail
      go_returns
      exact ⟨ret_bool E.out.symm, by go_grown⟩
  by_cases q9 : z ≤ 4294967296
  rotate_left
  · by_cases q0 : a = 0
    · have q8' : b ≠ 0 := by omega
      have E := Lib.hid (vm_no (s := s) (a := a) (b := b) (z := z) (d := d) (g := g) (by omega))
      have n2 : (a != 0) = false := by simpa using q0
      have n3 : (b != 0) = true := by simpa using q8'
      clear q0 q7 q8'
      go_enter Try.func36, Try.ntmps36
      try simp only [List.append_eq, List.cons_append, List.nil_append]
      go_wp2_with fail
      go_returns
      exact ⟨ret_bool E.out.symm, by go_grown⟩
    · have E := Lib.hid (vm_no (s := s) (a := a) (b := b) (z := z) (d := d) (g := g) (by omega))
      have n2 : (a != 0) = true := by simpa using q0
      clear q0 q7
      go_enter Try.func36, Try.ntmps36
      try simp only [List.append_eq, List.cons_append, List.nil_append]
      go_wp2_with fail
      go_returns
      exact ⟨ret_bool E.out.symm, by go_grown⟩
  by_cases q10 : 0 ≤ d
  rotate_left
  · by_cases q0 : a = 0
    · have q8' : b ≠ 0 := by omega
      have E := Lib.hid (vm_no (s := s) (a := a) (b := b) (z := z) (d := d) (g := g) (by omega))
      have n2 : (a != 0) = false := by simpa using q0
      have n3 : (b != 0) = true := by simpa using q8'
      clear q0 q7 q8'
      go_enter Try.func36, Try.ntmps36
      try simp only [List.append_eq, List.cons_append, List.nil_append]
      go_wp2_with fail
      go_returns
      exact ⟨ret_bool E.out.symm, by go_grown⟩
    · have E := Lib.hid (vm_no (s := s) (a := a) (b := b) (z := z) (d := d) (g := g) (by omega))
      have n2 : (a != 0) = true := by simpa using q0
      clear q0 q7
      go_enter Try.func36, Try.ntmps36
      try simp only [List.append_eq, List.cons_append, List.nil_append]
      go_wp2_with fail
      go_returns
      exact ⟨ret_bool E.out.symm, by go_grown⟩
  by_cases q11 : d ≤ 4294967296
  rotate_left
  · by_cases q0 : a = 0
    · have q8' : b ≠ 0 := by omega
      have E := Lib.hid (vm_no (s := s) (a := a) (b := b) (z := z) (d := d) (g := g) (by omega))
      have n2 : (a != 0) = false := by simpa using q0
      have n3 : (b != 0) = true := by simpa using q8'
      clear q0 q7 q8'
      go_enter Try.func36, Try.ntmps36
      try simp only [List.append_eq, List.cons_append, List.nil_append]
      go_wp2_with fail
      go_returns
      exact ⟨ret_bool E.out.symm, by go_grown⟩
    · have E := Lib.hid (vm_no (s := s) (a := a) (b := b) (z := z) (d := d) (g := g) (by omega))
      have n2 : (a != 0) = true := by simpa using q0
      clear q0 q7
      go_enter Try.func36, Try.ntmps36
      try simp only [List.append_eq, List.cons_append, List.nil_append]
      go_wp2_with fail
      go_returns
      exact ⟨ret_bool E.out.symm, by go_grown⟩
  by_cases q12 : 1 ≤ g
  rotate_left
  · by_cases q0 : a = 0
    · have q8' : b ≠ 0 := by omega
      have E := Lib.hid (vm_no (s := s) (a := a) (b := b) (z := z) (d := d) (g := g) (by omega))
      have n2 : (a != 0) = false := by simpa using q0
      have n3 : (b != 0) = true := by simpa using q8'
      clear q0 q7 q8'
      go_enter Try.func36, Try.ntmps36
      try simp only [List.append_eq, List.cons_append, List.nil_append]
      go_wp2_with fail
      go_returns
      exact ⟨ret_bool E.out.symm, by go_grown⟩
    · have E := Lib.hid (vm_no (s := s) (a := a) (b := b) (z := z) (d := d) (g := g) (by omega))
      have n2 : (a != 0) = true := by simpa using q0
      clear q0 q7
      go_enter Try.func36, Try.ntmps36
      try simp only [List.append_eq, List.cons_append, List.nil_append]
      go_wp2_with fail
      go_returns
      exact ⟨ret_bool E.out.symm, by go_grown⟩
  by_cases q13 : g ≤ 16
  rotate_left
  · by_cases q0 : a = 0
    · have q8' : b ≠ 0 := by omega
      have E := Lib.hid (vm_no (s := s) (a := a) (b := b) (z := z) (d := d) (g := g) (by omega))
      have n2 : (a != 0) = false := by simpa using q0
      have n3 : (b != 0) = true := by simpa using q8'
      clear q0 q7 q8'
      have n1 : decide (g ≤ 16) = false := decide_eq_false q13
      go_enter Try.func36, Try.ntmps36
      try simp only [List.append_eq, List.cons_append, List.nil_append]
      go_wp2_with fail
      go_returns
      exact ⟨ret_bool E.out.symm, by go_grown⟩
    · have E := Lib.hid (vm_no (s := s) (a := a) (b := b) (z := z) (d := d) (g := g) (by omega))
      have n2 : (a != 0) = true := by simpa using q0
      clear q0 q7
      have n1 : decide (g ≤ 16) = false := decide_eq_false q13
      go_enter Try.func36, Try.ntmps36
      try simp only [List.append_eq, List.cons_append, List.nil_append]
      go_wp2_with fail
      go_returns
      exact ⟨ret_bool E.out.symm, by go_grown⟩
  by_cases q0 : a = 0
  · have q8' : b ≠ 0 := by omega
    have E := Lib.hid (vm_yes (s := s) (a := a) (b := b) (z := z) (d := d) (g := g) (by omega))
    have n2 : (a != 0) = false := by simpa using q0
    have n3 : (b != 0) = true := by simpa using q8'
    clear q0 q7 q8'
    go_enter Try.func36, Try.ntmps36
    try simp only [List.append_eq, List.cons_append, List.nil_append]
    go_wp2_with fail
    go_returns
    exact ⟨ret_bool E.out.symm, by go_grown⟩
  · have E := Lib.hid (vm_yes (s := s) (a := a) (b := b) (z := z) (d := d) (g := g) (by omega))
    have n2 : (a != 0) = true := by simpa using q0
    clear q0 q7
    go_enter Try.func36, Try.ntmps36
    try simp only [List.append_eq, List.cons_append, List.nil_append]
    go_wp2_with fail
    go_returns
    exact ⟨ret_bool E.out.symm, by go_grown⟩
set_option maxRecDepth 100000 in
set_option maxHeartbeats 4000000 in
theorem pvalid_c (x y : Int) (w : World) : Calls Try.prog 22 #[.agg #[.int .i64 x, .int .i64 y]] w fun e w' => e = .returned (.bool (Lq.pv x y)) ∧ Below w.heap.size w w' := by
  by_cases q1 : -2000000 ≤ x
  rotate_left
  · have E := Lib.hid (show Lq.pv x y = false from decide_eq_false (by omega))
    go_enter Try.func22, Try.ntmps22
    go_wp2_with fail
    go_returns
    exact ⟨ret_bool E.out.symm, by go_grown⟩
  by_cases q2 : x ≤ 2000000
  rotate_left
  · have E := Lib.hid (show Lq.pv x y = false from decide_eq_false (by omega))
    go_enter Try.func22, Try.ntmps22
    go_wp2_with fail
    go_returns
    exact ⟨ret_bool E.out.symm, by go_grown⟩
  by_cases q3 : -2000000 ≤ y
  rotate_left
  · have E := Lib.hid (show Lq.pv x y = false from decide_eq_false (by omega))
    go_enter Try.func22, Try.ntmps22
    go_wp2_with fail
    go_returns
    exact ⟨ret_bool E.out.symm, by go_grown⟩
  by_cases q4 : y ≤ 2000000
  rotate_left
  · have E := Lib.hid (show Lq.pv x y = false from decide_eq_false (by omega))
    have n1 : decide (y ≤ 2000000) = false := decide_eq_false q4
    go_enter Try.func22, Try.ntmps22
    go_wp2_with fail
    go_returns
    exact ⟨ret_bool E.out.symm, by go_grown⟩
  have E := Lib.hid (show Lq.pv x y = true from decide_eq_true (by omega))
  go_enter Try.func22, Try.ntmps22
  go_wp2_with fail
  go_returns
  exact ⟨ret_bool E.out.symm, by go_grown⟩
set_option maxRecDepth 100000 in
set_option maxHeartbeats 4000000 in
theorem rpvalid_c (x y : Int) (w : World) : Calls Try.prog 42 #[.agg #[.int .i64 x, .int .i64 y]] w fun e w' => e = .returned (.bool (Lq.pv x y)) ∧ Below w.heap.size w w' := by
  by_cases q1 : -2000000 ≤ x
  rotate_left
  · have E := Lib.hid (show Lq.pv x y = false from decide_eq_false (by omega))
    go_enter Try.func42, Try.ntmps42
    go_wp2_with fail
    go_returns
    exact ⟨ret_bool E.out.symm, by go_grown⟩
  by_cases q2 : x ≤ 2000000
  rotate_left
  · have E := Lib.hid (show Lq.pv x y = false from decide_eq_false (by omega))
    go_enter Try.func42, Try.ntmps42
    go_wp2_with fail
    go_returns
    exact ⟨ret_bool E.out.symm, by go_grown⟩
  by_cases q3 : -2000000 ≤ y
  rotate_left
  · have E := Lib.hid (show Lq.pv x y = false from decide_eq_false (by omega))
    go_enter Try.func42, Try.ntmps42
    go_wp2_with fail
    go_returns
    exact ⟨ret_bool E.out.symm, by go_grown⟩
  by_cases q4 : y ≤ 2000000
  rotate_left
  · have E := Lib.hid (show Lq.pv x y = false from decide_eq_false (by omega))
    have n1 : decide (y ≤ 2000000) = false := decide_eq_false q4
    go_enter Try.func42, Try.ntmps42
    go_wp2_with fail
    go_returns
    exact ⟨ret_bool E.out.symm, by go_grown⟩
  have E := Lib.hid (show Lq.pv x y = true from decide_eq_true (by omega))
  go_enter Try.func42, Try.ntmps42
  go_wp2_with fail
  go_returns
  exact ⟨ret_bool E.out.symm, by go_grown⟩
end Go.Proofs.Ytcgcocingfhleaa
