/-
  Contracts: comparisons, numbers of one word, sums and differences.
-/
import Derived.Test.YtgkbjkgafiojjaaW1
namespace Go.Proofs.Ytgkbjkgafiojjaa
set_option linter.unusedVariables false
set_option linter.unusedSimpArgs false
open Go.RowKit

theorem nanu_c (x : Int) (w : World) : Calls Try.prog 31 #[.int .u64 x] w fun e w' => e = .returned (.bool false) ∧ w = w' := by
  go_enter Try.func31, Try.ntmps31
  go_wp2
  go_returns
  exact ⟨rfl, rfl⟩
theorem nani_c (x : Int) (w : World) : Calls Try.prog 30 #[.int .i64 x] w fun e w' => e = .returned (.bool false) ∧ w = w' := by
  go_enter Try.func30, Try.ntmps30
  go_wp2
  go_returns
  exact ⟨rfl, rfl⟩
set_option maxHeartbeats 1000000 in
theorem cmpu_c (x y : Int) (w : World) : Calls Try.prog 28 #[.int .u64 x, .int .u64 y] w fun e w' => e = .returned (.int .i64 (Wi.cm x y)) ∧ w = w' := by
  rcases Int.lt_trichotomy x y with h | h | h
  · have e := Wi.cm_lt h
    go_enter Try.func28, Try.ntmps28
    go_wp2_with (go_at_call 31; refine (nanu_c _ _).mono ?_; rintro e w' ⟨rfl, rfl⟩)
    go_returns
    exact ⟨ret_int e.symm, rfl⟩
  · subst h
    have e := Wi.cm_eq (rfl : x = x)
    go_enter Try.func28, Try.ntmps28
    go_wp2_with (go_at_call 31; refine (nanu_c _ _).mono ?_; rintro e w' ⟨rfl, rfl⟩)
    go_returns
    exact ⟨ret_int e.symm, rfl⟩
  · have e := Wi.cm_gt h
    go_enter Try.func28, Try.ntmps28
    go_wp2_with (go_at_call 31; refine (nanu_c _ _).mono ?_; rintro e w' ⟨rfl, rfl⟩)
    go_returns
    exact ⟨ret_int e.symm, rfl⟩
set_option maxHeartbeats 1000000 in
theorem cmpi_c (x y : Int) (w : World) : Calls Try.prog 27 #[.int .i64 x, .int .i64 y] w fun e w' => e = .returned (.int .i64 (Wi.cm x y)) ∧ w = w' := by
  rcases Int.lt_trichotomy x y with h | h | h
  · have e := Wi.cm_lt h
    go_enter Try.func27, Try.ntmps27
    go_wp2_with (go_at_call 30; refine (nani_c _ _).mono ?_; rintro e w' ⟨rfl, rfl⟩)
    go_returns
    exact ⟨ret_int e.symm, rfl⟩
  · subst h
    have e := Wi.cm_eq (rfl : x = x)
    go_enter Try.func27, Try.ntmps27
    go_wp2_with (go_at_call 30; refine (nani_c _ _).mono ?_; rintro e w' ⟨rfl, rfl⟩)
    go_returns
    exact ⟨ret_int e.symm, rfl⟩
  · have e := Wi.cm_gt h
    go_enter Try.func27, Try.ntmps27
    go_wp2_with (go_at_call 30; refine (nani_c _ _).mono ?_; rintro e w' ⟨rfl, rfl⟩)
    go_returns
    exact ⟨ret_int e.symm, rfl⟩
theorem ret_a {h l h' l' : Int} {k : IntKind} (e : h = h' ∧ l = l') : Ending.returned (.agg #[.int k h, .int .u64 l]) = .returned (.agg #[.int k h', .int .u64 l']) := by rw [e.1, e.2]
set_option maxHeartbeats 1000000 in
theorem abs_c (a : Int) (w : World) (h1 : -9223372036854775808 ≤ a) (h2 : a ≤ 9223372036854775807) : Calls Try.prog 25 #[.int .i64 a] w fun e w' =>
    e = .returned (.int .u64 (Wi.ab a)) ∧ w = w' := by
  by_cases h : a < 0
  · obtain ⟨u, n, u1, u2, hu, eu⟩ := u_ex a h1 h2
    have e2 : IntKind.u64.wrap (-u) = -a := by have := hu.out; rw [IntKind.wrap_u64]; omega
    have e := Lib.hid (Wi.ab_neg h)
    go_enter Try.func25, Try.ntmps25
    go_wp2
    go_returns
    exact ⟨ret_int e.out.symm, rfl⟩
  · have e := Lib.hid (@Wi.ab_pos a (by omega))
    go_enter Try.func25, Try.ntmps25
    go_wp2
    go_returns
    exact ⟨ret_int e.out.symm, rfl⟩
theorem ret_i {h h' : Int} {b b' : Bool} (e : h = h' ∧ b = b') : Ending.returned (.tuple #[.int .i64 h, .bool b]) = .returned (.tuple #[.int .i64 h', .bool b']) := by rw [e.1, e.2]
set_option maxHeartbeats 1000000 in
theorem int_c (h l v : Int) (w : World) (H : Wi.Wd h l v) : Calls Try.prog 15 #[.agg #[.int .i64 h, .int .u64 l]] w fun e w' =>
    e = .returned (.tuple #[.int .i64 (Wi.iv v), .bool (Wi.ib v)]) ∧ Below w.heap.size w w' := by
  obtain ⟨h1, h2, h3, h4, hv⟩ := H.bd
  obtain ⟨z, n, z1, z2, hz, ez⟩ := i_ex l h3 h4
  obtain ⟨y, ey, hy⟩ : ∃ y : Int, z / 9223372036854775808 = y ∧ Hid (y = -1 ∧ z < 0 ∨ y = 0 ∧ 0 ≤ z) := ⟨_, rfl, Lib.hid (by omega)⟩
  have HV := Lib.hid hv
  clear hv
  by_cases hh : h = y
  · have HH := Lib.hid hh
    have hb : (h == y) = true := by simpa using hh
    clear hh
    go_enter Try.func15, Try.ntmps15
    go_wp2
    go_returns
    have e1 := hz.out
    have e2 := hy.out
    have e3 := HV.out
    have e4 := HH.out
    have q : Wi.in64 v := by unfold Wi.in64; omega
    exact ⟨ret_i (by rw [Wi.iv_yes q, Wi.ib_yes q]; exact ⟨by omega, rfl⟩), by go_grown⟩
  · have HH := Lib.hid hh
    have hb : (h == y) = false := by simpa using hh
    clear hh
    go_enter Try.func15, Try.ntmps15
    go_wp2
    go_returns
    have e1 := hz.out
    have e2 := hy.out
    have e3 := HV.out
    have e4 := HH.out
    have q : ¬ Wi.in64 v := by unfold Wi.in64; omega
    exact ⟨ret_i (by rw [Wi.iv_no q, Wi.ib_no q]; exact ⟨rfl, rfl⟩), by go_grown⟩
end Go.Proofs.Ytgkbjkgafiojjaa
