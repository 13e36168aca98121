/-
  Contracts: comparisons, numbers of one word, sums and differences.
-/
import Derived.Test.YtnkgoojjnikaeaaW1
namespace Go.Proofs.Ytnkgoojjnikaeaa
set_option linter.unusedVariables false
set_option linter.unusedSimpArgs false
open Go.RowKit

theorem nanu_c (x : Int) (w : World) : Calls Try.prog 71 #[.int .u64 x] w fun e w' => e = .returned (.bool false) ∧ w = w' := by
  go_enter Try.func71, Try.ntmps71
  go_wp2
  go_returns
  exact ⟨rfl, rfl⟩
theorem nani_c (x : Int) (w : World) : Calls Try.prog 70 #[.int .i64 x] w fun e w' => e = .returned (.bool false) ∧ w = w' := by
  go_enter Try.func70, Try.ntmps70
  go_wp2
  go_returns
  exact ⟨rfl, rfl⟩
set_option maxHeartbeats 1000000 in
theorem cmpu_c (x y : Int) (w : World) : Calls Try.prog 62 #[.int .u64 x, .int .u64 y] w fun e w' => e = .returned (.int .i64 (Wi.cm x y)) ∧ w = w' := by
  rcases Int.lt_trichotomy x y with h | h | h
  · have e := Wi.cm_lt h
    go_enter Try.func62, Try.ntmps62
    go_wp2_with (go_at_call 71; refine (nanu_c _ _).mono ?_; rintro e w' ⟨rfl, rfl⟩)
    go_returns
    exact ⟨ret_int e.symm, rfl⟩
  · subst h
    have e := Wi.cm_eq (rfl : x = x)
    go_enter Try.func62, Try.ntmps62
    go_wp2_with (go_at_call 71; refine (nanu_c _ _).mono ?_; rintro e w' ⟨rfl, rfl⟩)
    go_returns
    exact ⟨ret_int e.symm, rfl⟩
  · have e := Wi.cm_gt h
    go_enter Try.func62, Try.ntmps62
    go_wp2_with (go_at_call 71; refine (nanu_c _ _).mono ?_; rintro e w' ⟨rfl, rfl⟩)
    go_returns
    exact ⟨ret_int e.symm, rfl⟩
set_option maxHeartbeats 1000000 in
theorem cmpi_c (x y : Int) (w : World) : Calls Try.prog 61 #[.int .i64 x, .int .i64 y] w fun e w' => e = .returned (.int .i64 (Wi.cm x y)) ∧ w = w' := by
  rcases Int.lt_trichotomy x y with h | h | h
  · have e := Wi.cm_lt h
    go_enter Try.func61, Try.ntmps61
    go_wp2_with (go_at_call 70; refine (nani_c _ _).mono ?_; rintro e w' ⟨rfl, rfl⟩)
    go_returns
    exact ⟨ret_int e.symm, rfl⟩
  · subst h
    have e := Wi.cm_eq (rfl : x = x)
    go_enter Try.func61, Try.ntmps61
    go_wp2_with (go_at_call 70; refine (nani_c _ _).mono ?_; rintro e w' ⟨rfl, rfl⟩)
    go_returns
    exact ⟨ret_int e.symm, rfl⟩
  · have e := Wi.cm_gt h
    go_enter Try.func61, Try.ntmps61
    go_wp2_with (go_at_call 70; refine (nani_c _ _).mono ?_; rintro e w' ⟨rfl, rfl⟩)
    go_returns
    exact ⟨ret_int e.symm, rfl⟩
set_option maxHeartbeats 1000000 in
theorem scmp_c (h l s h' l' t : Int) (w : World) (H : Wi.Sz h l s) (H' : Wi.Sz h' l' t) : Calls Try.prog 50 #[.agg #[.int .u64 h, .int .u64 l], .agg #[.int .u64 h', .int .u64 l']] w fun e w' =>
    e = .returned (.int .i64 (Wi.cm s t)) ∧ Below w.heap.size w w' := by
  have b1 := H.bd
  have b2 := H'.bd
  by_cases hh : h = h'
  · subst hh
    have e : Wi.cm l l' = Wi.cm s t := by
      rcases Int.lt_trichotomy l l' with q | q | q
      · rw [Wi.cm_lt q, Wi.cm_lt (by omega)]
      · rw [Wi.cm_eq q, Wi.cm_eq (by omega)]
      · rw [Wi.cm_gt q, Wi.cm_gt (by omega)]
    have E := Lib.hid e
    clear e b1 b2
    go_enter Try.func50, Try.ntmps50
    go_wp2_with (go_at_call 62; refine (cmpu_c _ _ _).mono ?_; rintro e w' ⟨rfl, rfl⟩)
    go_returns
    exact ⟨ret_int E.out, by go_grown⟩
  · have e : Wi.cm h h' = Wi.cm s t := by
      rcases Int.lt_trichotomy h h' with q | q | q
      · rw [Wi.cm_lt q, Wi.cm_lt (by omega)]
      · exact absurd q hh
      · rw [Wi.cm_gt q, Wi.cm_gt (by omega)]
    have hb : (h == h') = false := by simpa using hh
    have E := Lib.hid e
    clear e b1 b2 hh
    go_enter Try.func50, Try.ntmps50
    go_wp2_with (go_at_call 62; refine (cmpu_c _ _ _).mono ?_; rintro e w' ⟨rfl, rfl⟩)
    go_returns
    exact ⟨ret_int E.out, by go_grown⟩
set_option maxHeartbeats 1000000 in
theorem zero_c (h l s : Int) (w : World) (H : Wi.Sz h l s) : Calls Try.prog 56 #[.agg #[.int .u64 h, .int .u64 l]] w fun e w' =>
    e = .returned (.bool (Wi.zb s)) ∧ Below w.heap.size w w' := by
  have b1 := H.bd
  by_cases hh : h = 0
  · subst hh
    by_cases hl : l = 0
    · subst hl
      have e : Wi.zb s = true := decide_eq_true (by omega)
      clear b1
      go_enter Try.func56, Try.ntmps56
      go_wp2
      go_returns
      exact ⟨ret_bool e.symm, by go_grown⟩
    · have e : Wi.zb s = false := decide_eq_false (by omega)
      have hb : (l == 0) = false := by simpa using hl
      clear b1 hl
      go_enter Try.func56, Try.ntmps56
      go_wp2
      go_returns
      exact ⟨ret_bool e.symm, by go_grown⟩
  · have e : Wi.zb s = false := decide_eq_false (by omega)
    have hb : (h == 0) = false := by simpa using hh
    clear b1 hh
    go_enter Try.func56, Try.ntmps56
    go_wp2
    go_returns
    exact ⟨ret_bool e.symm, by go_grown⟩
theorem ret_a {h l h' l' : Int} {k : IntKind} (e : h = h' ∧ l = l') : Ending.returned (.agg #[.int k h, .int .u64 l]) = .returned (.agg #[.int k h', .int .u64 l']) := by rw [e.1, e.2]
set_option maxHeartbeats 1000000 in
theorem of_c (a : Int) (w : World) (h1 : -9223372036854775808 ≤ a) (h2 : a ≤ 9223372036854775807) : Calls Try.prog 43 #[.int .i64 a] w fun e w' =>
    e = .returned (.agg #[.int .i64 (Wi.Hq a), .int .u64 (Wi.Lr a)]) ∧ Below w.heap.size w w' := by
  obtain ⟨u, n, u1, u2, hu, eu⟩ := u_ex a h1 h2
  obtain ⟨z, ez, hz⟩ : ∃ z : Int, a / 9223372036854775808 = z ∧ Hid (z = -1 ∧ a < 0 ∨ z = 0 ∧ 0 ≤ a) := ⟨_, rfl, Lib.hid (by omega)⟩
  go_enter Try.func43, Try.ntmps43
  go_wp2
  go_returns
  have e1 := hu.out
  have e2 := hz.out
  exact ⟨ret_a (by rw [@Wi.Hq_of z u a u1 u2 (by omega), @Wi.Lr_of z u a u1 u2 (by omega)]; exact ⟨rfl, rfl⟩), by go_grown⟩
set_option maxHeartbeats 1000000 in
theorem abs_c (a : Int) (w : World) (h1 : -9223372036854775808 ≤ a) (h2 : a ≤ 9223372036854775807) : Calls Try.prog 52 #[.int .i64 a] w fun e w' =>
    e = .returned (.int .u64 (Wi.ab a)) ∧ w = w' := by
  by_cases h : a < 0
  · obtain ⟨u, n, u1, u2, hu, eu⟩ := u_ex a h1 h2
    have e2 : IntKind.u64.wrap (-u) = -a := by have := hu.out; rw [IntKind.wrap_u64]; omega
    have e := Lib.hid (Wi.ab_neg h)
    go_enter Try.func52, Try.ntmps52
    go_wp2
    go_returns
    exact ⟨ret_int e.out.symm, rfl⟩
  · have e := Lib.hid (@Wi.ab_pos a (by omega))
    go_enter Try.func52, Try.ntmps52
    go_wp2
    go_returns
    exact ⟨ret_int e.out.symm, rfl⟩
theorem ret_i {h h' : Int} {b b' : Bool} (e : h = h' ∧ b = b') : Ending.returned (.tuple #[.int .i64 h, .bool b]) = .returned (.tuple #[.int .i64 h', .bool b']) := by rw [e.1, e.2]
set_option maxHeartbeats 1000000 in
theorem int_c (h l v : Int) (w : World) (H : Wi.Wd h l v) : Calls Try.prog 46 #[.agg #[.int .i64 h, .int .u64 l]] w fun e w' =>
    e = .returned (.tuple #[.int .i64 (Wi.iv v), .bool (Wi.ib v)]) ∧ Below w.heap.size w w' := by
  obtain ⟨h1, h2, h3, h4, hv⟩ := H.bd
  obtain ⟨z, n, z1, z2, hz, ez⟩ := i_ex l h3 h4
  obtain ⟨y, ey, hy⟩ : ∃ y : Int, z / 9223372036854775808 = y ∧ Hid (y = -1 ∧ z < 0 ∨ y = 0 ∧ 0 ≤ z) := ⟨_, rfl, Lib.hid (by omega)⟩
  have HV := Lib.hid hv
  clear hv
  by_cases hh : h = y
  · have HH := Lib.hid hh
    have hb : (h == y) = true := by simpa using hh
    clear hh
    go_enter Try.func46, Try.ntmps46
    go_wp2
    go_returns
    have e1 := hz.out
    have e2 := hy.out
    have e3 := HV.out
    have e4 := HH.out
    have q : Wi.in64 v := by unfold Wi.in64; omega
    exact ⟨ret_i (by rw [Wi.iv_yes q, Wi.ib_yes q]; exact ⟨by omega, rfl⟩), by go_grown⟩
  · have HH := Lib.hid hh
    have hb : (h == y) = false := by simpa using hh
    clear hh
    go_enter Try.func46, Try.ntmps46
    go_wp2
    go_returns
    have e1 := hz.out
    have e2 := hy.out
    have e3 := HV.out
    have e4 := HH.out
    have q : ¬ Wi.in64 v := by unfold Wi.in64; omega
    exact ⟨ret_i (by rw [Wi.iv_no q, Wi.ib_no q]; exact ⟨rfl, rfl⟩), by go_grown⟩
end Go.Proofs.Ytnkgoojjnikaeaa
