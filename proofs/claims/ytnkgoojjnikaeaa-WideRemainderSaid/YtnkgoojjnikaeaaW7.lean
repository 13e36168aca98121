/-
  Contracts: the reference's words for sizes and signs.
-/
import Derived.Test.YtnkgoojjnikaeaaW6
namespace Go.Proofs.Ytnkgoojjnikaeaa
set_option linter.unusedVariables false
set_option linter.unusedSimpArgs false
open Go.RowKit

/-! The reference's. -/
theorem ret_u {a b : Int} (h : a = b) : Ending.returned (.int .u64 a) = .returned (.int .u64 b) := by rw [h]
set_option maxHeartbeats 1000000 in
theorem rsize1_c (a : Int) (w : World) (h1 : -9223372036854775808 ≤ a) (h2 : a ≤ 9223372036854775807) : Calls Try.prog 63 #[.int .i64 a] w fun e w' =>
    e = .returned (.int .u64 (Wi.ab a)) ∧ w = w' := by
  by_cases h : a < 0
  · have e := Lib.hid (Wi.ab_neg h)
    go_enter Try.func63, Try.ntmps63
    go_wp2
    go_returns
    exact ⟨ret_int (by rw [e.out]; omega), rfl⟩
  · have e := Lib.hid (@Wi.ab_pos a (by omega))
    go_enter Try.func63, Try.ntmps63
    go_wp2
    go_returns
    exact ⟨ret_int e.out.symm, rfl⟩
set_option maxHeartbeats 1000000 in
theorem rsize_c (h l v : Int) (w : World) (H : Wi.Wd h l v) : Calls Try.prog 58 #[.agg #[.int .i64 h, .int .u64 l]] w fun e w' =>
    e = .returned (.tuple #[.int .u64 (Wi.Hq (Wi.ab v)), .int .u64 (Wi.Lr (Wi.ab v))]) ∧ Below w.heap.size w w' := by
  obtain ⟨h1, h2, h3, h4, hv⟩ := H.bd
  have HV := Lib.hid hv
  clear hv
  by_cases hs : 0 ≤ h
  · have hs2 : ¬ h < 0 := by omega
    go_enter Try.func58, Try.ntmps58
    go_wp2_with fail
    go_quiet (fail)
    go_wp2_with fail
    go_returns
    have e := HV.out
    have q := Wi.sz_eq (h := h) (l := l) (v := Wi.ab v) (by omega) (by omega) h3 h4 (by rw [Wi.ab_pos (by omega)]; exact e)
    exact ⟨ret_u2 q, bdnl (ba _ _) _⟩
  · obtain ⟨u, n, u1, u2, hu, eu⟩ := u_ex h h1 h2
    have hsg := u64_sg
    have x1 := xor_max h3 h4
    have x2 := xor_max u1 u2
    by_cases hl : l = 0
    · subst hl
      have x3 : IntKind.u64.wrap 18446744073709551616 = 0 := by decide
      simp only [Int.sub_zero] at x1
      obtain ⟨t, e3, ht⟩ : ∃ t, IntKind.u64.wrap (18446744073709551615 - u + 1) = t ∧ Hid (t = (18446744073709551616 - u) % 18446744073709551616) := ⟨_, rfl, Lib.hid (by rw [IntKind.wrap_u64]; omega)⟩
      go_enter Try.func58, Try.ntmps58
      go_wp2_with fail
      go_quiet (fail)
      go_wp2_with fail
      go_returns
      have e := HV.out
      have e1 := hu.out
      have e2 := ht.out
      have q := Wi.sz_eq (h := t) (l := 0) (v := Wi.ab v) (by omega) (by omega) h3 h4 (by rw [Wi.ab_neg (by omega)]; omega)
      exact ⟨ret_u2 q, bdnl (ba _ _) _⟩
    · have hb : (18446744073709551615 - l + 1 == 0) = false := by simp; omega
      go_enter Try.func58, Try.ntmps58
      go_wp2_with fail
      go_quiet (fail)
      go_wp2_with fail
      go_returns
      have e := HV.out
      have e1 := hu.out
      have q := Wi.sz_eq (h := 18446744073709551615 - u) (l := 18446744073709551615 - l + 1) (v := Wi.ab v) (by omega) (by omega) (by omega) (by omega) (by rw [Wi.ab_neg (by omega)]; omega)
      exact ⟨ret_u2 q, bdnl (ba _ _) _⟩
set_option maxHeartbeats 2000000 in
theorem signed_c (n : Bool) (h l s : Int) (w : World) (H : Wi.Sz h l s) : Calls Try.prog 64 #[.bool n, .int .u64 h, .int .u64 l] w fun e w' =>
    e = .returned (.tuple #[.agg #[.int .i64 (Wi.Hq (Wi.rv (Wi.sg s n))), .int .u64 (Wi.Lr (Wi.rv (Wi.sg s n)))], .bool (Wi.okb (Wi.sg s n))]) ∧ Below w.heap.size w w' := by
  obtain ⟨h1, h2, h3, h4, hv⟩ := H.bd
  have HV := Lib.hid hv
  clear hv
  have hsg := u64_sg
  by_cases hs : 9223372036854775808 < h
  · go_enter Try.func64, Try.ntmps64
    go_wp2_with fail
    go_returns
    have e := HV.out
    exact ⟨ret_w (Wi.w_no (by cases n <;> simp only [Wi.sg_t, Wi.sg_f] <;> omega)), by go_grown⟩
  by_cases hs2 : h = 9223372036854775808
  · subst hs2
    by_cases hl : l = 0
    · subst hl
      cases n with
      | false =>
        go_enter Try.func64, Try.ntmps64
        go_wp2_with fail
        go_returns
        have e := HV.out
        exact ⟨ret_w (Wi.w_no (by rw [Wi.sg_f]; omega)), by go_grown⟩
      | true =>
        have x1 := xor_max (x := 9223372036854775808) (by omega) (by omega)
        have x2 := xor_max (x := 0) (by omega) (by omega)
        have x3 : IntKind.u64.wrap 18446744073709551616 = 0 := by decide
        have x4 : wrap64 9223372036854775808 = -9223372036854775808 := by unfold wrap64; decide
        simp only [Int.sub_zero] at x2
        go_enter Try.func64, Try.ntmps64
        go_wp2_with fail
        go_returns
        have e := HV.out
        exact ⟨ret_w (Wi.w_yes (by omega) (by omega) (by omega) (by omega) (by rw [Wi.sg_t]; omega)), by go_grown⟩
    · have hb : (l == 0) = false := by simpa using hl
      have hb2 : (l != 0) = true := by simpa using hl
      go_enter Try.func64, Try.ntmps64
      go_wp2_with fail
      go_returns
      have e := HV.out
      exact ⟨ret_w (Wi.w_no (by cases n <;> simp only [Wi.sg_t, Wi.sg_f] <;> omega)), by go_grown⟩
  · have hb : (h == 9223372036854775808) = false := by simpa using hs2
    cases n with
    | false =>
      go_enter Try.func64, Try.ntmps64
      go_wp2_with fail
      go_returns
      have e := HV.out
      exact ⟨ret_w (Wi.w_yes (by omega) (by omega) h3 h4 (by rw [Wi.sg_f]; omega)), by go_grown⟩
    | true =>
      have x1 := xor_max h1 h2
      have x2 := xor_max h3 h4
      by_cases hl : l = 0
      · subst hl
        have x3 : IntKind.u64.wrap 18446744073709551616 = 0 := by decide
        simp only [Int.sub_zero] at x2
        obtain ⟨t, e3, ht⟩ : ∃ t, IntKind.u64.wrap (18446744073709551615 - h + 1) = t ∧ Hid (0 ≤ t ∧ t ≤ 18446744073709551615 ∧ t = (18446744073709551616 - h) % 18446744073709551616) := ⟨_, rfl, Lib.hid (by rw [IntKind.wrap_u64]; omega)⟩
        obtain ⟨z, o, z1, z2, hz, ez⟩ := i_ex t ht.out.1 ht.out.2.1
        go_enter Try.func64, Try.ntmps64
        go_wp2_with fail
        go_returns
        have e := HV.out
        have e1 := ht.out
        have e2 := hz.out
        exact ⟨ret_w (Wi.w_yes z1 z2 (by omega) (by omega) (by rw [Wi.sg_t]; omega)), by go_grown⟩
      · have hb3 : (18446744073709551615 - l + 1 == 0) = false := by simp; omega
        obtain ⟨z, o, z1, z2, hz, ez⟩ := i_ex (18446744073709551615 - h) (by omega) (by omega)
        go_enter Try.func64, Try.ntmps64
        go_wp2_with fail
        go_returns
        have e := HV.out
        have e2 := hz.out
        exact ⟨ret_w (Wi.w_yes z1 z2 (by omega) (by omega) (by rw [Wi.sg_t]; omega)), by go_grown⟩
end Go.Proofs.Ytnkgoojjnikaeaa
