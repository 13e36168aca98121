/-
  Contracts: sums, differences, negated numbers, absolute values, comparisons; the same of the reference.
-/
import Derived.Test.YtnkgoojjnikaeaaW2
namespace Go.Proofs.Ytnkgoojjnikaeaa
set_option linter.unusedVariables false
set_option linter.unusedSimpArgs false
open Go.RowKit

/-- A sum of two uint64, wrapped. -/
theorem wadd_ex (x y : Int) (hx : 0 ≤ x) (hx' : x ≤ 18446744073709551615) (hy : 0 ≤ y) (hy' : y ≤ 18446744073709551615) :
    ∃ s k : Int, 0 ≤ s ∧ s ≤ 18446744073709551615 ∧ Hid (x + y = s + k * 18446744073709551616 ∧ 0 ≤ k ∧ k ≤ 1 ∧ (k = 1 ↔ s < x)) ∧ IntKind.u64.wrap (x + y) = s := by
  by_cases h : x + y < 18446744073709551616
  · exact ⟨x + y, 0, by omega, by omega, Lib.hid (by omega), by rw [IntKind.wrap_u64]; omega⟩
  · exact ⟨x + y - 18446744073709551616, 1, by omega, by omega, Lib.hid (by omega), by rw [IntKind.wrap_u64]; omega⟩
/-- A difference of two uint64, wrapped. -/
theorem wsub_ex (x y : Int) (hx : 0 ≤ x) (hx' : x ≤ 18446744073709551615) (hy : 0 ≤ y) (hy' : y ≤ 18446744073709551615) :
    ∃ s k : Int, 0 ≤ s ∧ s ≤ 18446744073709551615 ∧ Hid (x - y = s - k * 18446744073709551616 ∧ 0 ≤ k ∧ k ≤ 1 ∧ (k = 1 ↔ x < y)) ∧ IntKind.u64.wrap (x - y) = s := by
  by_cases h : x < y
  · exact ⟨x - y + 18446744073709551616, 1, by omega, by omega, Lib.hid (by omega), by rw [IntKind.wrap_u64]; omega⟩
  · exact ⟨x - y, 0, by omega, by omega, Lib.hid (by omega), by rw [IntKind.wrap_u64]; omega⟩

set_option maxHeartbeats 4000000 in
theorem add_c (h l x h' l' y : Int) (w : World) (H : Wi.Wd h l x) (H' : Wi.Wd h' l' y) : Calls Try.prog 28 #[.agg #[.int .i64 h, .int .u64 l], .agg #[.int .i64 h', .int .u64 l']] w fun e w' =>
    e = .returned (.tuple #[.agg #[.int .i64 (Wi.Hq (Wi.rv (x + y))), .int .u64 (Wi.Lr (Wi.rv (x + y)))], .bool (Wi.okb (x + y))]) ∧ Below w.heap.size w w' := by
  obtain ⟨h1, h2, h3, h4, hv⟩ := H.bd
  obtain ⟨g1, g2, g3, g4, hv'⟩ := H'.bd
  have HV := Lib.hid hv
  have HV' := Lib.hid hv'
  clear hv hv'
  obtain ⟨u, n, u1, u2, hu, eu⟩ := u_ex h h1 h2
  obtain ⟨u', n', u1', u2', hu', eu'⟩ := u_ex h' g1 g2
  obtain ⟨s, k, s1, s2, k1, k2, hs1, q1⟩ := add_ex l l' 0 h3 h4 g3 g4 (by omega) (by omega)
  obtain ⟨t, m, t1, t2, m1, m2, ht1, q2⟩ := add_ex u u' k u1 u2 u1' u2' k1 k2
  obtain ⟨z, o, z1, z2, hz, ez⟩ := i_ex t t1 t2
  by_cases a1 : h < 0 <;> by_cases a2 : h' < 0 <;> by_cases a3 : z < 0
  all_goals
    go_enter Try.func28, Try.ntmps28
    go_wp2_with (first | simp only [q1] | simp only [q2])
    go_returns
    have e1 := HV.out
    have e2 := HV'.out
    have e3 := hu.out
    have e4 := hu'.out
    have e5 := hs1.out
    have e6 := ht1.out
    have e7 := hz.out
    exact ⟨ret_w (by first | exact Wi.w_yes z1 z2 s1 s2 (by omega) | exact Wi.w_no (by omega)), by go_grown⟩

set_option maxHeartbeats 4000000 in
theorem sub_c (h l x h' l' y : Int) (w : World) (H : Wi.Wd h l x) (H' : Wi.Wd h' l' y) : Calls Try.prog 30 #[.agg #[.int .i64 h, .int .u64 l], .agg #[.int .i64 h', .int .u64 l']] w fun e w' =>
    e = .returned (.tuple #[.agg #[.int .i64 (Wi.Hq (Wi.rv (x - y))), .int .u64 (Wi.Lr (Wi.rv (x - y)))], .bool (Wi.okb (x - y))]) ∧ Below w.heap.size w w' := by
  obtain ⟨h1, h2, h3, h4, hv⟩ := H.bd
  obtain ⟨g1, g2, g3, g4, hv'⟩ := H'.bd
  have HV := Lib.hid hv
  have HV' := Lib.hid hv'
  clear hv hv'
  obtain ⟨u, n, u1, u2, hu, eu⟩ := u_ex h h1 h2
  obtain ⟨u', n', u1', u2', hu', eu'⟩ := u_ex h' g1 g2
  obtain ⟨s, k, s1, s2, k1, k2, hs1, q1⟩ := sub_ex l l' 0 h3 h4 g3 g4 (by omega) (by omega)
  obtain ⟨t, m, t1, t2, m1, m2, ht1, q2⟩ := sub_ex u u' k u1 u2 u1' u2' k1 k2
  obtain ⟨z, o, z1, z2, hz, ez⟩ := i_ex t t1 t2
  by_cases a1 : h < 0 <;> by_cases a2 : h' < 0 <;> by_cases a3 : z < 0
  all_goals
    go_enter Try.func30, Try.ntmps30
    go_wp2_with (first | simp only [q1] | simp only [q2])
    go_returns
    have e1 := HV.out
    have e2 := HV'.out
    have e3 := hu.out
    have e4 := hu'.out
    have e5 := hs1.out
    have e6 := ht1.out
    have e7 := hz.out
    exact ⟨ret_w (by first | exact Wi.w_yes z1 z2 s1 s2 (by omega) | exact Wi.w_no (by omega)), by go_grown⟩

end Go.Proofs.Ytnkgoojjnikaeaa
