/-
  Contracts: the reference's sums, differences, products and comparisons.
-/
import Derived.Test.YtnkgoojjnikaeaaW7
namespace Go.Proofs.Ytnkgoojjnikaeaa
set_option linter.unusedVariables false
set_option linter.unusedSimpArgs false
open Go.RowKit

set_option maxHeartbeats 1000000 in
theorem rof_c (a : Int) (w : World) (h1 : -9223372036854775808 ≤ a) (h2 : a ≤ 9223372036854775807) : Calls Try.prog 44 #[.int .i64 a] w fun e w' =>
    e = .returned (.agg #[.int .i64 (Wi.Hq a), .int .u64 (Wi.Lr a)]) ∧ Below w.heap.size w w' := by
  obtain ⟨u, n, u1, u2, hu, eu⟩ := u_ex a h1 h2
  by_cases h : a < 0
  · go_enter Try.func44, Try.ntmps44
    go_wp2
    go_returns
    have e1 := hu.out
    exact ⟨ret_a (by rw [@Wi.Hq_of (-1) u a u1 u2 (by omega), @Wi.Lr_of (-1) u a u1 u2 (by omega)]; exact ⟨rfl, rfl⟩), by go_grown⟩
  · go_enter Try.func44, Try.ntmps44
    go_wp2
    go_returns
    have e1 := hu.out
    exact ⟨ret_a (Wi.sz_eq (by omega) (by omega) (by omega) (by omega) (by omega)), by go_grown⟩
set_option maxHeartbeats 1000000 in
theorem rmul_c (a b : Int) (w : World) (h1 : -9223372036854775808 ≤ a) (h2 : a ≤ 9223372036854775807) (h3 : -9223372036854775808 ≤ b) (h4 : b ≤ 9223372036854775807) : Calls Try.prog 42 #[.int .i64 a, .int .i64 b] w fun e w' =>
    e = .returned (.agg #[.int .i64 (Wi.Hq (a * b)), .int .u64 (Wi.Lr (a * b))]) ∧ Below w.heap.size w w' := by
  have p := ab_i h1 h2
  have q := ab_i h3 h4
  have hS := mul_in p.1 (by omega) q.1 (by omega)
  have hr := Wi.rv_yes (mul_W h1 h2 h3 h4)
  rw [← hr]
  have E := Lib.hid (ab_mul a b)
  clear hr
  go_enter Try.func42, Try.ntmps42
  go_wp2_with fail
  refine (rsize1_c _ _ h1 h2).mono ?_
  rintro e w1 ⟨rfl, rfl⟩
  go_wp2_with fail
  refine (rsize1_c _ _ h3 h4).mono ?_
  rintro e w1 ⟨rfl, rfl⟩
  go_wp2_with fail
  refine (product_c _ _ _ p.1 (by omega) q.1 (by omega)).mono ?_
  rintro e w1 ⟨rfl, rfl⟩
  go_wp2_with fail
  refine (signed_c _ _ _ _ _ (Wi.sz_self hS)).mono ?_
  rw [E.out]
  rintro e w1 ⟨rfl, hb⟩
  have R := (Blk.new w _ _).keep hb
  obtain ⟨r0, r1, r2, r3⟩ := R.open2
  go_wp2_with fail
  refine bodyPost_ret (by simp [results, Try.results42, go_sem, r0, r1, r2, r3]; try rfl) rfl ?_
  exact ⟨rfl, by repeat (first | exact Below.refl _ _ | (with_reducible assumption) | (with_reducible apply bal) | (with_reducible apply bdr) | (with_reducible apply bdnl) | (with_reducible refine bst ?_ (by first | (simp; done) | (simp; omega) | omega) _) | (with_reducible refine bt ?_ (by with_reducible assumption)))⟩

set_option maxHeartbeats 8000000 in
theorem radd_c (h l x h' l' y : Int) (w : World) (H : Wi.Wd h l x) (H' : Wi.Wd h' l' y) : Calls Try.prog 29 #[.agg #[.int .i64 h, .int .u64 l], .agg #[.int .i64 h', .int .u64 l']] w fun e w' =>
    e = .returned (.tuple #[.agg #[.int .i64 (Wi.Hq (Wi.rv (x + y))), .int .u64 (Wi.Lr (Wi.rv (x + y)))], .bool (Wi.okb (x + y))]) ∧ Below w.heap.size w w' := by
  obtain ⟨h1, h2, h3, h4, hv⟩ := H.bd
  obtain ⟨g1, g2, g3, g4, hv'⟩ := H'.bd
  have HV := Lib.hid hv
  have HV' := Lib.hid hv'
  clear hv hv'
  obtain ⟨u, n, u1, u2, hu, eu⟩ := u_ex h h1 h2
  obtain ⟨u', n', u1', u2', hu', eu'⟩ := u_ex h' g1 g2
  obtain ⟨s, k, s1, s2, hs1, q1⟩ := wadd_ex l l' h3 h4 g3 g4
  obtain ⟨t, m, t1, t2, ht1, q2⟩ := wadd_ex u u' u1 u2 u1' u2'
  obtain ⟨t', m', t1', t2', ht1', q2'⟩ := wadd_ex t 1 t1 t2 (by omega) (by omega)
  obtain ⟨z, o, z1, z2, hz, ez⟩ := i_ex t t1 t2
  obtain ⟨z', o', z1', z2', hz', ez'⟩ := i_ex t' t1' t2'
  by_cases a0 : s < l
  · by_cases a1 : h < 0 <;> by_cases a2 : h' < 0 <;> by_cases a3 : z' < 0
    all_goals
      go_enter Try.func29, Try.ntmps29
      go_wp2_with fail
      go_returns
      have e1 := HV.out
      have e2 := HV'.out
      have e3 := hu.out
      have e4 := hu'.out
      have e5 := hs1.out
      have e6 := ht1.out
      have e7 := ht1'.out
      have e8 := hz'.out
      exact ⟨ret_w (by first | exact Wi.w_yes z1' z2' s1 s2 (by omega) | exact Wi.w_no (by omega)), by go_grown⟩
  · by_cases a1 : h < 0 <;> by_cases a2 : h' < 0 <;> by_cases a3 : z < 0
    all_goals
      go_enter Try.func29, Try.ntmps29
      go_wp2_with fail
      go_returns
      have e1 := HV.out
      have e2 := HV'.out
      have e3 := hu.out
      have e4 := hu'.out
      have e5 := hs1.out
      have e6 := ht1.out
      have e8 := hz.out
      exact ⟨ret_w (by first | exact Wi.w_yes z1 z2 s1 s2 (by omega) | exact Wi.w_no (by omega)), by go_grown⟩
set_option maxHeartbeats 8000000 in
theorem rsub_c (h l x h' l' y : Int) (w : World) (H : Wi.Wd h l x) (H' : Wi.Wd h' l' y) : Calls Try.prog 31 #[.agg #[.int .i64 h, .int .u64 l], .agg #[.int .i64 h', .int .u64 l']] w fun e w' =>
    e = .returned (.tuple #[.agg #[.int .i64 (Wi.Hq (Wi.rv (x - y))), .int .u64 (Wi.Lr (Wi.rv (x - y)))], .bool (Wi.okb (x - y))]) ∧ Below w.heap.size w w' := by
  obtain ⟨h1, h2, h3, h4, hv⟩ := H.bd
  obtain ⟨g1, g2, g3, g4, hv'⟩ := H'.bd
  have HV := Lib.hid hv
  have HV' := Lib.hid hv'
  clear hv hv'
  obtain ⟨u, n, u1, u2, hu, eu⟩ := u_ex h h1 h2
  obtain ⟨u', n', u1', u2', hu', eu'⟩ := u_ex h' g1 g2
  obtain ⟨s, k, s1, s2, hs1, q1⟩ := wsub_ex l l' h3 h4 g3 g4
  obtain ⟨t, m, t1, t2, ht1, q2⟩ := wsub_ex u u' u1 u2 u1' u2'
  obtain ⟨t', m', t1', t2', ht1', q2'⟩ := wsub_ex t 1 t1 t2 (by omega) (by omega)
  obtain ⟨z, o, z1, z2, hz, ez⟩ := i_ex t t1 t2
  obtain ⟨z', o', z1', z2', hz', ez'⟩ := i_ex t' t1' t2'
  by_cases a0 : l < l'
  · by_cases a1 : h < 0 <;> by_cases a2 : h' < 0 <;> by_cases a3 : z' < 0
    all_goals
      go_enter Try.func31, Try.ntmps31
      go_wp2_with fail
      go_returns
      have e1 := HV.out
      have e2 := HV'.out
      have e3 := hu.out
      have e4 := hu'.out
      have e5 := hs1.out
      have e6 := ht1.out
      have e7 := ht1'.out
      have e8 := hz'.out
      exact ⟨ret_w (by first | exact Wi.w_yes z1' z2' s1 s2 (by omega) | exact Wi.w_no (by omega)), by go_grown⟩
  · by_cases a1 : h < 0 <;> by_cases a2 : h' < 0 <;> by_cases a3 : z < 0
    all_goals
      go_enter Try.func31, Try.ntmps31
      go_wp2_with fail
      go_returns
      have e1 := HV.out
      have e2 := HV'.out
      have e3 := hu.out
      have e4 := hu'.out
      have e5 := hs1.out
      have e6 := ht1.out
      have e8 := hz.out
      exact ⟨ret_w (by first | exact Wi.w_yes z1 z2 s1 s2 (by omega) | exact Wi.w_no (by omega)), by go_grown⟩
end Go.Proofs.Ytnkgoojjnikaeaa
