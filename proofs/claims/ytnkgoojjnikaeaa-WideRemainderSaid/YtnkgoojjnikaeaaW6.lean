/-
  Contracts: a number times an int64; the reference's words for sizes and signs.
-/
import Derived.Test.YtnkgoojjnikaeaaW5
namespace Go.Proofs.Ytnkgoojjnikaeaa
set_option linter.unusedVariables false
set_option linter.unusedSimpArgs false
open Go.RowKit

theorem times_facts {x a : Int} (hx : Wi.inW x) (h1 : -9223372036854775808 ≤ a) (h2 : a ≤ 9223372036854775807) :
    0 ≤ Wi.Hq (Wi.ab x) ∧ Wi.Hq (Wi.ab x) ≤ 9223372036854775808 ∧ 0 ≤ Wi.Lr (Wi.ab x) ∧ Wi.Lr (Wi.ab x) ≤ 18446744073709551615 ∧ 0 ≤ Wi.ab a ∧ Wi.ab a ≤ 9223372036854775808 ∧
    0 ≤ Wi.Hq (Wi.Lr (Wi.ab x) * Wi.ab a) ∧ Wi.Hq (Wi.Lr (Wi.ab x) * Wi.ab a) ≤ 18446744073709551615 ∧ 0 ≤ Wi.Lr (Wi.Lr (Wi.ab x) * Wi.ab a) ∧ Wi.Lr (Wi.Lr (Wi.ab x) * Wi.ab a) ≤ 18446744073709551615 ∧
    0 ≤ Wi.Hq (Wi.Hq (Wi.ab x) * Wi.ab a) ∧ Wi.Hq (Wi.Hq (Wi.ab x) * Wi.ab a) ≤ 4611686018427387904 ∧ 0 ≤ Wi.Lr (Wi.Hq (Wi.ab x) * Wi.ab a) ∧ Wi.Lr (Wi.Hq (Wi.ab x) * Wi.ab a) ≤ 18446744073709551615 := by
  have p := (Wi.ab_bd hx).2
  have p0 := (Wi.ab_bd hx).1.1
  have q := ab_i h1 h2
  have e1 : 0 ≤ Wi.Hq (Wi.ab x) ∧ Wi.Hq (Wi.ab x) ≤ 9223372036854775808 := by unfold Wi.Hq; omega
  have e2 := Wi.Lr_bd (Wi.ab x)
  have e3 := Int.mul_nonneg e2.1 q.1
  have e4 := Int.mul_le_mul e2.2 q.2 q.1 (by omega)
  have e5 := Int.mul_nonneg e1.1 q.1
  have e6 := Int.mul_le_mul e1.2 q.2 q.1 (by omega)
  have e7 := Wi.Lr_bd (Wi.Lr (Wi.ab x) * Wi.ab a)
  have e8 := Wi.Lr_bd (Wi.Hq (Wi.ab x) * Wi.ab a)
  refine ⟨e1.1, e1.2, e2.1, e2.2, q.1, q.2, ?_, ?_, e7.1, e7.2, ?_, ?_, e8.1, e8.2⟩ <;> (generalize Wi.Lr (Wi.ab x) * Wi.ab a = P at *; generalize Wi.Hq (Wi.ab x) * Wi.ab a = Q at *; unfold Wi.Hq; omega)
/-- The product of the sizes, out of its parts. -/
theorem times_sum (x a : Int) : Wi.ab x * Wi.ab a = (Wi.Hq (Wi.Hq (Wi.ab x) * Wi.ab a) * 18446744073709551616 + Wi.Lr (Wi.Hq (Wi.ab x) * Wi.ab a)) * 18446744073709551616 + (Wi.Hq (Wi.Lr (Wi.ab x) * Wi.ab a) * 18446744073709551616 + Wi.Lr (Wi.Lr (Wi.ab x) * Wi.ab a)) := by
  have h := Wi.HL (Wi.ab x)
  rw [← Wi.HL, ← Wi.HL]
  generalize Wi.ab x = s at *
  generalize Wi.ab a = m at *
  generalize Wi.Hq s = u at *
  generalize Wi.Lr s = v at *
  subst h
  rw [Int.add_mul, Int.mul_assoc, Int.mul_comm 18446744073709551616, ← Int.mul_assoc]
theorem ab_times (x a : Int) : Wi.sg (Wi.ab x * Wi.ab a) (!Wi.ngb x == decide (a < 0)) = x * a := ab_mul x a
theorem sg_big {s : Int} (n : Bool) (h : 340282366920938463463374607431768211456 ≤ s) : Wi.sg s n < -170141183460469231731687303715884105728 ∨ 170141183460469231731687303715884105728 ≤ Wi.sg s n := by
  cases n <;> simp only [Wi.sg_t, Wi.sg_f] <;> omega
set_option maxHeartbeats 1000000 in
theorem times_c (h l x a : Int) (w : World) (H : Wi.Wd h l x) (h1 : -9223372036854775808 ≤ a) (h2 : a ≤ 9223372036854775807) : Calls Try.prog 40 #[.agg #[.int .i64 h, .int .u64 l], .int .i64 a] w fun e w' =>
    e = .returned (.tuple #[.agg #[.int .i64 (Wi.Hq (Wi.rv (x * a))), .int .u64 (Wi.Lr (Wi.rv (x * a)))], .bool (Wi.okb (x * a))]) ∧ Below w.heap.size w w' := by
  obtain ⟨f1, f2, f3, f4, f5, f6, f7, f8, f9, f10, f11, f12, f13, f14⟩ := times_facts H.hv h1 h2
  obtain ⟨s, k, s1, s2, k1, k2, hs1, q1⟩ := add_ex (Wi.Hq (Wi.Lr (Wi.ab x) * Wi.ab a)) (Wi.Lr (Wi.Hq (Wi.ab x) * Wi.ab a)) 0 f7 f8 f13 f14 (by omega) (by omega)
  have S := Lib.hid (times_sum x a)
  have E := Lib.hid (ab_times x a)
  by_cases ht : 0 < Wi.Hq (Wi.Hq (Wi.ab x) * Wi.ab a) + k
  · have B := Lib.hid (sg_big (s := Wi.ab x * Wi.ab a) (!Wi.ngb x == decide (a < 0)) (by have := S.out; have := hs1.out; omega))
    go_enter Try.func40, Try.ntmps40
    go_wp2_with fail
    refine (split_c _ _ _ _ H).mono ?_
    rintro e w1 ⟨rfl, hb1⟩
    have R := (Blk.new1 w _ _ _).keep hb1
    go_wp2_with fail
    refine (abs_c _ _ h1 h2).mono ?_
    rintro e w2 ⟨rfl, rfl⟩
    go_wp2_with fail
    refine (mul64_c _ _ _ f3 f4 f5 (by omega)).mono ?_
    rintro e w2 ⟨rfl, rfl⟩
    go_wp2_with fail
    refine (mul64_c _ _ _ f1 (by omega) f5 (by omega)).mono ?_
    rintro e w2 ⟨rfl, rfl⟩
    obtain ⟨r0, r1, r2, r3⟩ := R.open2
    have hz := hb1.size
    go_wp2_with (simp only [q1])
    refine bodyPost_ret (by simp [results, Try.results40, go_sem, r0, r1, r2, r3, hz]; try rfl) rfl ?_
    exact ⟨ret_w (Wi.w_no (by rw [← E.out]; exact B.out)), by repeat (first | exact Below.refl _ _ | (with_reducible assumption) | (with_reducible apply bal) | (with_reducible apply bdr) | (with_reducible apply bdnl) | (with_reducible refine bst ?_ (by first | (simp; done) | (simp; omega) | omega) _) | (with_reducible refine bt ?_ (by with_reducible assumption)))⟩
  · have hQ : Wi.Hq (Wi.Hq (Wi.ab x) * Wi.ab a) = 0 := by omega
    have hk : k = 0 := by omega
    subst hk
    have hz : Wi.Sz s (Wi.Lr (Wi.Lr (Wi.ab x) * Wi.ab a)) (Wi.ab x * Wi.ab a) := Wi.sz_of s1 s2 f9 f10 (by have := S.out; have := hs1.out; omega)
    have HQ := Lib.hid hQ
    clear hQ
    go_enter Try.func40, Try.ntmps40
    go_wp2_with fail
    refine (split_c _ _ _ _ H).mono ?_
    rintro e w1 ⟨rfl, hb1⟩
    have R := (Blk.new1 w _ _ _).keep hb1
    go_wp2_with fail
    refine (abs_c _ _ h1 h2).mono ?_
    rintro e w2 ⟨rfl, rfl⟩
    go_wp2_with fail
    refine (mul64_c _ _ _ f3 f4 f5 (by omega)).mono ?_
    rintro e w2 ⟨rfl, rfl⟩
    go_wp2_with fail
    refine (mul64_c _ _ _ f1 (by omega) f5 (by omega)).mono ?_
    rintro e w2 ⟨rfl, rfl⟩
    rw [HQ.out] at ht ⊢
    go_wp2_with (simp only [q1])
    refine (join_c _ _ _ _ _ hz).mono ?_
    rw [E.out]
    rintro e w2 ⟨rfl, hb2⟩
    have R2 := (R.alloc _).keep hb2
    obtain ⟨r0, r1, r2, r3⟩ := R2.open2
    go_wp2_with fail
    refine bodyPost_ret (by simp [results, Try.results40, go_sem, r0, r1, r2, r3]; try rfl) rfl ?_
    exact ⟨rfl, by repeat (first | exact Below.refl _ _ | (with_reducible assumption) | (with_reducible apply bal) | (with_reducible apply bdr) | (with_reducible apply bdnl) | (with_reducible refine bst ?_ (by first | (simp; done) | (simp; omega) | omega) _) | (with_reducible refine bt ?_ (by with_reducible assumption)))⟩

end Go.Proofs.Ytnkgoojjnikaeaa
