/-
  Contracts: products.
-/
import Derived.Test.YtgkbjkgafiojjaaW4
import Derived.Test.YtgkbjkgafiojjaaBits
namespace Go.Proofs.Ytgkbjkgafiojjaa
set_option linter.unusedVariables false
set_option linter.unusedSimpArgs false
open Go.RowKit

theorem half_bd {a b : Int} (h1 : 0 ≤ a) (h2 : a ≤ 4294967295) (h3 : 0 ≤ b) (h4 : b ≤ 4294967295) : 0 ≤ a * b ∧ a * b ≤ 18446744065119617025 := by
  have p := Int.mul_nonneg h1 h3
  have q := Int.mul_le_mul h2 h4 h3 (by omega)
  omega
/-- A product of two half words, as a number of its own. -/
theorem half_ex (a b : Int) (h1 : 0 ≤ a) (h2 : a ≤ 4294967295) (h3 : 0 ≤ b) (h4 : b ≤ 4294967295) : ∃ p : Int, 0 ≤ p ∧ p ≤ 18446744065119617025 ∧ Hid (a * b = p) ∧ IntKind.u64.wrap (a * b) = p := by
  have q := half_bd h1 h2 h3 h4
  exact ⟨a * b, q.1, q.2, Lib.hid rfl, IntWalk.u64_in _ (by omega)⟩
/-- The halves of a word. -/
theorem halves (x : Int) (h1 : 0 ≤ x) (h2 : x ≤ 18446744073709551615) : ∃ a b : Int, 0 ≤ a ∧ a ≤ 4294967295 ∧ 0 ≤ b ∧ b ≤ 4294967295 ∧ x / 4294967296 = a ∧ x % 4294967296 = b ∧ Hid (x = a * 4294967296 + b) :=
  ⟨_, _, by omega, by omega, by omega, by omega, rfl, rfl, Lib.hid (by omega)⟩
theorem mul_halves (a b c d : Int) : (a * 4294967296 + b) * (c * 4294967296 + d) = a * c * 18446744073709551616 + (a * d + b * c) * 4294967296 + b * d := by
  rw [Int.add_mul, Int.mul_add, Int.mul_add]
  have e1 : a * 4294967296 * (c * 4294967296) = a * c * 18446744073709551616 := by
    rw [Int.mul_assoc, Int.mul_left_comm 4294967296, ← Int.mul_assoc]; rfl
  have e2 : a * 4294967296 * d = a * d * 4294967296 := by rw [Int.mul_assoc, Int.mul_comm 4294967296, ← Int.mul_assoc]
  have e3 : b * (c * 4294967296) = b * c * 4294967296 := by rw [← Int.mul_assoc]
  omega
theorem ret_u2 {a b c d : Int} (h : a = b ∧ c = d) : Ending.returned (.tuple #[.int .u64 a, .int .u64 c]) = .returned (.tuple #[.int .u64 b, .int .u64 d]) := by rw [h.1, h.2]
set_option maxHeartbeats 1000000 in
theorem mul64_c (x y : Int) (w : World) (h1 : 0 ≤ x) (h2 : x ≤ 18446744073709551615) (h3 : 0 ≤ y) (h4 : y ≤ 18446744073709551615) : Calls Try.prog 24 #[.int .u64 x, .int .u64 y] w fun e w' =>
    e = .returned (.tuple #[.int .u64 (Wi.Hq (x * y)), .int .u64 (Wi.Lr (x * y))]) ∧ w = w' := by
  obtain ⟨x1, x0, a1, a2, a3, a4, ex1, ex0, hx⟩ := halves x h1 h2
  obtain ⟨y1, y0, b1, b2, b3, b4, ey1, ey0, hy⟩ := halves y h3 h4
  obtain ⟨p00, c1, c2, hp00, e00⟩ := half_ex x0 y0 a3 a4 b3 b4
  obtain ⟨p10, c3, c4, hp10, e10⟩ := half_ex x1 y0 a1 a2 b3 b4
  obtain ⟨p01, c5, c6, hp01, e01⟩ := half_ex x0 y1 a3 a4 b1 b2
  obtain ⟨p11, c7, c8, hp11, e11⟩ := half_ex x1 y1 a1 a2 b1 b2
  obtain ⟨lo, d1, hlo⟩ : ∃ lo : Int, IntKind.u64.wrap (x * y) = lo ∧ Hid (lo = x * y % 18446744073709551616) := ⟨_, rfl, Lib.hid (by rw [IntKind.wrap_u64])⟩
  have g1 : bits .and .u64 x 4294967295 = x0 := (and_half h1 h2).trans ex0
  have g2 : bits .and .u64 y 4294967295 = y0 := (and_half h3 h4).trans ey0
  have g3 := and_half (x := p10 + p00 / 4294967296) (by omega) (by omega)
  go_enter Try.func24, Try.ntmps24
  go_wp2_with fail
  go_returns
  have f1 := hx.out
  have f2 := hy.out
  have m := mul_halves x1 x0 y1 y0
  rw [← f1, ← f2, hp00.out, hp10.out, hp01.out, hp11.out] at m
  have f3 := hlo.out
  refine ⟨ret_u2 ?_, rfl⟩
  unfold Wi.Hq Wi.Lr
  refine ⟨?_, f3⟩
  clear g1 g2 g3 f3 e00 e10 e01 e11 d1
  omega

theorem mul_in {x y : Int} (h1 : 0 ≤ x) (h2 : x ≤ 18446744073709551615) (h3 : 0 ≤ y) (h4 : y ≤ 18446744073709551615) : Wi.inS (x * y) := by
  have p := Int.mul_nonneg h1 h3
  have q := Int.mul_le_mul h2 h4 h3 (by omega)
  unfold Wi.inS; omega
theorem ab_mul (a b : Int) : Wi.sg (Wi.ab a * Wi.ab b) (!decide (a < 0) == decide (b < 0)) = a * b := by
  unfold Wi.sg Wi.ab
  by_cases h1 : a < 0 <;> by_cases h2 : b < 0 <;> simp [h1, h2, Int.neg_mul, Int.mul_neg]
theorem ab_i {a : Int} (h1 : -9223372036854775808 ≤ a) (h2 : a ≤ 9223372036854775807) : 0 ≤ Wi.ab a ∧ Wi.ab a ≤ 9223372036854775808 := by unfold Wi.ab; split <;> omega
theorem mul_W {a b : Int} (h1 : -9223372036854775808 ≤ a) (h2 : a ≤ 9223372036854775807) (h3 : -9223372036854775808 ≤ b) (h4 : b ≤ 9223372036854775807) : Wi.inW (a * b) := by
  have p := ab_i h1 h2
  have q := ab_i h3 h4
  have r := Int.mul_le_mul p.2 q.2 q.1 (by omega)
  have r0 := Int.mul_nonneg p.1 q.1
  rw [← ab_mul a b]
  unfold Wi.sg Wi.inW; split <;> omega
set_option maxHeartbeats 1000000 in
theorem mul_c (a b : Int) (w : World) (h1 : -9223372036854775808 ≤ a) (h2 : a ≤ 9223372036854775807) (h3 : -9223372036854775808 ≤ b) (h4 : b ≤ 9223372036854775807) : Calls Try.prog 16 #[.int .i64 a, .int .i64 b] w fun e w' =>
    e = .returned (.agg #[.int .i64 (Wi.Hq (a * b)), .int .u64 (Wi.Lr (a * b))]) ∧ Below w.heap.size w w' := by
  have p := ab_i h1 h2
  have q := ab_i h3 h4
  have hS := mul_in p.1 (by omega) q.1 (by omega)
  have hr := Wi.rv_yes (mul_W h1 h2 h3 h4)
  rw [← hr]
  have E := Lib.hid (ab_mul a b)
  clear hr
  go_enter Try.func16, Try.ntmps16
  go_wp2_with fail
  refine (abs_c _ _ h1 h2).mono ?_
  rintro e w1 ⟨rfl, rfl⟩
  go_wp2_with fail
  refine (abs_c _ _ h3 h4).mono ?_
  rintro e w1 ⟨rfl, rfl⟩
  go_wp2_with fail
  refine (mul64_c _ _ _ p.1 (by omega) q.1 (by omega)).mono ?_
  rintro e w1 ⟨rfl, rfl⟩
  go_wp2_with fail
  refine (join_c _ _ _ _ _ (Wi.sz_self hS)).mono ?_
  rw [E.out]
  rintro e w1 ⟨rfl, hb⟩
  have R := (Blk.new w _ _).keep hb
  obtain ⟨r0, r1, r2, r3⟩ := R.open2
  go_wp2_with fail
  refine bodyPost_ret (by simp [results, Try.results16, go_sem, r0, r1, r2, r3]; try rfl) rfl ?_
  exact ⟨rfl, by repeat (first | exact Below.refl _ _ | (with_reducible assumption) | (with_reducible apply bal) | (with_reducible apply bdr) | (with_reducible apply bdnl) | (with_reducible refine bst ?_ (by first | (simp; done) | (simp; omega) | omega) _) | (with_reducible refine bt ?_ (by with_reducible assumption)))⟩
end Go.Proofs.Ytgkbjkgafiojjaa
