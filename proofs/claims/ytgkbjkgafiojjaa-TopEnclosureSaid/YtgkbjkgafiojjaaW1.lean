/-
  Contracts: bits.Add64, bits.Sub64; the size and the sign of a number, and back.
-/
import Derived.Test.YtgkbjkgafiojjaaChecked
import Derived.Test.YtgkbjkgafiojjaaPlain
import Derived.Test.YtgkbjkgafiojjaaBlk
import Derived.Handy
import Derived.Shelf.Spec.BitsCarry
namespace Go.Proofs.Ytgkbjkgafiojjaa
set_option linter.unusedVariables false
set_option linter.unusedSimpArgs false
open Go.RowKit

theorem sub64_r (x y b : Int) (hx : 0 ≤ x) (hy : 0 ≤ y) (hy' : y < 18446744073709551616) (hb0 : 0 ≤ b) (hb : b ≤ 1) (w : World) : (callFunc 29 #[.int .u64 x, .int .u64 y, .int .u64 b]).run Try.prog w =
    .ok (.value (.tuple #[.int .u64 ((x - y - b) % 18446744073709551616), .int .u64 (if x < y + b then 1 else 0)])) w := by
  obtain ⟨x, rfl⟩ := Int.eq_ofNat_of_zero_le hx
  obtain ⟨y, rfl⟩ := Int.eq_ofNat_of_zero_le hy
  obtain ⟨b, rfl⟩ := Int.eq_ofNat_of_zero_le hb0
  have e1 : (((x + 18446744073709551616 - y - b) % 18446744073709551616 : Nat) : Int) = ((x : Int) - y - b) % 18446744073709551616 := by omega
  have e2 : ((if x < y + b then 1 else 0 : Nat) : Int) = if (x : Int) < y + b then 1 else 0 := by split <;> split <;> omega
  rw [← e1, ← e2, run_callFunc_extern Try.func29 (by kernel_rfl) (by kernel_rfl) (by kernel_rfl) (e := sub64Entry) (by kernel_rfl), run_sub64 x y b (by omega)]
  rfl
/-- bits.Sub64: the difference and the borrow, as numbers with a linear equation. -/
theorem sub_ex (x y b : Int) (hx : 0 ≤ x) (hx' : x ≤ 18446744073709551615) (hy : 0 ≤ y) (hy' : y ≤ 18446744073709551615) (hb0 : 0 ≤ b) (hb : b ≤ 1) :
    ∃ s k : Int, 0 ≤ s ∧ s ≤ 18446744073709551615 ∧ 0 ≤ k ∧ k ≤ 1 ∧ Hid (x - y - b = s - k * 18446744073709551616) ∧
      ∀ w, (callFunc 29 #[.int .u64 x, .int .u64 y, .int .u64 b]).run Try.prog w = .ok (.value (.tuple #[.int .u64 s, .int .u64 k])) w := by
  refine ⟨_, _, ?_, ?_, ?_, ?_, Lib.hid ?_, fun w => sub64_r x y b hx hy (by omega) hb0 hb w⟩
  · omega
  · omega
  · split <;> decide
  · split <;> decide
  · split <;> omega
/-- uint64(x) of an int64. -/
theorem u_ex (x : Int) (h1 : -9223372036854775808 ≤ x) (h2 : x ≤ 9223372036854775807) : ∃ u n : Int, 0 ≤ u ∧ u ≤ 18446744073709551615 ∧ Hid (u = x + n * 18446744073709551616 ∧ 0 ≤ n ∧ n ≤ 1 ∧ (n = 1 ↔ x < 0)) ∧ IntKind.u64.wrap x = u := by
  by_cases h : x < 0
  · exact ⟨x + 18446744073709551616, 1, by omega, by omega, Lib.hid (by omega), by rw [IntKind.wrap_u64]; omega⟩
  · exact ⟨x, 0, by omega, by omega, Lib.hid (by omega), by rw [IntKind.wrap_u64]; omega⟩
/-- int64(x) of a uint64. -/
theorem i_ex (x : Int) (h1 : 0 ≤ x) (h2 : x ≤ 18446744073709551615) : ∃ z n : Int, -9223372036854775808 ≤ z ∧ z ≤ 9223372036854775807 ∧ Hid (z = x - n * 18446744073709551616 ∧ 0 ≤ n ∧ n ≤ 1 ∧ (n = 1 ↔ z < 0)) ∧ wrap64 x = z := by
  by_cases h : x < 9223372036854775808
  · exact ⟨x, 0, by omega, by omega, Lib.hid (by omega), by unfold wrap64; omega⟩
  · exact ⟨x - 18446744073709551616, 1, by omega, by omega, Lib.hid (by omega), by unfold wrap64; omega⟩

theorem ret_two {h l h' l' : Int} {k : IntKind} {b b' : Bool} (e1 : h = h') (e2 : l = l') (e3 : b = b') :
    Ending.returned (.tuple #[.agg #[.int k h, .int .u64 l], .bool b]) = .returned (.tuple #[.agg #[.int k h', .int .u64 l'], .bool b']) := by rw [e1, e2, e3]

theorem ret_w {h l h' l' : Int} {b b' : Bool} (e : h = h' ∧ l = l' ∧ b = b') :
    Ending.returned (.tuple #[.agg #[.int .i64 h, .int .u64 l], .bool b]) = .returned (.tuple #[.agg #[.int .i64 h', .int .u64 l'], .bool b']) := by rw [e.1, e.2.1, e.2.2]

set_option maxHeartbeats 1000000 in
theorem join_c (h l s : Int) (n : Bool) (w : World) (H : Wi.Sz h l s) : Calls Try.prog 26 #[.agg #[.int .u64 h, .int .u64 l], .bool n] w fun e w' =>
    e = .returned (.tuple #[.agg #[.int .i64 (Wi.Hq (Wi.rv (Wi.sg s n))), .int .u64 (Wi.Lr (Wi.rv (Wi.sg s n)))], .bool (Wi.okb (Wi.sg s n))]) ∧ Below w.heap.size w w' := by
  obtain ⟨h1, h2, h3, h4, hv⟩ := H.bd
  have HV := Lib.hid hv
  clear hv
  cases n with
  | false =>
    by_cases hs : 9223372036854775808 ≤ h
    · go_enter Try.func26, Try.ntmps26
      go_wp2_with fail
      go_returns
      have e := HV.out
      exact ⟨ret_w (Wi.w_no (by rw [Wi.sg_f]; omega)), by go_grown⟩
    · go_enter Try.func26, Try.ntmps26
      go_wp2_with fail
      go_returns
      have e := HV.out
      exact ⟨ret_w (Wi.w_yes (by omega) (by omega) h3 h4 (by rw [Wi.sg_f]; omega)), by go_grown⟩
  | true =>
    by_cases hs : 9223372036854775808 < h
    · go_enter Try.func26, Try.ntmps26
      go_wp2_with fail
      go_returns
      have e := HV.out
      exact ⟨ret_w (Wi.w_no (by rw [Wi.sg_t]; omega)), by go_grown⟩
    obtain ⟨r, k, s1, s2, k1, k2, hs1, q1⟩ := sub_ex 0 l 0 (by omega) (by omega) h3 h4 (by omega) (by omega)
    obtain ⟨t, m, t1, t2, m1, m2, ht1, q2⟩ := sub_ex 0 h k (by omega) (by omega) h1 h2 k1 k2
    obtain ⟨z, n, z1, z2, hz, ez⟩ := i_ex t t1 t2
    by_cases hs2 : h = 9223372036854775808
    · subst hs2
      by_cases hl : 0 < l
      · go_enter Try.func26, Try.ntmps26
        go_wp2_with fail
        go_returns
        have e := HV.out
        exact ⟨ret_w (Wi.w_no (by rw [Wi.sg_t]; omega)), by go_grown⟩
      · go_enter Try.func26, Try.ntmps26
        go_wp2_with (first | simp only [q1] | simp only [q2])
        go_returns
        have e := HV.out
        have e1 := hs1.out
        have e2 := ht1.out
        have e3 := hz.out
        exact ⟨ret_w (Wi.w_yes z1 z2 s1 s2 (by rw [Wi.sg_t]; omega)), by go_grown⟩
    · have hb : (h == 9223372036854775808) = false := by simpa using hs2
      go_enter Try.func26, Try.ntmps26
      go_wp2_with (first | simp only [q1] | simp only [q2])
      go_returns
      have e := HV.out
      have e1 := hs1.out
      have e2 := ht1.out
      have e3 := hz.out
      exact ⟨ret_w (Wi.w_yes z1 z2 s1 s2 (by rw [Wi.sg_t]; omega)), by go_grown⟩
end Go.Proofs.Ytgkbjkgafiojjaa
