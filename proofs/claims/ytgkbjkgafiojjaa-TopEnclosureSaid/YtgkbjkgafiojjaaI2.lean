/-
  Contracts: sums and differences that stay in range.
-/
import Derived.Test.YtgkbjkgafiojjaaIPlain
import Derived.Test.YtgkbjkgafiojjaaW1
namespace Go.Proofs.Ytgkbjkgafiojjaa
set_option linter.unusedVariables false
set_option linter.unusedSimpArgs false
open Go.RowKit

set_option maxHeartbeats 4000000 in
theorem limit_c (n : Bool) (w : World) : Calls Try.prog 21 #[.bool n] w fun e w' => e = .returned (.int .i64 (if n then -9223372036854775808 else 9223372036854775807)) ∧ Below w.heap.size w w' := by
  cases n <;> (go_enter Try.func21, Try.ntmps21; go_wp2_with fail; go_returns; exact ⟨rfl, by go_grown⟩)
set_option maxHeartbeats 4000000 in
theorem fadd_c (a b : Int) (w : World) (a1 : -9223372036854775808 ≤ a) (a2 : a ≤ 9223372036854775807) (b1 : -9223372036854775808 ≤ b) (b2 : b ≤ 9223372036854775807) : Calls Try.prog 12 #[.int .i64 a, .int .i64 b] w fun e w' => e = .returned (.int .i64 (Iv.sat (a + b))) ∧ Below w.heap.size w w' := by
  obtain ⟨s, es, hs⟩ : ∃ s, IntKind.i64.wrap (a + b) = s ∧ Hid (s = a + b ∧ -9223372036854775808 ≤ a + b ∧ a + b ≤ 9223372036854775807 ∨ s = a + b - 18446744073709551616 ∧ 9223372036854775807 < a + b ∨ s = a + b + 18446744073709551616 ∧ a + b < -9223372036854775808) :=
    ⟨_, rfl, Lib.hid (by rw [IntKind.wrap_i64]; omega)⟩
  by_cases qa : a < 0 <;> by_cases qb : b < 0 <;> by_cases qs : s < 0
  · have E := Lib.hid (show Iv.sat (a + b) = s from by have := hs.out; unfold Iv.sat; (split <;> (try split) <;> omega))
    go_enter Try.func12, Try.ntmps12
    go_wp2_with fail
    go_returns
    exact ⟨ret_int E.out.symm, by go_grown⟩
  · have E := Lib.hid (show Iv.sat (a + b) = -9223372036854775808 from by have := hs.out; unfold Iv.sat; (split <;> (try split) <;> omega))
    go_enter Try.func12, Try.ntmps12
    have hB := Below.refl w.heap.size w
    go_wp2_with fail
    refine (limit_c _ _).mono ?_
    rintro e w1 ⟨rfl, hb⟩
    replace hB := bt hB hb
    clear hb
    go_wp2_with fail
    go_returns
    exact ⟨ret_int E.out.symm, hB⟩
  · have E := Lib.hid (show Iv.sat (a + b) = s from by have := hs.out; unfold Iv.sat; (split <;> (try split) <;> omega))
    go_enter Try.func12, Try.ntmps12
    go_wp2_with fail
    go_returns
    exact ⟨ret_int E.out.symm, by go_grown⟩
  · have E := Lib.hid (show Iv.sat (a + b) = s from by have := hs.out; unfold Iv.sat; (split <;> (try split) <;> omega))
    go_enter Try.func12, Try.ntmps12
    go_wp2_with fail
    go_returns
    exact ⟨ret_int E.out.symm, by go_grown⟩
  · have E := Lib.hid (show Iv.sat (a + b) = s from by have := hs.out; unfold Iv.sat; (split <;> (try split) <;> omega))
    go_enter Try.func12, Try.ntmps12
    go_wp2_with fail
    go_returns
    exact ⟨ret_int E.out.symm, by go_grown⟩
  · have E := Lib.hid (show Iv.sat (a + b) = s from by have := hs.out; unfold Iv.sat; (split <;> (try split) <;> omega))
    go_enter Try.func12, Try.ntmps12
    go_wp2_with fail
    go_returns
    exact ⟨ret_int E.out.symm, by go_grown⟩
  · have E := Lib.hid (show Iv.sat (a + b) = 9223372036854775807 from by have := hs.out; unfold Iv.sat; (split <;> (try split) <;> omega))
    go_enter Try.func12, Try.ntmps12
    have hB := Below.refl w.heap.size w
    go_wp2_with fail
    refine (limit_c _ _).mono ?_
    rintro e w1 ⟨rfl, hb⟩
    replace hB := bt hB hb
    clear hb
    go_wp2_with fail
    go_returns
    exact ⟨ret_int E.out.symm, hB⟩
  · have E := Lib.hid (show Iv.sat (a + b) = s from by have := hs.out; unfold Iv.sat; (split <;> (try split) <;> omega))
    go_enter Try.func12, Try.ntmps12
    go_wp2_with fail
    go_returns
    exact ⟨ret_int E.out.symm, by go_grown⟩
set_option maxHeartbeats 4000000 in
theorem fsub_c (a b : Int) (w : World) (a1 : -9223372036854775808 ≤ a) (a2 : a ≤ 9223372036854775807) (b1 : -9223372036854775808 ≤ b) (b2 : b ≤ 9223372036854775807) : Calls Try.prog 22 #[.int .i64 a, .int .i64 b] w fun e w' => e = .returned (.int .i64 (Iv.sat (a - b))) ∧ Below w.heap.size w w' := by
  obtain ⟨s, es, hs⟩ : ∃ s, IntKind.i64.wrap (a - b) = s ∧ Hid (s = a - b ∧ -9223372036854775808 ≤ a - b ∧ a - b ≤ 9223372036854775807 ∨ s = a - b - 18446744073709551616 ∧ 9223372036854775807 < a - b ∨ s = a - b + 18446744073709551616 ∧ a - b < -9223372036854775808) :=
    ⟨_, rfl, Lib.hid (by rw [IntKind.wrap_i64]; omega)⟩
  by_cases qa : a < 0 <;> by_cases qb : b < 0 <;> by_cases qs : s < 0
  · have E := Lib.hid (show Iv.sat (a - b) = s from by have := hs.out; unfold Iv.sat; (split <;> (try split) <;> omega))
    go_enter Try.func22, Try.ntmps22
    go_wp2_with fail
    go_returns
    exact ⟨ret_int E.out.symm, by go_grown⟩
  · have E := Lib.hid (show Iv.sat (a - b) = s from by have := hs.out; unfold Iv.sat; (split <;> (try split) <;> omega))
    go_enter Try.func22, Try.ntmps22
    go_wp2_with fail
    go_returns
    exact ⟨ret_int E.out.symm, by go_grown⟩
  · have E := Lib.hid (show Iv.sat (a - b) = s from by have := hs.out; unfold Iv.sat; (split <;> (try split) <;> omega))
    go_enter Try.func22, Try.ntmps22
    go_wp2_with fail
    go_returns
    exact ⟨ret_int E.out.symm, by go_grown⟩
  · have E := Lib.hid (show Iv.sat (a - b) = -9223372036854775808 from by have := hs.out; unfold Iv.sat; (split <;> (try split) <;> omega))
    go_enter Try.func22, Try.ntmps22
    have hB := Below.refl w.heap.size w
    go_wp2_with fail
    refine (limit_c _ _).mono ?_
    rintro e w1 ⟨rfl, hb⟩
    replace hB := bt hB hb
    clear hb
    go_wp2_with fail
    go_returns
    exact ⟨ret_int E.out.symm, hB⟩
  · have E := Lib.hid (show Iv.sat (a - b) = 9223372036854775807 from by have := hs.out; unfold Iv.sat; (split <;> (try split) <;> omega))
    go_enter Try.func22, Try.ntmps22
    have hB := Below.refl w.heap.size w
    go_wp2_with fail
    refine (limit_c _ _).mono ?_
    rintro e w1 ⟨rfl, hb⟩
    replace hB := bt hB hb
    clear hb
    go_wp2_with fail
    go_returns
    exact ⟨ret_int E.out.symm, hB⟩
  · have E := Lib.hid (show Iv.sat (a - b) = s from by have := hs.out; unfold Iv.sat; (split <;> (try split) <;> omega))
    go_enter Try.func22, Try.ntmps22
    go_wp2_with fail
    go_returns
    exact ⟨ret_int E.out.symm, by go_grown⟩
  · have E := Lib.hid (show Iv.sat (a - b) = s from by have := hs.out; unfold Iv.sat; (split <;> (try split) <;> omega))
    go_enter Try.func22, Try.ntmps22
    go_wp2_with fail
    go_returns
    exact ⟨ret_int E.out.symm, by go_grown⟩
  · have E := Lib.hid (show Iv.sat (a - b) = s from by have := hs.out; unfold Iv.sat; (split <;> (try split) <;> omega))
    go_enter Try.func22, Try.ntmps22
    go_wp2_with fail
    go_returns
    exact ⟨ret_int E.out.symm, by go_grown⟩
end Go.Proofs.Ytgkbjkgafiojjaa
