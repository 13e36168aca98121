/-
  Plain: the least of four is one of them.
-/
import Derived.Test.YtclohghongpfkaaIPlain3
import Derived.Test.YtclohghongpfkaaW2
namespace Go.Proofs.Ytclohghongpfkaa
set_option linter.unusedVariables false
set_option linter.unusedSimpArgs false
open Go.RowKit


theorem mn4_is (a b c d : Int) : Iv.mn4 a b c d = a ∨ Iv.mn4 a b c d ≠ a ∧ Iv.mn4 a b c d = b ∨ Iv.mn4 a b c d ≠ a ∧ Iv.mn4 a b c d ≠ b ∧ Iv.mn4 a b c d = c ∨ Iv.mn4 a b c d ≠ a ∧ Iv.mn4 a b c d ≠ b ∧ Iv.mn4 a b c d ≠ c ∧ Iv.mn4 a b c d = d := by unfold Iv.mn4; omega
theorem mx4_is (a b c d : Int) : Iv.mx4 a b c d = a ∨ Iv.mx4 a b c d ≠ a ∧ Iv.mx4 a b c d = b ∨ Iv.mx4 a b c d ≠ a ∧ Iv.mx4 a b c d ≠ b ∧ Iv.mx4 a b c d = c ∨ Iv.mx4 a b c d ≠ a ∧ Iv.mx4 a b c d ≠ b ∧ Iv.mx4 a b c d ≠ c ∧ Iv.mx4 a b c d = d := by unfold Iv.mx4; omega
theorem hl_iff (x y : Int) : x = y ↔ Wi.Hq x = Wi.Hq y ∧ Wi.Lr x = Wi.Lr y := by
  constructor
  · rintro rfl; exact ⟨rfl, rfl⟩
  · rintro ⟨a, b⟩
    have p := Wi.HL x
    have q := Wi.HL y
    rw [a, b] at p
    exact p.trans q.symm
theorem rl {i j : Nat} {P : Prop} (q : i = j ∨ P) (h : Nat.beq i j = false := by rfl) : P := q.resolve_left fun e => by subst e; simp at h
/-- Two numbers in two words each are compared as numbers. -/
theorem eqW (x y : Int) (w : World) : (binOp .eql 40 (.agg #[.int .i64 (Wi.Hq x), .int .u64 (Wi.Lr x)]) (.agg #[.int .i64 (Wi.Hq y), .int .u64 (Wi.Lr y)])).run Try.prog w = .ok (.bool (decide (x = y))) w := by
  have e : decide (x = y) = (decide (Wi.Hq x = Wi.Hq y) && decide (Wi.Lr x = Wi.Lr y)) := by
    rw [← Bool.decide_and]; exact decide_eq_decide.2 (hl_iff x y)
  rw [e]
  by_cases h1 : Wi.Hq x = Wi.Hq y <;> by_cases h2 : Wi.Lr x = Wi.Lr y <;> simp [go_sem, h1, h2]
end Go.Proofs.Ytclohghongpfkaa
