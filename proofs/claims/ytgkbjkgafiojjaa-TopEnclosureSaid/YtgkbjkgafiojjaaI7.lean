/-
  Contracts: the reference's exact, sums.
-/
import Derived.Test.YtgkbjkgafiojjaaI6
import Derived.Test.YtgkbjkgafiojjaaI4
import Derived.Test.YtgkbjkgafiojjaaIPlain2
import Derived.Test.YtgkbjkgafiojjaaW8
namespace Go.Proofs.Ytgkbjkgafiojjaa
set_option linter.unusedVariables false
set_option linter.unusedSimpArgs false
open Go.RowKit

def two (a b : Int) : Nat → Int := fun i => if i = 0 then a else b
def four (a b c d : Int) : Nat → Int := fun i => if i = 0 then a else if i = 1 then b else if i = 2 then c else d
theorem rd2W {w : World} {g : Nat} {t : TypeId} {a b : Int} (h : Blk w g t #[.int .i64 (Wi.Hq a), .int .u64 (Wi.Lr a), .int .i64 (Wi.Hq b), .int .u64 (Wi.Lr b)]) : Rd w 2 (some ⟨g, 0, none⟩) 2 2 (wv (two a b)) :=
  Rd.of_blk h (by decide) (by decide) fun i j hi hj => by
    match i, j, hi, hj with
    | 0, 0, _, _ => rfl
    | 0, 1, _, _ => rfl
    | 1, 0, _, _ => rfl
    | 1, 1, _, _ => rfl
theorem rd4W {w : World} {g : Nat} {t : TypeId} {a b c d : Int} (h : Blk w g t #[.int .i64 (Wi.Hq a), .int .u64 (Wi.Lr a), .int .i64 (Wi.Hq b), .int .u64 (Wi.Lr b), .int .i64 (Wi.Hq c), .int .u64 (Wi.Lr c), .int .i64 (Wi.Hq d), .int .u64 (Wi.Lr d)]) : Rd w 2 (some ⟨g, 0, none⟩) 4 4 (wv (four a b c d)) :=
  Rd.of_blk h (by decide) (by decide) fun i j hi hj => by
    match i, j, hi, hj with
    | 0, 0, _, _ => rfl
    | 0, 1, _, _ => rfl
    | 1, 0, _, _ => rfl
    | 1, 1, _, _ => rfl
    | 2, 0, _, _ => rfl
    | 2, 1, _, _ => rfl
    | 3, 0, _, _ => rfl
    | 3, 1, _, _ => rfl
theorem mn_two (a b : Int) : Iv.mnU (two a b) 2 = min a b := by simp [Iv.mnU, two]; (repeat' split) <;> omega
theorem mx_two (a b : Int) : Iv.mxU (two a b) 2 = max a b := by simp [Iv.mxU, two]; (repeat' split) <;> omega
theorem mn_four (a b c d : Int) : Iv.mnU (four a b c d) 4 = Iv.mn4 a b c d := by simp [Iv.mnU, four, Iv.mn4]; (repeat' split) <;> omega
theorem mx_four (a b c d : Int) : Iv.mxU (four a b c d) 4 = Iv.mx4 a b c d := by simp [Iv.mxU, four, Iv.mx4]; (repeat' split) <;> omega
theorem two_W {a b : Int} (h : Wi.inW a) (h2 : Wi.inW b) : ∀ i, i < 2 → Wi.inW (two a b i) := fun i _ => by unfold two; split <;> assumption
theorem four_W {a b c d : Int} (h : Wi.inW a) (h2 : Wi.inW b) (h3 : Wi.inW c) (h4 : Wi.inW d) : ∀ i, i < 4 → Wi.inW (four a b c d i) := fun i _ => by unfold four; (repeat' split) <;> assumption
theorem rs_two {a b : Int} (h : a ≤ b) : Iv.rs (Iv.mnU (two a b) 2) (Iv.mxU (two a b) 2) = Iv.rs a b := by rw [mn_two, mx_two, show min a b = a from by omega, show max a b = b from by omega]

end Go.Proofs.Ytgkbjkgafiojjaa
