/-
  Contracts: the reference's Int, and made.
-/
import Derived.Test.YtgkbjkgafiojjaaI1
import Derived.Test.YtgkbjkgafiojjaaIPlain2
import Derived.Test.YtgkbjkgafiojjaaInv
import Derived.Test.YtgkbjkgafiojjaaRd
import Derived.Test.YtgkbjkgafiojjaaW9
namespace Go.Proofs.Ytgkbjkgafiojjaa
set_option linter.unusedVariables false
set_option linter.unusedSimpArgs false
open Go.RowKit

/-- Rows of two words. -/
def wv (N : Nat → Int) : Nat → Nat → Value := fun i j => if j = 0 then .int .i64 (Wi.Hq (N i)) else .int .u64 (Wi.Lr (N i))
theorem one_wv (N : Nat → Int) : ∀ i j, (wv N i j).oneCell' = true := fun i j => by unfold wv; split <;> rfl
theorem Rd.atW {w : World} {b off n c : Nat} {N : Nat → Int} (h : Rd w 2 (some ⟨b, off, none⟩) n c (wv N)) {k : Nat} (hk : k < n) :
    b < w.heap.size ∧ w.cell? ⟨b, off + k * 2, none⟩ = some (.int .i64 (Wi.Hq (N k))) ∧ w.cell? ⟨b, off + k * 2 + 1, none⟩ = some (.int .u64 (Wi.Lr (N k))) := by
  obtain ⟨b', off', e, hl, hc⟩ := h.at_ (by omega)
  injection e with e
  injection e with e1 e2
  subst e1 e2
  exact ⟨hl, hc k 0 hk (by omega), hc k 1 hk (by omega)⟩

end Go.Proofs.Ytgkbjkgafiojjaa
