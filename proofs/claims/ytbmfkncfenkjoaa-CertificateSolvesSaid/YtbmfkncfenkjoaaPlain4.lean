/-
  Plain: routes and potentials out of unique labels.
-/
import Derived.Test.YtbmfkncfenkjoaaPlain2
namespace Go.Proofs.Ytbmfkncfenkjoaa
set_option linter.unusedVariables false
set_option linter.unusedSimpArgs false
namespace Ce
section
variable {n m s : Nat} {E : Tab} {C D C' D' : Nat → Int}
theorem Lab.C_eq (O : Ok n m E) (h : Lab n m E s C D) (h' : Lab n m E s C' D') : ∀ v, v < n → C v = C' v := fun v hv => (h.uniq O h' hv).1
theorem Lab.D_eq (O : Ok n m E) (h : Lab n m E s C D) (h' : Lab n m E s C' D') : ∀ v, v < n → 0 ≤ C v → D v = D' v := fun v hv => (h.uniq O h' hv).2
theorem rt_congr (O : Ok n m E) (h : Lab n m E s C D) (h' : Lab n m E s C' D') {b : Int} (b0 : 0 ≤ b) (b1 : b < n) (hc : 0 ≤ C b.toNat) {j : Nat} (hj : j < (D b.toNat).toNat) : rt m E C D b j = rt m E C' D' b j := by
  have e := h.D_eq O h' b.toNat (by omega) hc
  unfold rt
  rw [← e]
  exact rb_congr O h (h.C_eq O h') (h.D_eq O h') b0 b1 hc _ (by omega)
theorem pot_congr (O : Ok n m E) (h : Lab n m E s C D) (h' : Lab n m E s C' D') {v : Nat} (hv : v < n) : pot n C v = pot n C' v := by
  have e := h.C_eq O h'
  unfold pot
  rw [mst_congr e, e v hv]
end
end Ce
end Go.Proofs.Ytbmfkncfenkjoaa
