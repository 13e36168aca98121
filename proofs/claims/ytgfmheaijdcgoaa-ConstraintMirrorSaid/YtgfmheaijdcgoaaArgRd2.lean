/-
  How long a slice that came in can be.
-/
import Derived.Test.YtgfmheaijdcgoaaArgRd
import Derived.SizedLaws
import Derived.Deep.Slices
namespace Go.Proofs.Ytgfmheaijdcgoaa
set_option linter.unusedVariables false
set_option linter.unusedSimpArgs false
open Go.ChangeShapes Go.WideShapes Go.ChangeAt Go.RowKit Go.Deep
section
variable {H : Type} {enc : TypeId × Value → H} {P : Program} {w : World} {base : Nat} {held : Bool}
theorem rows_cap {t e : TypeId} {A : Option Addr} {n c : Nat} {d : DataW H} {p : List MemPlace} (ht : P.underlying t = some (.slice e)) (h : DataW.Trod enc P w base (fun _ => true) held t (.slice A n c) d p) :
    c = 0 ∨ ∃ elems spare, d = .slice elems spare ∧ elems.length + spare.length = c := by
  obtain ⟨fuel, hf⟩ := h
  rcases open_slice ht hf with ⟨hcs, _⟩ | ⟨a, len, cap, m, n', D, Pl, hcs, hb, hl, hm, hmm, hx, hi⟩
  · simp [Value.cells] at hcs
    exact .inl hcs.2.2
  · simp [Value.cells] at hcs
    obtain ⟨rfl, rfl, rfl⟩ := hcs
    right
    simp only [Prod.mk.injEq] at hx
    refine ⟨_, _, hx.1, ?_⟩
    simp at hmm
    simp
    omega
theorem cap_le {ts : List TypeId} {ds : List (DataW H)} (hsz : (DataW.weightsEach P ts ds).all (· ≤ reachBytes) = true) {j : Nat} {t e : TypeId} {A : Option Addr} {n c : Nat} {d : DataW H} {p : List MemPlace} (ht : P.underlying t = some (.slice e))
    (h : DataW.Trod enc P w base (fun _ => true) held t (.slice A n c) d p) (h1 : ts[j]? = some t) (h2 : ds[j]? = some d) {B : Nat} (hB : P.bytesOf e = B) : c * B ≤ 140737488351232 := by
  rcases rows_cap ht h with h0 | ⟨el, sp, rfl, hl⟩
  · subst h0; omega
  · have := sized_slice hsz h1 h2 ht
    rw [hl, hB] at this
    simpa [reachBytes] using this
end
end Go.Proofs.Ytgfmheaijdcgoaa
