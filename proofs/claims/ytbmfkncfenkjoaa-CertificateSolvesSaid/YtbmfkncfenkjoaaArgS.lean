/-
  Arguments that are structs of integers, structs and slices of plain elements.
-/
import Derived.Test.YtbmfkncfenkjoaaArg
import Derived.Test.YtbmfkncfenkjoaaRd
namespace Go.Proofs.Ytbmfkncfenkjoaa
set_option linter.unusedVariables false
set_option linter.unusedSimpArgs false
open Go.ChangeShapes Go.WideShapes Go.ChangeAt Go.RowKit Go.Deep

/-- The cells of a type: an integer of a kind, or a slice whose elements are integers of these kinds. -/
inductive Sort1 where
  | num (k : IntKind)
  | row (ks : List IntKind)
def mixFields (r : TypeId → Option (List Sort1)) (P : Program) : Nat → List Field → Option (List Sort1)
  | _, [] => some []
  | o, f :: fs => match r f.type, mixFields r P (o + P.cellsOf f.type) fs with
    | some a, some b => if f.offset = o ∧ P.cellsOf f.type = a.length then some (a ++ b) else none
    | _, _ => none
def mix (P : Program) : Nat → TypeId → Option (List Sort1)
  | 0, _ => none
  | n + 1, t => match P.underlying t with
    | some (.int k) => some [.num k]
    | some (.slice e) => match flat P n e with
      | some ks => if P.cellsOf e = ks.length then some [.row ks] else none
      | none => none
    | some (.struct fs) => match mixFields (mix P n) P 0 fs.toList with
      | some ks => if P.cellsOf t = ks.length then some ks else none
      | none => none
    | _ => none
def RowOf (w : World) (ks : List IntKind) (v : Value) : Prop :=
  v = .slice none 0 0 ∨ ∃ (a : Addr) (len cap : Nat) (el : Nat → List Value), v = .slice (some a) len cap ∧ len ≤ cap ∧ cap ≤ maxLen ∧
    ∀ i, i < len → Ints ks (el i) ∧ ∀ j, j < ks.length → w.cell? (a.add (i * ks.length + j)) = (el i)[j]?
def Mix (w : World) : List Sort1 → List Value → Prop
  | [], [] => True
  | .num k :: ks, v :: vs => (∃ n : Int, v = .int k n ∧ (Lit.int k n).wf = true) ∧ Mix w ks vs
  | .row ls :: ks, v :: vs => RowOf w ls v ∧ Mix w ks vs
  | _, _ => False
theorem Mix.append {w : World} : ∀ {a b : List Sort1} {x y : List Value}, Mix w a x → Mix w b y → Mix w (a ++ b) (x ++ y)
  | [], _, [], _, _, h => h
  | .num _ :: _, _, _ :: _, _, ⟨h1, h2⟩, h => ⟨h1, Mix.append h2 h⟩
  | .row _ :: _, _, _ :: _, _, ⟨h1, h2⟩, h => ⟨h1, Mix.append h2 h⟩
section
variable {H : Type} {enc : TypeId × Value → H} {P : Program} {w : World} {base : Nat} {spare : Nat → Bool} {held : Bool}
theorem fields_mix {r : TypeId → Option (List Sort1)} {m : Nat} {cs : List Value} {xs : List (DataW H × List MemPlace)}
    (hr : ∀ t ks cs' x, r t = some ks → DataW.trod enc P w base spare held m t cs' = some x → Mix w ks cs') :
    ∀ (fs : List Field) (o i0 : Nat) (ks : List Sort1), mixFields r P o fs = some ks → cs.length = o + ks.length → xs.length = i0 + fs.length →
      (∀ j f, fs[j]? = some f → DataW.trod enc P w base spare held m f.type ((cs.drop f.offset).take (P.cellsOf f.type)) = xs[i0 + j]?) → Mix w ks (cs.drop o) := by
  intro fs
  induction fs with
  | nil =>
    intro o i0 ks h hc _ _
    simp only [mixFields, Option.some.injEq] at h
    subst h
    have : cs.drop o = [] := List.drop_eq_nil_of_le (by simpa using Nat.le_of_eq hc)
    rw [this]; exact trivial
  | cons f fs ih =>
    intro o i0 ks h hc hx hf
    simp only [mixFields] at h
    split at h
    · rename_i a b ha hb
      split at h
      · rename_i hcond
        obtain ⟨ho, hl⟩ := hcond
        simp only [Option.some.injEq] at h
        subst h
        have hlen : xs.length = i0 + (fs.length + 1) := by simpa using hx
        have h0 := hf 0 f rfl
        have hget : xs[i0 + 0]? = some (xs[i0]'(by omega)) := by simp [List.getElem?_eq_getElem (show i0 < xs.length by omega)]
        rw [hget, ho, hl] at h0
        have hA := hr _ _ _ _ ha h0
        rw [hl] at hb
        have hB := ih (o + a.length) (i0 + 1) b hb (by rw [hc, List.length_append]; omega) (by omega) (fun j g hg => by
          have := hf (j + 1) g (by simpa using hg)
          rw [this]; congr 1; omega)
        have e : cs.drop o = (cs.drop o).take a.length ++ cs.drop (o + a.length) := by
          rw [← List.drop_drop]; exact (List.take_append_drop _ _).symm
        rw [e]
        exact hA.append hB
      · cases h
    · cases h
theorem trod_row {t e : TypeId} {ks : List IntKind} {n fuel : Nat} {cs : List Value} {x : DataW H × List MemPlace} (ht : P.underlying t = some (.slice e)) (hk : flat P n e = some ks) (hC : P.cellsOf e = ks.length)
    (hf : DataW.trod enc P w base spare held fuel t cs = some x) : ∃ v, cs = [v] ∧ RowOf w ks v := by
  rcases open_slice ht hf with ⟨hcs, _⟩ | ⟨a, l0, c0, m, n', D, Pl, hcs, hb, hl, hm, hmm, hx, hi⟩
  · exact ⟨_, hcs, .inl rfl⟩
  · refine ⟨_, hcs, .inr ?_⟩
    have hlm : l0 ≤ m := by rw [hmm]; split <;> omega
    have hex : ∀ i, ∃ cs' : List Value, i < l0 → Ints ks cs' ∧ ∀ j, j < ks.length → w.cell? (a.add (i * ks.length + j)) = cs'[j]? := by
      intro i
      by_cases hil : i < l0
      · obtain ⟨cs', hc, ht'⟩ := hi i (by omega)
        refine ⟨cs', fun _ => ⟨trod_flat n e ks n' cs' _ hk ht', fun j hj => ?_⟩⟩
        obtain ⟨_, _, hat⟩ := World.cells?_some hc
        have := hat j (by rw [hC]; exact hj)
        rw [Go.Deep.add_add, hC] at this
        exact this
      · exact ⟨[], fun h => absurd h hil⟩
    exact ⟨a, l0, c0, fun i => Classical.choose (hex i), rfl, hl, hm, fun i hil => Classical.choose_spec (hex i) hil⟩
theorem trod_mix : ∀ (n : Nat) (t : TypeId) (ks : List Sort1) (fuel : Nat) (cs : List Value) (x : DataW H × List MemPlace), mix P n t = some ks → DataW.trod enc P w base spare held fuel t cs = some x → Mix w ks cs := by
  intro n
  induction n with
  | zero => intro t ks fuel cs x h; simp [mix] at h
  | succ n ih =>
    intro t ks fuel cs x h hf
    simp only [mix] at h
    split at h
    · rename_i k hu
      simp only [Option.some.injEq] at h
      subst h
      obtain ⟨a, rfl, _, hw⟩ := DataW.trod_int hu hf
      exact ⟨⟨a, rfl, hw⟩, trivial⟩
    · rename_i e hu
      split at h
      · rename_i ls hk
        split at h
        · rename_i hc
          simp only [Option.some.injEq] at h
          subst h
          obtain ⟨v, rfl, hv⟩ := trod_row hu hk hc hf
          exact ⟨hv, trivial⟩
        · cases h
      · cases h
    · rename_i fs hu
      split at h
      · rename_i ks' hk
        split at h
        · rename_i hc
          simp only [Option.some.injEq] at h
          subst h
          obtain ⟨xs, m, _, _, hl, hlen, hg⟩ := DataW.trod_struct hu hf
          have := fields_mix (cs := cs) (xs := xs) (m := m) (fun t ks cs' x a b => ih t ks m cs' x a b) fs.toList 0 0 ks' hk (by rw [hl, hc]; simp) (by rw [hlen]; simp) (fun j f hj => by
            rw [Nat.zero_add]; exact hg j f (by simpa using hj))
          simpa using this
        · cases h
      · cases h
    · cases h
/-- A struct by value. -/
theorem open_mix {r : Reach} {b0 : Nat} {t : TypeId} {n : Nat} {ks : List Sort1} {v : Value} {d : DataW H} {p : List MemPlace} (hk : mix P n t = some ks)
    (hs : (match P.underlying t with | some (.struct _) | some (.array _ _) => true | _ => false) = true) (hv : Value.okWide P w r b0 t v) (h : DataW.Trod enc P w base spare held t v d p) :
    ∃ cs : List Value, v = .agg cs.toArray ∧ Mix w ks cs := by
  have ⟨cs, hcs⟩ : ∃ cs : Array Value, v = .agg cs := by
    unfold Value.okWide at hv
    split at hv
    · obtain ⟨cs, rfl, _⟩ := hv; exact ⟨cs, rfl⟩
    · obtain ⟨cs, rfl, _⟩ := hv; exact ⟨cs, rfl⟩
    · rename_i h1 h2
      split at hs
      · rename_i fs hu; exact absurd hu (h1 fs)
      · rename_i m e hu; exact absurd hu (h2 m e)
      · cases hs
  subst hcs
  obtain ⟨fuel, hf⟩ := h
  refine ⟨cs.toList, by simp, ?_⟩
  exact trod_mix n t ks fuel _ _ hk (by simpa [Value.cells] using hf)
end
theorem mix_num {w : World} {k : IntKind} {ks : List Sort1} {cs : List Value} (h : Mix w (.num k :: ks) cs) : ∃ (a : Int) (cs' : List Value), cs = .int k a :: cs' ∧ (Lit.int k a).wf = true ∧ Mix w ks cs' := by
  cases cs with
  | nil => exact h.elim
  | cons c cs => obtain ⟨⟨a, rfl, hw⟩, h2⟩ := h; exact ⟨a, cs, rfl, hw, h2⟩
theorem mix_nil {w : World} {cs : List Value} (h : Mix w [] cs) : cs = [] := by
  cases cs with
  | nil => rfl
  | cons c cs => exact h.elim
/-- A slice among the cells, as a table of numbers. -/
theorem mix_row {w : World} {k0 : IntKind} {ls : List IntKind} {ks : List Sort1} {cs : List Value} (h : Mix w (.row (k0 :: ls) :: ks) cs) :
    ∃ (A : Option Addr) (len cap : Nat) (N : Nat → Nat → Int) (cs' : List Value), cs = .slice A len cap :: cs' ∧ len ≤ cap ∧ cap ≤ maxLen ∧ (∀ i j k, i < len → (k0 :: ls)[j]? = some k → (Lit.int k (N i j)).wf = true) ∧
      (0 < len → ∃ b off : Nat, A = some ⟨b, off, none⟩ ∧ b < w.heap.size ∧ ∀ i j k, i < len → (k0 :: ls)[j]? = some k → w.cell? ⟨b, off + (i * (ls.length + 1) + j), none⟩ = some (.int k (N i j))) ∧ Mix w ks cs' := by
  cases cs with
  | nil => exact h.elim
  | cons c cs =>
    obtain ⟨h1, h2⟩ := h
    rcases h1 with rfl | ⟨a, len, cap, el, rfl, hl, hc, hel⟩
    · exact ⟨none, 0, 0, fun _ _ => 0, cs, rfl, Nat.le_refl _, by unfold maxLen; omega, fun i j k hi => absurd hi (by omega), fun h => absurd h (by omega), h2⟩
    · refine ⟨some a, len, cap, fun i j => numOf (el i)[j]?, cs, rfl, hl, hc, fun i j k hi hj => ?_, fun hpos => ?_, h2⟩
      · obtain ⟨x, h1, h2⟩ := (hel i hi).1.get hj
        show (Lit.int k (numOf (el i)[j]?)).wf = true
        rw [h1]; exact h2
      · obtain ⟨x0, g1, _⟩ := (hel 0 hpos).1.get (j := 0) (k := k0) rfl
        have g0 := (hel 0 hpos).2 0 (by simp)
        obtain ⟨b, off, spot⟩ := a
        have hspot : spot = none := by simpa [Addr.add] using World.cell?_spot (g0.trans g1)
        subst hspot
        refine ⟨b, off, rfl, World.block_lt_of_cell? w _ (by simpa [Addr.add] using g0.trans g1), fun i j k hi hj => ?_⟩
        obtain ⟨x, h1, h2⟩ := (hel i hi).1.get hj
        have hjl : j < (k0 :: ls).length := (List.getElem?_eq_some_iff.1 hj).1
        have := (hel i hi).2 j hjl
        rw [Go.WideShapes.add_plain, h1] at this
        show w.cell? ⟨b, off + (i * (ls.length + 1) + j), none⟩ = some (.int k (numOf (el i)[j]?))
        rw [h1]
        have q : w.cell? ⟨b, off + (i * (ls.length + 1) + j), none⟩ = some (.int k x) := by simpa using this
        exact q
end Go.Proofs.Ytbmfkncfenkjoaa
