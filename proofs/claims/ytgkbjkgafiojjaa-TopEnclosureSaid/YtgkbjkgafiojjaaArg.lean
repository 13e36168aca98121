/-
  Arguments of plain types (structs and arrays of integers, whatever the nesting): their values as lists of integers; slices of them.
-/
import Derived.Test.YtgkbjkgafiojjaaChecked
import Derived.WalkKit
import Derived.ProofKit
import Derived.OpenShut
import Derived.Deep.Slices
import Derived.Lib.SmallJoins
namespace Go.Proofs.Ytgkbjkgafiojjaa
set_option linter.unusedVariables false
set_option linter.unusedSimpArgs false
open Go.ChangeShapes Go.WideShapes Go.ChangeAt Go.RowKit Go.Deep

/-- The integer kinds of the cells of a plain type. -/
def flatFields (r : TypeId → Option (List IntKind)) (P : Program) : Nat → List Field → Option (List IntKind)
  | _, [] => some []
  | o, f :: fs => match r f.type, flatFields r P (o + P.cellsOf f.type) fs with
    | some a, some b => if f.offset = o ∧ P.cellsOf f.type = a.length then some (a ++ b) else none
    | _, _ => none
def flat (P : Program) : Nat → TypeId → Option (List IntKind)
  | 0, _ => none
  | n + 1, t => match P.underlying t with
    | some (.int k) => some [k]
    | some (.struct fs) => match flatFields (flat P n) P 0 fs.toList with
      | some ks => if P.cellsOf t = ks.length then some ks else none
      | none => none
    | some (.array m e) => match flat P n e with
      | some ks => if P.cellsOf e = ks.length ∧ P.cellsOf t = m * ks.length then some (List.replicate m ks).flatten else none
      | none => none
    | _ => none

/-- The values are integers of these kinds. -/
def Ints : List IntKind → List Value → Prop
  | [], [] => True
  | k :: ks, v :: vs => (∃ n : Int, v = .int k n ∧ (Lit.int k n).wf = true) ∧ Ints ks vs
  | _, _ => False
theorem Ints.append : ∀ {a b : List IntKind} {x y : List Value}, Ints a x → Ints b y → Ints (a ++ b) (x ++ y)
  | [], _, [], _, _, h => h
  | _ :: _, _, _ :: _, _, ⟨h1, h2⟩, h => ⟨h1, Ints.append h2 h⟩

section
variable {H : Type} {enc : TypeId × Value → H} {P : Program} {w : World} {base : Nat} {spare : Nat → Bool} {held : Bool}

theorem fields_flat {r : TypeId → Option (List IntKind)} {m : Nat} {cs : List Value} {xs : List (DataW H × List MemPlace)}
    (hr : ∀ t ks cs' x, r t = some ks → DataW.trod enc P w base spare held m t cs' = some x → Ints ks cs') :
    ∀ (fs : List Field) (o i0 : Nat) (ks : List IntKind), flatFields r P o fs = some ks → cs.length = o + ks.length → xs.length = i0 + fs.length →
      (∀ j f, fs[j]? = some f → DataW.trod enc P w base spare held m f.type ((cs.drop f.offset).take (P.cellsOf f.type)) = xs[i0 + j]?) → Ints ks (cs.drop o) := by
  intro fs
  induction fs with
  | nil =>
    intro o i0 ks h hc _ _
    simp only [flatFields, Option.some.injEq] at h
    subst h
    have : cs.drop o = [] := List.drop_eq_nil_of_le (by simpa using Nat.le_of_eq hc)
    rw [this]; exact trivial
  | cons f fs ih =>
    intro o i0 ks h hc hx hf
    simp only [flatFields] at h
    split at h
    · rename_i a b ha hb
      split at h
      · rename_i hcond
        obtain ⟨ho, hl⟩ := hcond
        simp only [Option.some.injEq] at h
        subst h
        have hlen : xs.length = i0 + (fs.length + 1) := by simpa using hx
        have h0 := hf 0 f rfl
        have hget : xs[i0 + 0]? = some (xs[i0]'(by omega)) := by simp [List.getElem?_eq_getElem (show i0 < xs.length by omega)]
        rw [hget, ho, hl] at h0
        have hA := hr _ _ _ _ ha h0
        rw [hl] at hb
        have hB := ih (o + a.length) (i0 + 1) b hb (by rw [hc, List.length_append]; omega) (by omega) (fun j g hg => by
          have := hf (j + 1) g (by simpa using hg)
          rw [this]; congr 1; omega)
        have e : cs.drop o = (cs.drop o).take a.length ++ cs.drop (o + a.length) := by
          rw [← List.drop_drop]; exact (List.take_append_drop _ _).symm
        rw [e]
        exact hA.append hB
      · cases h
    · cases h

theorem array_flat {m M e : Nat} {cs : List Value} {xs : List (DataW H × List MemPlace)} {ks : List IntKind}
    (hr : ∀ cs' x, DataW.trod enc P w base spare held M e cs' = some x → Ints ks cs') (hk : P.cellsOf e = ks.length) :
    ∀ (n i0 : Nat), i0 + n = m → cs.length = m * ks.length → xs.length = m → (∀ i, i < m → DataW.trod enc P w base spare held M e ((cs.drop (i * P.cellsOf e)).take (P.cellsOf e)) = xs[i]?) →
      Ints (List.replicate n ks).flatten (cs.drop (i0 * ks.length)) := by
  intro n
  induction n with
  | zero =>
    intro i0 hi hc _ _
    have : cs.drop (i0 * ks.length) = [] := List.drop_eq_nil_of_le (by rw [hc]; simp at hi; rw [hi]; exact Nat.le_refl _)
    rw [this]; exact trivial
  | succ n ih =>
    intro i0 hi hc hx hf
    have h0 := hf i0 (by omega)
    rw [List.getElem?_eq_getElem (by omega), hk] at h0
    have hA := hr _ _ h0
    have hB := ih (i0 + 1) (by omega) hc hx hf
    have e : cs.drop (i0 * ks.length) = (cs.drop (i0 * ks.length)).take ks.length ++ cs.drop ((i0 + 1) * ks.length) := by
      rw [Nat.add_mul, Nat.one_mul, ← List.drop_drop]; exact (List.take_append_drop _ _).symm
    rw [e, List.replicate_succ, List.flatten_cons]
    exact hA.append hB

theorem trod_flat : ∀ (n : Nat) (t : TypeId) (ks : List IntKind) (fuel : Nat) (cs : List Value) (x : DataW H × List MemPlace), flat P n t = some ks → DataW.trod enc P w base spare held fuel t cs = some x → Ints ks cs := by
  intro n
  induction n with
  | zero => intro t ks fuel cs x h; simp [flat] at h
  | succ n ih =>
    intro t ks fuel cs x h hf
    simp only [flat] at h
    split at h
    · rename_i k hu
      simp only [Option.some.injEq] at h
      subst h
      obtain ⟨a, rfl, _, hw⟩ := DataW.trod_int hu hf
      exact ⟨⟨a, rfl, hw⟩, trivial⟩
    · rename_i fs hu
      split at h
      · rename_i ks' hk
        split at h
        · rename_i hc
          simp only [Option.some.injEq] at h
          subst h
          obtain ⟨xs, m, _, _, hl, hlen, hg⟩ := DataW.trod_struct hu hf
          have := fields_flat (cs := cs) (xs := xs) (m := m) (fun t ks cs' x a b => ih t ks m cs' x a b) fs.toList 0 0 ks' hk (by rw [hl, hc]; simp) (by rw [hlen]; simp) (fun j f hj => by
            rw [Nat.zero_add]; exact hg j f (by simpa using hj))
          simpa using this
        · cases h
      · cases h
    · rename_i m e hu
      split at h
      · rename_i ks' hk
        split at h
        · rename_i hc
          simp only [Option.some.injEq] at h
          subst h
          obtain ⟨xs, M, _, _, hl, hlen, hg⟩ := DataW.trod_array hu hf
          have := array_flat (m := m) (M := M) (e := e) (cs := cs) (xs := xs) (ks := ks') (fun cs' x b => ih e ks' M cs' x hk b) hc.1 m 0 (by omega) (by rw [hl, hc.2]) hlen hg
          simpa using this
        · cases h
      · cases h
    · cases h

/-- A struct or an array by value. -/
theorem open_plain {r : Reach} {b0 : Nat} {t : TypeId} {n : Nat} {ks : List IntKind} {v : Value} {d : DataW H} {p : List MemPlace} (hk : flat P n t = some ks)
    (hs : (match P.underlying t with | some (.struct _) | some (.array _ _) => true | _ => false) = true) (hv : Value.okWide P w r b0 t v) (h : DataW.Trod enc P w base spare held t v d p) :
    ∃ cs : List Value, v = .agg cs.toArray ∧ Ints ks cs := by
  have ⟨cs, hcs⟩ : ∃ cs : Array Value, v = .agg cs := by
    unfold Value.okWide at hv
    split at hv
    · obtain ⟨cs, rfl, _⟩ := hv; exact ⟨cs, rfl⟩
    · obtain ⟨cs, rfl, _⟩ := hv; exact ⟨cs, rfl⟩
    · rename_i h1 h2
      split at hs
      · rename_i fs hu; exact absurd hu (h1 fs)
      · rename_i m e hu; exact absurd hu (h2 m e)
      · cases hs
  subst hcs
  obtain ⟨fuel, hf⟩ := h
  refine ⟨cs.toList, by simp, ?_⟩
  exact trod_flat n t ks fuel _ _ hk (by simpa [Value.cells] using hf)

/-- A slice of plain elements: nil, or an address and the cells of each element. -/
theorem open_plain_slice {r : Reach} {b0 : Nat} {t e : TypeId} {n : Nat} {ks : List IntKind} {v : Value} {d : DataW H} {p : List MemPlace} (ht : P.underlying t = some (.slice e)) (hk : flat P n e = some ks) (hC : P.cellsOf e = ks.length)
    (hv : Value.okWide P w r b0 t v) (h : DataW.Trod enc P w base spare held t v d p) :
    v = .slice none 0 0 ∨ ∃ (a : Addr) (len cap : Nat) (el : Nat → List Value), v = .slice (some a) len cap ∧ len ≤ cap ∧ cap ≤ maxLen ∧
      ∀ i, i < len → Ints ks (el i) ∧ ∀ j, j < ks.length → w.cell? (a.add (i * ks.length + j)) = (el i)[j]? := by
  obtain ⟨a0, l0, c0, rfl⟩ := okWide_slice ht hv
  obtain ⟨fuel, hf⟩ := h
  rcases open_slice ht hf with ⟨hcs, _⟩ | ⟨a, len, cap, m, n', D, Pl, hcs, hb, hl, hm, hmm, hx, hi⟩
  · left
    simp [Value.cells] at hcs
    obtain ⟨rfl, rfl, rfl⟩ := hcs
    rfl
  · right
    simp [Value.cells] at hcs
    obtain ⟨rfl, rfl, rfl⟩ := hcs
    have hlm : l0 ≤ m := by rw [hmm]; split <;> omega
    have hex : ∀ i, ∃ cs' : List Value, i < l0 → Ints ks cs' ∧ ∀ j, j < ks.length → w.cell? (a.add (i * ks.length + j)) = cs'[j]? := by
      intro i
      by_cases hil : i < l0
      · obtain ⟨cs', hc, ht'⟩ := hi i (by omega)
        refine ⟨cs', fun _ => ⟨trod_flat n e ks n' cs' _ hk ht', fun j hj => ?_⟩⟩
        obtain ⟨_, _, hat⟩ := World.cells?_some hc
        have := hat j (by rw [hC]; exact hj)
        rw [Go.Deep.add_add, hC] at this
        exact this
      · exact ⟨[], fun h => absurd h hil⟩
    refine ⟨a, l0, c0, fun i => Classical.choose (hex i), rfl, hl, hm, fun i hil => Classical.choose_spec (hex i) hil⟩
end

theorem Ints.get : ∀ {ks : List IntKind} {cs : List Value} {j : Nat} {k : IntKind}, Ints ks cs → ks[j]? = some k → ∃ n : Int, cs[j]? = some (.int k n) ∧ (Lit.int k n).wf = true
  | k0 :: _, c :: _, 0, k, ⟨⟨n, h1, h2⟩, _⟩, hj => by
    simp at hj; subst hj; exact ⟨n, by simp [h1], h2⟩
  | _ :: _, _ :: _, j + 1, k, ⟨_, h⟩, hj => by
    obtain ⟨n, h1, h2⟩ := Ints.get h (by simpa using hj); exact ⟨n, by simpa using h1, h2⟩
def numOf : Option Value → Int
  | some (.int _ n) => n
  | _ => 0
/-- A slice of plain elements as a table of numbers, at a block and an offset. -/
theorem open_rows {H : Type} {enc : TypeId × Value → H} {P : Program} {w : World} {base : Nat} {spare : Nat → Bool} {held : Bool} {r : Reach} {b0 : Nat} {t e : TypeId} {n : Nat} {k0 : IntKind} {ks : List IntKind} {v : Value} {d : DataW H} {p : List MemPlace}
    (ht : P.underlying t = some (.slice e)) (hk : flat P n e = some (k0 :: ks)) (hC : P.cellsOf e = (k0 :: ks).length) (hv : Value.okWide P w r b0 t v) (h : DataW.Trod enc P w base spare held t v d p) :
    ∃ (A : Option Addr) (len cap : Nat) (N : Nat → Nat → Int), v = .slice A len cap ∧ len ≤ cap ∧ cap ≤ maxLen ∧ (∀ i j k, i < len → (k0 :: ks)[j]? = some k → (Lit.int k (N i j)).wf = true) ∧
      (0 < len → ∃ b off : Nat, A = some ⟨b, off, none⟩ ∧ b < w.heap.size ∧ ∀ i j k, i < len → (k0 :: ks)[j]? = some k → w.cell? ⟨b, off + (i * (ks.length + 1) + j), none⟩ = some (.int k (N i j))) := by
  rcases open_plain_slice ht hk hC hv h with rfl | ⟨a, len, cap, el, rfl, hl, hc, hel⟩
  · exact ⟨none, 0, 0, fun _ _ => 0, rfl, Nat.le_refl _, by unfold maxLen; omega, fun i j k hi => absurd hi (by omega), fun h => absurd h (by omega)⟩
  · refine ⟨some a, len, cap, fun i j => numOf (el i)[j]?, rfl, hl, hc, fun i j k hi hj => ?_, fun hpos => ?_⟩
    · obtain ⟨x, h1, h2⟩ := (hel i hi).1.get hj
      show (Lit.int k (numOf (el i)[j]?)).wf = true
      rw [h1]; exact h2
    · obtain ⟨x0, g1, _⟩ := (hel 0 hpos).1.get (j := 0) (k := k0) rfl
      have g0 := (hel 0 hpos).2 0 (by simp)
      obtain ⟨b, off, spot⟩ := a
      have hspot : spot = none := by simpa [Addr.add] using World.cell?_spot (g0.trans g1)
      subst hspot
      refine ⟨b, off, rfl, World.block_lt_of_cell? w _ (by simpa [Addr.add] using g0.trans g1), fun i j k hi hj => ?_⟩
      obtain ⟨x, h1, h2⟩ := (hel i hi).1.get hj
      have hjl : j < (k0 :: ks).length := (List.getElem?_eq_some_iff.1 hj).1
      have := (hel i hi).2 j hjl
      rw [Go.WideShapes.add_plain, h1] at this
      show w.cell? ⟨b, off + (i * (ks.length + 1) + j), none⟩ = some (.int k (numOf (el i)[j]?))
      rw [h1]
      have q : w.cell? ⟨b, off + (i * (ks.length + 1) + j), none⟩ = some (.int k x) := by simpa using this
      exact q
theorem ints_cons {k : IntKind} {ks : List IntKind} {cs : List Value} (h : Ints (k :: ks) cs) : ∃ (a : Int) (cs' : List Value), cs = .int k a :: cs' ∧ (Lit.int k a).wf = true ∧ Ints ks cs' := by
  cases cs with
  | nil => exact h.elim
  | cons c cs => obtain ⟨⟨a, rfl, hw⟩, h2⟩ := h; exact ⟨a, cs, rfl, hw, h2⟩
theorem ints_nil {cs : List Value} (h : Ints [] cs) : cs = [] := by
  cases cs with
  | nil => rfl
  | cons c cs => exact h.elim
theorem ints1 {k0 : IntKind} {cs : List Value} (h : Ints [k0] cs) : ∃ a0 : Int, cs = [.int k0 a0] ∧ (Lit.int k0 a0).wf = true := by
  obtain ⟨a0, c0, rfl, w0, h⟩ := ints_cons h
  obtain rfl := ints_nil h
  exact ⟨a0, rfl, w0⟩
theorem ints2 {k0 k1 : IntKind} {cs : List Value} (h : Ints [k0, k1] cs) : ∃ a0 a1 : Int, cs = [.int k0 a0, .int k1 a1] ∧ (Lit.int k0 a0).wf = true ∧ (Lit.int k1 a1).wf = true := by
  obtain ⟨a0, c0, rfl, w0, h⟩ := ints_cons h
  obtain ⟨a1, c1, rfl, w1, h⟩ := ints_cons h
  obtain rfl := ints_nil h
  exact ⟨a0, a1, rfl, w0, w1⟩
theorem ints3 {k0 k1 k2 : IntKind} {cs : List Value} (h : Ints [k0, k1, k2] cs) : ∃ a0 a1 a2 : Int, cs = [.int k0 a0, .int k1 a1, .int k2 a2] ∧ (Lit.int k0 a0).wf = true ∧ (Lit.int k1 a1).wf = true ∧ (Lit.int k2 a2).wf = true := by
  obtain ⟨a0, c0, rfl, w0, h⟩ := ints_cons h
  obtain ⟨a1, c1, rfl, w1, h⟩ := ints_cons h
  obtain ⟨a2, c2, rfl, w2, h⟩ := ints_cons h
  obtain rfl := ints_nil h
  exact ⟨a0, a1, a2, rfl, w0, w1, w2⟩
theorem ints4 {k0 k1 k2 k3 : IntKind} {cs : List Value} (h : Ints [k0, k1, k2, k3] cs) : ∃ a0 a1 a2 a3 : Int, cs = [.int k0 a0, .int k1 a1, .int k2 a2, .int k3 a3] ∧ (Lit.int k0 a0).wf = true ∧ (Lit.int k1 a1).wf = true ∧ (Lit.int k2 a2).wf = true ∧ (Lit.int k3 a3).wf = true := by
  obtain ⟨a0, c0, rfl, w0, h⟩ := ints_cons h
  obtain ⟨a1, c1, rfl, w1, h⟩ := ints_cons h
  obtain ⟨a2, c2, rfl, w2, h⟩ := ints_cons h
  obtain ⟨a3, c3, rfl, w3, h⟩ := ints_cons h
  obtain rfl := ints_nil h
  exact ⟨a0, a1, a2, a3, rfl, w0, w1, w2, w3⟩
theorem ints5 {k0 k1 k2 k3 k4 : IntKind} {cs : List Value} (h : Ints [k0, k1, k2, k3, k4] cs) : ∃ a0 a1 a2 a3 a4 : Int, cs = [.int k0 a0, .int k1 a1, .int k2 a2, .int k3 a3, .int k4 a4] ∧ (Lit.int k0 a0).wf = true ∧ (Lit.int k1 a1).wf = true ∧ (Lit.int k2 a2).wf = true ∧ (Lit.int k3 a3).wf = true ∧ (Lit.int k4 a4).wf = true := by
  obtain ⟨a0, c0, rfl, w0, h⟩ := ints_cons h
  obtain ⟨a1, c1, rfl, w1, h⟩ := ints_cons h
  obtain ⟨a2, c2, rfl, w2, h⟩ := ints_cons h
  obtain ⟨a3, c3, rfl, w3, h⟩ := ints_cons h
  obtain ⟨a4, c4, rfl, w4, h⟩ := ints_cons h
  obtain rfl := ints_nil h
  exact ⟨a0, a1, a2, a3, a4, rfl, w0, w1, w2, w3, w4⟩
theorem ints6 {k0 k1 k2 k3 k4 k5 : IntKind} {cs : List Value} (h : Ints [k0, k1, k2, k3, k4, k5] cs) : ∃ a0 a1 a2 a3 a4 a5 : Int, cs = [.int k0 a0, .int k1 a1, .int k2 a2, .int k3 a3, .int k4 a4, .int k5 a5] ∧ (Lit.int k0 a0).wf = true ∧ (Lit.int k1 a1).wf = true ∧ (Lit.int k2 a2).wf = true ∧ (Lit.int k3 a3).wf = true ∧ (Lit.int k4 a4).wf = true ∧ (Lit.int k5 a5).wf = true := by
  obtain ⟨a0, c0, rfl, w0, h⟩ := ints_cons h
  obtain ⟨a1, c1, rfl, w1, h⟩ := ints_cons h
  obtain ⟨a2, c2, rfl, w2, h⟩ := ints_cons h
  obtain ⟨a3, c3, rfl, w3, h⟩ := ints_cons h
  obtain ⟨a4, c4, rfl, w4, h⟩ := ints_cons h
  obtain ⟨a5, c5, rfl, w5, h⟩ := ints_cons h
  obtain rfl := ints_nil h
  exact ⟨a0, a1, a2, a3, a4, a5, rfl, w0, w1, w2, w3, w4, w5⟩
theorem ints7 {k0 k1 k2 k3 k4 k5 k6 : IntKind} {cs : List Value} (h : Ints [k0, k1, k2, k3, k4, k5, k6] cs) : ∃ a0 a1 a2 a3 a4 a5 a6 : Int, cs = [.int k0 a0, .int k1 a1, .int k2 a2, .int k3 a3, .int k4 a4, .int k5 a5, .int k6 a6] ∧ (Lit.int k0 a0).wf = true ∧ (Lit.int k1 a1).wf = true ∧ (Lit.int k2 a2).wf = true ∧ (Lit.int k3 a3).wf = true ∧ (Lit.int k4 a4).wf = true ∧ (Lit.int k5 a5).wf = true ∧ (Lit.int k6 a6).wf = true := by
  obtain ⟨a0, c0, rfl, w0, h⟩ := ints_cons h
  obtain ⟨a1, c1, rfl, w1, h⟩ := ints_cons h
  obtain ⟨a2, c2, rfl, w2, h⟩ := ints_cons h
  obtain ⟨a3, c3, rfl, w3, h⟩ := ints_cons h
  obtain ⟨a4, c4, rfl, w4, h⟩ := ints_cons h
  obtain ⟨a5, c5, rfl, w5, h⟩ := ints_cons h
  obtain ⟨a6, c6, rfl, w6, h⟩ := ints_cons h
  obtain rfl := ints_nil h
  exact ⟨a0, a1, a2, a3, a4, a5, a6, rfl, w0, w1, w2, w3, w4, w5, w6⟩
theorem ints8 {k0 k1 k2 k3 k4 k5 k6 k7 : IntKind} {cs : List Value} (h : Ints [k0, k1, k2, k3, k4, k5, k6, k7] cs) : ∃ a0 a1 a2 a3 a4 a5 a6 a7 : Int, cs = [.int k0 a0, .int k1 a1, .int k2 a2, .int k3 a3, .int k4 a4, .int k5 a5, .int k6 a6, .int k7 a7] ∧ (Lit.int k0 a0).wf = true ∧ (Lit.int k1 a1).wf = true ∧ (Lit.int k2 a2).wf = true ∧ (Lit.int k3 a3).wf = true ∧ (Lit.int k4 a4).wf = true ∧ (Lit.int k5 a5).wf = true ∧ (Lit.int k6 a6).wf = true ∧ (Lit.int k7 a7).wf = true := by
  obtain ⟨a0, c0, rfl, w0, h⟩ := ints_cons h
  obtain ⟨a1, c1, rfl, w1, h⟩ := ints_cons h
  obtain ⟨a2, c2, rfl, w2, h⟩ := ints_cons h
  obtain ⟨a3, c3, rfl, w3, h⟩ := ints_cons h
  obtain ⟨a4, c4, rfl, w4, h⟩ := ints_cons h
  obtain ⟨a5, c5, rfl, w5, h⟩ := ints_cons h
  obtain ⟨a6, c6, rfl, w6, h⟩ := ints_cons h
  obtain ⟨a7, c7, rfl, w7, h⟩ := ints_cons h
  obtain rfl := ints_nil h
  exact ⟨a0, a1, a2, a3, a4, a5, a6, a7, rfl, w0, w1, w2, w3, w4, w5, w6, w7⟩
theorem ints9 {k0 k1 k2 k3 k4 k5 k6 k7 k8 : IntKind} {cs : List Value} (h : Ints [k0, k1, k2, k3, k4, k5, k6, k7, k8] cs) : ∃ a0 a1 a2 a3 a4 a5 a6 a7 a8 : Int, cs = [.int k0 a0, .int k1 a1, .int k2 a2, .int k3 a3, .int k4 a4, .int k5 a5, .int k6 a6, .int k7 a7, .int k8 a8] ∧ (Lit.int k0 a0).wf = true ∧ (Lit.int k1 a1).wf = true ∧ (Lit.int k2 a2).wf = true ∧ (Lit.int k3 a3).wf = true ∧ (Lit.int k4 a4).wf = true ∧ (Lit.int k5 a5).wf = true ∧ (Lit.int k6 a6).wf = true ∧ (Lit.int k7 a7).wf = true ∧ (Lit.int k8 a8).wf = true := by
  obtain ⟨a0, c0, rfl, w0, h⟩ := ints_cons h
  obtain ⟨a1, c1, rfl, w1, h⟩ := ints_cons h
  obtain ⟨a2, c2, rfl, w2, h⟩ := ints_cons h
  obtain ⟨a3, c3, rfl, w3, h⟩ := ints_cons h
  obtain ⟨a4, c4, rfl, w4, h⟩ := ints_cons h
  obtain ⟨a5, c5, rfl, w5, h⟩ := ints_cons h
  obtain ⟨a6, c6, rfl, w6, h⟩ := ints_cons h
  obtain ⟨a7, c7, rfl, w7, h⟩ := ints_cons h
  obtain ⟨a8, c8, rfl, w8, h⟩ := ints_cons h
  obtain rfl := ints_nil h
  exact ⟨a0, a1, a2, a3, a4, a5, a6, a7, a8, rfl, w0, w1, w2, w3, w4, w5, w6, w7, w8⟩
theorem ints10 {k0 k1 k2 k3 k4 k5 k6 k7 k8 k9 : IntKind} {cs : List Value} (h : Ints [k0, k1, k2, k3, k4, k5, k6, k7, k8, k9] cs) : ∃ a0 a1 a2 a3 a4 a5 a6 a7 a8 a9 : Int, cs = [.int k0 a0, .int k1 a1, .int k2 a2, .int k3 a3, .int k4 a4, .int k5 a5, .int k6 a6, .int k7 a7, .int k8 a8, .int k9 a9] ∧ (Lit.int k0 a0).wf = true ∧ (Lit.int k1 a1).wf = true ∧ (Lit.int k2 a2).wf = true ∧ (Lit.int k3 a3).wf = true ∧ (Lit.int k4 a4).wf = true ∧ (Lit.int k5 a5).wf = true ∧ (Lit.int k6 a6).wf = true ∧ (Lit.int k7 a7).wf = true ∧ (Lit.int k8 a8).wf = true ∧ (Lit.int k9 a9).wf = true := by
  obtain ⟨a0, c0, rfl, w0, h⟩ := ints_cons h
  obtain ⟨a1, c1, rfl, w1, h⟩ := ints_cons h
  obtain ⟨a2, c2, rfl, w2, h⟩ := ints_cons h
  obtain ⟨a3, c3, rfl, w3, h⟩ := ints_cons h
  obtain ⟨a4, c4, rfl, w4, h⟩ := ints_cons h
  obtain ⟨a5, c5, rfl, w5, h⟩ := ints_cons h
  obtain ⟨a6, c6, rfl, w6, h⟩ := ints_cons h
  obtain ⟨a7, c7, rfl, w7, h⟩ := ints_cons h
  obtain ⟨a8, c8, rfl, w8, h⟩ := ints_cons h
  obtain ⟨a9, c9, rfl, w9, h⟩ := ints_cons h
  obtain rfl := ints_nil h
  exact ⟨a0, a1, a2, a3, a4, a5, a6, a7, a8, a9, rfl, w0, w1, w2, w3, w4, w5, w6, w7, w8, w9⟩
theorem ints12 {k0 k1 k2 k3 k4 k5 k6 k7 k8 k9 k10 k11 : IntKind} {cs : List Value} (h : Ints [k0, k1, k2, k3, k4, k5, k6, k7, k8, k9, k10, k11] cs) : ∃ a0 a1 a2 a3 a4 a5 a6 a7 a8 a9 a10 a11 : Int, cs = [.int k0 a0, .int k1 a1, .int k2 a2, .int k3 a3, .int k4 a4, .int k5 a5, .int k6 a6, .int k7 a7, .int k8 a8, .int k9 a9, .int k10 a10, .int k11 a11] ∧ (Lit.int k0 a0).wf = true ∧ (Lit.int k1 a1).wf = true ∧ (Lit.int k2 a2).wf = true ∧ (Lit.int k3 a3).wf = true ∧ (Lit.int k4 a4).wf = true ∧ (Lit.int k5 a5).wf = true ∧ (Lit.int k6 a6).wf = true ∧ (Lit.int k7 a7).wf = true ∧ (Lit.int k8 a8).wf = true ∧ (Lit.int k9 a9).wf = true ∧ (Lit.int k10 a10).wf = true ∧ (Lit.int k11 a11).wf = true := by
  obtain ⟨a0, c0, rfl, w0, h⟩ := ints_cons h
  obtain ⟨a1, c1, rfl, w1, h⟩ := ints_cons h
  obtain ⟨a2, c2, rfl, w2, h⟩ := ints_cons h
  obtain ⟨a3, c3, rfl, w3, h⟩ := ints_cons h
  obtain ⟨a4, c4, rfl, w4, h⟩ := ints_cons h
  obtain ⟨a5, c5, rfl, w5, h⟩ := ints_cons h
  obtain ⟨a6, c6, rfl, w6, h⟩ := ints_cons h
  obtain ⟨a7, c7, rfl, w7, h⟩ := ints_cons h
  obtain ⟨a8, c8, rfl, w8, h⟩ := ints_cons h
  obtain ⟨a9, c9, rfl, w9, h⟩ := ints_cons h
  obtain ⟨a10, c10, rfl, w10, h⟩ := ints_cons h
  obtain ⟨a11, c11, rfl, w11, h⟩ := ints_cons h
  obtain rfl := ints_nil h
  exact ⟨a0, a1, a2, a3, a4, a5, a6, a7, a8, a9, a10, a11, rfl, w0, w1, w2, w3, w4, w5, w6, w7, w8, w9, w10, w11⟩
end Go.Proofs.Ytgkbjkgafiojjaa
