/-
  Words and contracts, put together: Fin, Arg, Blk, Rd, ArgRd, ArgS, Rd2, OTb, OPerf, OPlain, OProb, ArgT, OCk, OAp, OVp.
-/
import Derived.Test.YtoeklllahpegfaaRows
import Derived.WalkKit
import Derived.ProofKit
import Derived.OpenShut
import Derived.Carry
import Derived.SizedLaws
import Derived.Test.YtoeklllahpegfaaChecked
import Derived.Deep.Slices
import Derived.Lib.SmallJoins
import Derived.WalkSpells
import Derived.WalkLawsBesides
import Derived.Outline
import Derived.Lib.Hide
import Derived.Deep.RegionHeld3
import Derived.Deep.RegionWith
import Derived.Deep.QuietTactic
import Derived.BigQuiet
import Derived.IntWalk
import Derived.LoopN
import Derived.Laws.OwnMore
import Derived.Maps.AppendAt
import Derived.Deep.AppendLies
import Derived.OwnWalk
import Derived.Handy
import Derived.Laws.MakeOwn
/-
  The last step of a row for a law: what the walk gives (it returns true, and below the heap's old size nothing has turned) is what the row asks.
-/
namespace Go.Proofs.Ytoeklllahpegfaa
set_option linter.unusedVariables false
set_option linter.unusedSimpArgs false
open Go.ChangeShapes Go.WideShapes Go.ChangeAt Go.RowKit

theorem laid_out : laidOutB Try.prog = true := by kernel_rfl
theorem own_knob : ownKnob Try.prog.godebug = none := by kernel_rfl
theorem bd_i64 {a : Int} (h : (Lit.int .i64 a).wf = true) : -9223372036854775808 ≤ a ∧ a ≤ 9223372036854775807 := by
  simpa [Lit.wf, IntKind.min, IntKind.max, IntKind.signed, IntKind.bits] using h
theorem bd_u64 {a : Int} (h : (Lit.int .u64 a).wf = true) : 0 ≤ a ∧ a ≤ 18446744073709551615 := by
  simpa [Lit.wf, IntKind.min, IntKind.max, IntKind.signed, IntKind.bits] using h
theorem bd_u32 {a : Int} (h : (Lit.int .u32 a).wf = true) : 0 ≤ a ∧ a ≤ 4294967295 := by
  simpa [Lit.wf, IntKind.min, IntKind.max, IntKind.signed, IntKind.bits] using h
theorem bd_u8 {a : Int} (h : (Lit.int .u8 a).wf = true) : 0 ≤ a ∧ a ≤ 255 := by
  simpa [Lit.wf, IntKind.min, IntKind.max, IntKind.signed, IntKind.bits] using h

/-- The arguments read behind the call as they did. -/
theorem trodAll_below {H : Type} {enc : TypeId × Value → H} {P : Program} (hl : laidOutB P = true) {W W' : World} (hb : Below W.heap.size W W') :
    ∀ {ts : List TypeId} {vs : List Value} {ds : List (DataW H)} {ps : List MemPlace}, (ts.all fun t => P.readableRec t && decide (t < P.types.size)) = true →
      DataW.TrodAll enc P W 0 (fun _ => true) true ts vs ds ps → (∀ x ∈ ps, x.block < W.heap.size) → DataW.TrodAll enc P W' 0 (fun b => decide (b < W.heap.size)) true ts vs ds ps
  | [], [], [], _, _, h, _ => h
  | t :: ts, v :: vs, d :: ds, ps, ht, ⟨p, q, h1, h2, e⟩, hlt => by
    simp only [List.all_cons, Bool.and_eq_true, decide_eq_true_eq] at ht
    exact ⟨p, q, Below.trod hl ht.1.1 ht.1.2 h1 hb (fun x hx => hlt x (by rw [e]; exact List.mem_append_left _ hx)),
      trodAll_below hl hb ht.2 h2 (fun x hx => hlt x (by rw [e]; exact List.mem_append_right _ hx)), e⟩

/-- What the row asks behind the call. -/
theorem law_post {H : Type} {enc : TypeId × Value → H} {f : Func} {s : ChangeSpec} {fresh handsOn : Bool} {W W' : World} {args : Array Value} {ds gs : List (DataW H)} {before : List MemPlace}
    (hvars : s.vars = []) (hW : DataW.Whole enc Try.prog f.params.toList s.vars false W args.toList ds gs before) (hb : Below W.heap.size W W')
    (ht : (f.params.toList.all fun t => Try.prog.readableRec t && decide (t < Try.prog.types.size)) = true) (hr : f.resultTypes = #[4])
    (h1 : (s.fn H (ds ++ gs)).results = [.lit (.bool true)]) (h2 : (s.fn H (ds ++ gs)).args = ds) (h3 : (s.fn H (ds ++ gs)).vars = []) :
    s.post enc Try.prog f false fresh handsOn false W args (.bool true) W' := by
  have hW' := hW
  have hlt : ∀ x ∈ before, x.block < W.heap.size := fun x hx => by simpa using hW'.lt x hx
  obtain ⟨p, q, hA, hV, hpq, _, _⟩ := hW
  have hq : q = [] ∧ gs = [] := by
    rw [hvars] at hV
    cases gs with
    | nil => exact ⟨hV, rfl⟩
    | cons g gs => exact hV.elim
  obtain ⟨rfl, rfl⟩ := hq
  refine ⟨ds, [], before, [], p, [], hW', ?_, ?_, ?_, hb.frame _, fun h => by cases h⟩
  · rw [hr, h1]
    exact trodAll_cons_mk (shut_bool Try.underlying4 _) trodAll_mk0
  · rw [h2]
    exact trodAll_below laid_out hb ht hA (fun x hx => hlt x (by rw [hpq]; simpa using hx))
  · rw [h3, hvars]
    exact rfl
end Go.Proofs.Ytoeklllahpegfaa
/-
  Arguments of plain types (structs and arrays of integers, whatever the nesting): their values as lists of integers; slices of them.
-/
namespace Go.Proofs.Ytoeklllahpegfaa
set_option linter.unusedVariables false
set_option linter.unusedSimpArgs false
open Go.ChangeShapes Go.WideShapes Go.ChangeAt Go.RowKit Go.Deep

/-- The integer kinds of the cells of a plain type. -/
def flatFields (r : TypeId → Option (List IntKind)) (P : Program) : Nat → List Field → Option (List IntKind)
  | _, [] => some []
  | o, f :: fs => match r f.type, flatFields r P (o + P.cellsOf f.type) fs with
    | some a, some b => if f.offset = o ∧ P.cellsOf f.type = a.length then some (a ++ b) else none
    | _, _ => none
def flat (P : Program) : Nat → TypeId → Option (List IntKind)
  | 0, _ => none
  | n + 1, t => match P.underlying t with
    | some (.int k) => some [k]
    | some (.struct fs) => match flatFields (flat P n) P 0 fs.toList with
      | some ks => if P.cellsOf t = ks.length then some ks else none
      | none => none
    | some (.array m e) => match flat P n e with
      | some ks => if P.cellsOf e = ks.length ∧ P.cellsOf t = m * ks.length then some (List.replicate m ks).flatten else none
      | none => none
    | _ => none

/-- The values are integers of these kinds. -/
def Ints : List IntKind → List Value → Prop
  | [], [] => True
  | k :: ks, v :: vs => (∃ n : Int, v = .int k n ∧ (Lit.int k n).wf = true) ∧ Ints ks vs
  | _, _ => False
theorem Ints.append : ∀ {a b : List IntKind} {x y : List Value}, Ints a x → Ints b y → Ints (a ++ b) (x ++ y)
  | [], _, [], _, _, h => h
  | _ :: _, _, _ :: _, _, ⟨h1, h2⟩, h => ⟨h1, Ints.append h2 h⟩

section
variable {H : Type} {enc : TypeId × Value → H} {P : Program} {w : World} {base : Nat} {spare : Nat → Bool} {held : Bool}

theorem fields_flat {r : TypeId → Option (List IntKind)} {m : Nat} {cs : List Value} {xs : List (DataW H × List MemPlace)}
    (hr : ∀ t ks cs' x, r t = some ks → DataW.trod enc P w base spare held m t cs' = some x → Ints ks cs') :
    ∀ (fs : List Field) (o i0 : Nat) (ks : List IntKind), flatFields r P o fs = some ks → cs.length = o + ks.length → xs.length = i0 + fs.length →
      (∀ j f, fs[j]? = some f → DataW.trod enc P w base spare held m f.type ((cs.drop f.offset).take (P.cellsOf f.type)) = xs[i0 + j]?) → Ints ks (cs.drop o) := by
  intro fs
  induction fs with
  | nil =>
    intro o i0 ks h hc _ _
    simp only [flatFields, Option.some.injEq] at h
    subst h
    have : cs.drop o = [] := List.drop_eq_nil_of_le (by simpa using Nat.le_of_eq hc)
    rw [this]; exact trivial
  | cons f fs ih =>
    intro o i0 ks h hc hx hf
    simp only [flatFields] at h
    split at h
    · rename_i a b ha hb
      split at h
      · rename_i hcond
        obtain ⟨ho, hl⟩ := hcond
        simp only [Option.some.injEq] at h
        subst h
        have hlen : xs.length = i0 + (fs.length + 1) := by simpa using hx
        have h0 := hf 0 f rfl
        have hget : xs[i0 + 0]? = some (xs[i0]'(by omega)) := by simp [List.getElem?_eq_getElem (show i0 < xs.length by omega)]
        rw [hget, ho, hl] at h0
        have hA := hr _ _ _ _ ha h0
        rw [hl] at hb
        have hB := ih (o + a.length) (i0 + 1) b hb (by rw [hc, List.length_append]; omega) (by omega) (fun j g hg => by
          have := hf (j + 1) g (by simpa using hg)
          rw [this]; congr 1; omega)
        have e : cs.drop o = (cs.drop o).take a.length ++ cs.drop (o + a.length) := by
          rw [← List.drop_drop]; exact (List.take_append_drop _ _).symm
        rw [e]
        exact hA.append hB
      · cases h
    · cases h

theorem array_flat {m M e : Nat} {cs : List Value} {xs : List (DataW H × List MemPlace)} {ks : List IntKind}
    (hr : ∀ cs' x, DataW.trod enc P w base spare held M e cs' = some x → Ints ks cs') (hk : P.cellsOf e = ks.length) :
    ∀ (n i0 : Nat), i0 + n = m → cs.length = m * ks.length → xs.length = m → (∀ i, i < m → DataW.trod enc P w base spare held M e ((cs.drop (i * P.cellsOf e)).take (P.cellsOf e)) = xs[i]?) →
      Ints (List.replicate n ks).flatten (cs.drop (i0 * ks.length)) := by
  intro n
  induction n with
  | zero =>
    intro i0 hi hc _ _
    have : cs.drop (i0 * ks.length) = [] := List.drop_eq_nil_of_le (by rw [hc]; simp at hi; rw [hi]; exact Nat.le_refl _)
    rw [this]; exact trivial
  | succ n ih =>
    intro i0 hi hc hx hf
    have h0 := hf i0 (by omega)
    rw [List.getElem?_eq_getElem (by omega), hk] at h0
    have hA := hr _ _ h0
    have hB := ih (i0 + 1) (by omega) hc hx hf
    have e : cs.drop (i0 * ks.length) = (cs.drop (i0 * ks.length)).take ks.length ++ cs.drop ((i0 + 1) * ks.length) := by
      rw [Nat.add_mul, Nat.one_mul, ← List.drop_drop]; exact (List.take_append_drop _ _).symm
    rw [e, List.replicate_succ, List.flatten_cons]
    exact hA.append hB

theorem trod_flat : ∀ (n : Nat) (t : TypeId) (ks : List IntKind) (fuel : Nat) (cs : List Value) (x : DataW H × List MemPlace), flat P n t = some ks → DataW.trod enc P w base spare held fuel t cs = some x → Ints ks cs := by
  intro n
  induction n with
  | zero => intro t ks fuel cs x h; simp [flat] at h
  | succ n ih =>
    intro t ks fuel cs x h hf
    simp only [flat] at h
    split at h
    · rename_i k hu
      simp only [Option.some.injEq] at h
      subst h
      obtain ⟨a, rfl, _, hw⟩ := DataW.trod_int hu hf
      exact ⟨⟨a, rfl, hw⟩, trivial⟩
    · rename_i fs hu
      split at h
      · rename_i ks' hk
        split at h
        · rename_i hc
          simp only [Option.some.injEq] at h
          subst h
          obtain ⟨xs, m, _, _, hl, hlen, hg⟩ := DataW.trod_struct hu hf
          have := fields_flat (cs := cs) (xs := xs) (m := m) (fun t ks cs' x a b => ih t ks m cs' x a b) fs.toList 0 0 ks' hk (by rw [hl, hc]; simp) (by rw [hlen]; simp) (fun j f hj => by
            rw [Nat.zero_add]; exact hg j f (by simpa using hj))
          simpa using this
        · cases h
      · cases h
    · rename_i m e hu
      split at h
      · rename_i ks' hk
        split at h
        · rename_i hc
          simp only [Option.some.injEq] at h
          subst h
          obtain ⟨xs, M, _, _, hl, hlen, hg⟩ := DataW.trod_array hu hf
          have := array_flat (m := m) (M := M) (e := e) (cs := cs) (xs := xs) (ks := ks') (fun cs' x b => ih e ks' M cs' x hk b) hc.1 m 0 (by omega) (by rw [hl, hc.2]) hlen hg
          simpa using this
        · cases h
      · cases h
    · cases h

/-- A struct or an array by value. -/
theorem open_plain {r : Reach} {b0 : Nat} {t : TypeId} {n : Nat} {ks : List IntKind} {v : Value} {d : DataW H} {p : List MemPlace} (hk : flat P n t = some ks)
    (hs : (match P.underlying t with | some (.struct _) | some (.array _ _) => true | _ => false) = true) (hv : Value.okWide P w r b0 t v) (h : DataW.Trod enc P w base spare held t v d p) :
    ∃ cs : List Value, v = .agg cs.toArray ∧ Ints ks cs := by
  have ⟨cs, hcs⟩ : ∃ cs : Array Value, v = .agg cs := by
    unfold Value.okWide at hv
    split at hv
    · obtain ⟨cs, rfl, _⟩ := hv; exact ⟨cs, rfl⟩
    · obtain ⟨cs, rfl, _⟩ := hv; exact ⟨cs, rfl⟩
    · rename_i h1 h2
      split at hs
      · rename_i fs hu; exact absurd hu (h1 fs)
      · rename_i m e hu; exact absurd hu (h2 m e)
      · cases hs
  subst hcs
  obtain ⟨fuel, hf⟩ := h
  refine ⟨cs.toList, by simp, ?_⟩
  exact trod_flat n t ks fuel _ _ hk (by simpa [Value.cells] using hf)

/-- A slice of plain elements: nil, or an address and the cells of each element. -/
theorem open_plain_slice {r : Reach} {b0 : Nat} {t e : TypeId} {n : Nat} {ks : List IntKind} {v : Value} {d : DataW H} {p : List MemPlace} (ht : P.underlying t = some (.slice e)) (hk : flat P n e = some ks) (hC : P.cellsOf e = ks.length)
    (hv : Value.okWide P w r b0 t v) (h : DataW.Trod enc P w base spare held t v d p) :
    v = .slice none 0 0 ∨ ∃ (a : Addr) (len cap : Nat) (el : Nat → List Value), v = .slice (some a) len cap ∧ len ≤ cap ∧ cap ≤ maxLen ∧
      ∀ i, i < len → Ints ks (el i) ∧ ∀ j, j < ks.length → w.cell? (a.add (i * ks.length + j)) = (el i)[j]? := by
  obtain ⟨a0, l0, c0, rfl⟩ := okWide_slice ht hv
  obtain ⟨fuel, hf⟩ := h
  rcases open_slice ht hf with ⟨hcs, _⟩ | ⟨a, len, cap, m, n', D, Pl, hcs, hb, hl, hm, hmm, hx, hi⟩
  · left
    simp [Value.cells] at hcs
    obtain ⟨rfl, rfl, rfl⟩ := hcs
    rfl
  · right
    simp [Value.cells] at hcs
    obtain ⟨rfl, rfl, rfl⟩ := hcs
    have hlm : l0 ≤ m := by rw [hmm]; split <;> omega
    have hex : ∀ i, ∃ cs' : List Value, i < l0 → Ints ks cs' ∧ ∀ j, j < ks.length → w.cell? (a.add (i * ks.length + j)) = cs'[j]? := by
      intro i
      by_cases hil : i < l0
      · obtain ⟨cs', hc, ht'⟩ := hi i (by omega)
        refine ⟨cs', fun _ => ⟨trod_flat n e ks n' cs' _ hk ht', fun j hj => ?_⟩⟩
        obtain ⟨_, _, hat⟩ := World.cells?_some hc
        have := hat j (by rw [hC]; exact hj)
        rw [Go.Deep.add_add, hC] at this
        exact this
      · exact ⟨[], fun h => absurd h hil⟩
    refine ⟨a, l0, c0, fun i => Classical.choose (hex i), rfl, hl, hm, fun i hil => Classical.choose_spec (hex i) hil⟩
end

theorem Ints.get : ∀ {ks : List IntKind} {cs : List Value} {j : Nat} {k : IntKind}, Ints ks cs → ks[j]? = some k → ∃ n : Int, cs[j]? = some (.int k n) ∧ (Lit.int k n).wf = true
  | k0 :: _, c :: _, 0, k, ⟨⟨n, h1, h2⟩, _⟩, hj => by
    simp at hj; subst hj; exact ⟨n, by simp [h1], h2⟩
  | _ :: _, _ :: _, j + 1, k, ⟨_, h⟩, hj => by
    obtain ⟨n, h1, h2⟩ := Ints.get h (by simpa using hj); exact ⟨n, by simpa using h1, h2⟩
def numOf : Option Value → Int
  | some (.int _ n) => n
  | _ => 0
/-- A slice of plain elements as a table of numbers, at a block and an offset. -/
theorem open_rows {H : Type} {enc : TypeId × Value → H} {P : Program} {w : World} {base : Nat} {spare : Nat → Bool} {held : Bool} {r : Reach} {b0 : Nat} {t e : TypeId} {n : Nat} {k0 : IntKind} {ks : List IntKind} {v : Value} {d : DataW H} {p : List MemPlace}
    (ht : P.underlying t = some (.slice e)) (hk : flat P n e = some (k0 :: ks)) (hC : P.cellsOf e = (k0 :: ks).length) (hv : Value.okWide P w r b0 t v) (h : DataW.Trod enc P w base spare held t v d p) :
    ∃ (A : Option Addr) (len cap : Nat) (N : Nat → Nat → Int), v = .slice A len cap ∧ len ≤ cap ∧ cap ≤ maxLen ∧ (∀ i j k, i < len → (k0 :: ks)[j]? = some k → (Lit.int k (N i j)).wf = true) ∧
      (0 < len → ∃ b off : Nat, A = some ⟨b, off, none⟩ ∧ b < w.heap.size ∧ ∀ i j k, i < len → (k0 :: ks)[j]? = some k → w.cell? ⟨b, off + (i * (ks.length + 1) + j), none⟩ = some (.int k (N i j))) := by
  rcases open_plain_slice ht hk hC hv h with rfl | ⟨a, len, cap, el, rfl, hl, hc, hel⟩
  · exact ⟨none, 0, 0, fun _ _ => 0, rfl, Nat.le_refl _, by unfold maxLen; omega, fun i j k hi => absurd hi (by omega), fun h => absurd h (by omega)⟩
  · refine ⟨some a, len, cap, fun i j => numOf (el i)[j]?, rfl, hl, hc, fun i j k hi hj => ?_, fun hpos => ?_⟩
    · obtain ⟨x, h1, h2⟩ := (hel i hi).1.get hj
      show (Lit.int k (numOf (el i)[j]?)).wf = true
      rw [h1]; exact h2
    · obtain ⟨x0, g1, _⟩ := (hel 0 hpos).1.get (j := 0) (k := k0) rfl
      have g0 := (hel 0 hpos).2 0 (by simp)
      obtain ⟨b, off, spot⟩ := a
      have hspot : spot = none := by simpa [Addr.add] using World.cell?_spot (g0.trans g1)
      subst hspot
      refine ⟨b, off, rfl, World.block_lt_of_cell? w _ (by simpa [Addr.add] using g0.trans g1), fun i j k hi hj => ?_⟩
      obtain ⟨x, h1, h2⟩ := (hel i hi).1.get hj
      have hjl : j < (k0 :: ks).length := (List.getElem?_eq_some_iff.1 hj).1
      have := (hel i hi).2 j hjl
      rw [Go.WideShapes.add_plain, h1] at this
      show w.cell? ⟨b, off + (i * (ks.length + 1) + j), none⟩ = some (.int k (numOf (el i)[j]?))
      rw [h1]
      have q : w.cell? ⟨b, off + (i * (ks.length + 1) + j), none⟩ = some (.int k x) := by simpa using this
      exact q
theorem ints_cons {k : IntKind} {ks : List IntKind} {cs : List Value} (h : Ints (k :: ks) cs) : ∃ (a : Int) (cs' : List Value), cs = .int k a :: cs' ∧ (Lit.int k a).wf = true ∧ Ints ks cs' := by
  cases cs with
  | nil => exact h.elim
  | cons c cs => obtain ⟨⟨a, rfl, hw⟩, h2⟩ := h; exact ⟨a, cs, rfl, hw, h2⟩
theorem ints_nil {cs : List Value} (h : Ints [] cs) : cs = [] := by
  cases cs with
  | nil => rfl
  | cons c cs => exact h.elim
theorem ints1 {k0 : IntKind} {cs : List Value} (h : Ints [k0] cs) : ∃ a0 : Int, cs = [.int k0 a0] ∧ (Lit.int k0 a0).wf = true := by
  obtain ⟨a0, c0, rfl, w0, h⟩ := ints_cons h
  obtain rfl := ints_nil h
  exact ⟨a0, rfl, w0⟩
theorem ints2 {k0 k1 : IntKind} {cs : List Value} (h : Ints [k0, k1] cs) : ∃ a0 a1 : Int, cs = [.int k0 a0, .int k1 a1] ∧ (Lit.int k0 a0).wf = true ∧ (Lit.int k1 a1).wf = true := by
  obtain ⟨a0, c0, rfl, w0, h⟩ := ints_cons h
  obtain ⟨a1, c1, rfl, w1, h⟩ := ints_cons h
  obtain rfl := ints_nil h
  exact ⟨a0, a1, rfl, w0, w1⟩
theorem ints3 {k0 k1 k2 : IntKind} {cs : List Value} (h : Ints [k0, k1, k2] cs) : ∃ a0 a1 a2 : Int, cs = [.int k0 a0, .int k1 a1, .int k2 a2] ∧ (Lit.int k0 a0).wf = true ∧ (Lit.int k1 a1).wf = true ∧ (Lit.int k2 a2).wf = true := by
  obtain ⟨a0, c0, rfl, w0, h⟩ := ints_cons h
  obtain ⟨a1, c1, rfl, w1, h⟩ := ints_cons h
  obtain ⟨a2, c2, rfl, w2, h⟩ := ints_cons h
  obtain rfl := ints_nil h
  exact ⟨a0, a1, a2, rfl, w0, w1, w2⟩
theorem ints4 {k0 k1 k2 k3 : IntKind} {cs : List Value} (h : Ints [k0, k1, k2, k3] cs) : ∃ a0 a1 a2 a3 : Int, cs = [.int k0 a0, .int k1 a1, .int k2 a2, .int k3 a3] ∧ (Lit.int k0 a0).wf = true ∧ (Lit.int k1 a1).wf = true ∧ (Lit.int k2 a2).wf = true ∧ (Lit.int k3 a3).wf = true := by
  obtain ⟨a0, c0, rfl, w0, h⟩ := ints_cons h
  obtain ⟨a1, c1, rfl, w1, h⟩ := ints_cons h
  obtain ⟨a2, c2, rfl, w2, h⟩ := ints_cons h
  obtain ⟨a3, c3, rfl, w3, h⟩ := ints_cons h
  obtain rfl := ints_nil h
  exact ⟨a0, a1, a2, a3, rfl, w0, w1, w2, w3⟩
theorem ints5 {k0 k1 k2 k3 k4 : IntKind} {cs : List Value} (h : Ints [k0, k1, k2, k3, k4] cs) : ∃ a0 a1 a2 a3 a4 : Int, cs = [.int k0 a0, .int k1 a1, .int k2 a2, .int k3 a3, .int k4 a4] ∧ (Lit.int k0 a0).wf = true ∧ (Lit.int k1 a1).wf = true ∧ (Lit.int k2 a2).wf = true ∧ (Lit.int k3 a3).wf = true ∧ (Lit.int k4 a4).wf = true := by
  obtain ⟨a0, c0, rfl, w0, h⟩ := ints_cons h
  obtain ⟨a1, c1, rfl, w1, h⟩ := ints_cons h
  obtain ⟨a2, c2, rfl, w2, h⟩ := ints_cons h
  obtain ⟨a3, c3, rfl, w3, h⟩ := ints_cons h
  obtain ⟨a4, c4, rfl, w4, h⟩ := ints_cons h
  obtain rfl := ints_nil h
  exact ⟨a0, a1, a2, a3, a4, rfl, w0, w1, w2, w3, w4⟩
theorem ints6 {k0 k1 k2 k3 k4 k5 : IntKind} {cs : List Value} (h : Ints [k0, k1, k2, k3, k4, k5] cs) : ∃ a0 a1 a2 a3 a4 a5 : Int, cs = [.int k0 a0, .int k1 a1, .int k2 a2, .int k3 a3, .int k4 a4, .int k5 a5] ∧ (Lit.int k0 a0).wf = true ∧ (Lit.int k1 a1).wf = true ∧ (Lit.int k2 a2).wf = true ∧ (Lit.int k3 a3).wf = true ∧ (Lit.int k4 a4).wf = true ∧ (Lit.int k5 a5).wf = true := by
  obtain ⟨a0, c0, rfl, w0, h⟩ := ints_cons h
  obtain ⟨a1, c1, rfl, w1, h⟩ := ints_cons h
  obtain ⟨a2, c2, rfl, w2, h⟩ := ints_cons h
  obtain ⟨a3, c3, rfl, w3, h⟩ := ints_cons h
  obtain ⟨a4, c4, rfl, w4, h⟩ := ints_cons h
  obtain ⟨a5, c5, rfl, w5, h⟩ := ints_cons h
  obtain rfl := ints_nil h
  exact ⟨a0, a1, a2, a3, a4, a5, rfl, w0, w1, w2, w3, w4, w5⟩
theorem ints7 {k0 k1 k2 k3 k4 k5 k6 : IntKind} {cs : List Value} (h : Ints [k0, k1, k2, k3, k4, k5, k6] cs) : ∃ a0 a1 a2 a3 a4 a5 a6 : Int, cs = [.int k0 a0, .int k1 a1, .int k2 a2, .int k3 a3, .int k4 a4, .int k5 a5, .int k6 a6] ∧ (Lit.int k0 a0).wf = true ∧ (Lit.int k1 a1).wf = true ∧ (Lit.int k2 a2).wf = true ∧ (Lit.int k3 a3).wf = true ∧ (Lit.int k4 a4).wf = true ∧ (Lit.int k5 a5).wf = true ∧ (Lit.int k6 a6).wf = true := by
  obtain ⟨a0, c0, rfl, w0, h⟩ := ints_cons h
  obtain ⟨a1, c1, rfl, w1, h⟩ := ints_cons h
  obtain ⟨a2, c2, rfl, w2, h⟩ := ints_cons h
  obtain ⟨a3, c3, rfl, w3, h⟩ := ints_cons h
  obtain ⟨a4, c4, rfl, w4, h⟩ := ints_cons h
  obtain ⟨a5, c5, rfl, w5, h⟩ := ints_cons h
  obtain ⟨a6, c6, rfl, w6, h⟩ := ints_cons h
  obtain rfl := ints_nil h
  exact ⟨a0, a1, a2, a3, a4, a5, a6, rfl, w0, w1, w2, w3, w4, w5, w6⟩
theorem ints8 {k0 k1 k2 k3 k4 k5 k6 k7 : IntKind} {cs : List Value} (h : Ints [k0, k1, k2, k3, k4, k5, k6, k7] cs) : ∃ a0 a1 a2 a3 a4 a5 a6 a7 : Int, cs = [.int k0 a0, .int k1 a1, .int k2 a2, .int k3 a3, .int k4 a4, .int k5 a5, .int k6 a6, .int k7 a7] ∧ (Lit.int k0 a0).wf = true ∧ (Lit.int k1 a1).wf = true ∧ (Lit.int k2 a2).wf = true ∧ (Lit.int k3 a3).wf = true ∧ (Lit.int k4 a4).wf = true ∧ (Lit.int k5 a5).wf = true ∧ (Lit.int k6 a6).wf = true ∧ (Lit.int k7 a7).wf = true := by
  obtain ⟨a0, c0, rfl, w0, h⟩ := ints_cons h
  obtain ⟨a1, c1, rfl, w1, h⟩ := ints_cons h
  obtain ⟨a2, c2, rfl, w2, h⟩ := ints_cons h
  obtain ⟨a3, c3, rfl, w3, h⟩ := ints_cons h
  obtain ⟨a4, c4, rfl, w4, h⟩ := ints_cons h
  obtain ⟨a5, c5, rfl, w5, h⟩ := ints_cons h
  obtain ⟨a6, c6, rfl, w6, h⟩ := ints_cons h
  obtain ⟨a7, c7, rfl, w7, h⟩ := ints_cons h
  obtain rfl := ints_nil h
  exact ⟨a0, a1, a2, a3, a4, a5, a6, a7, rfl, w0, w1, w2, w3, w4, w5, w6, w7⟩
theorem ints9 {k0 k1 k2 k3 k4 k5 k6 k7 k8 : IntKind} {cs : List Value} (h : Ints [k0, k1, k2, k3, k4, k5, k6, k7, k8] cs) : ∃ a0 a1 a2 a3 a4 a5 a6 a7 a8 : Int, cs = [.int k0 a0, .int k1 a1, .int k2 a2, .int k3 a3, .int k4 a4, .int k5 a5, .int k6 a6, .int k7 a7, .int k8 a8] ∧ (Lit.int k0 a0).wf = true ∧ (Lit.int k1 a1).wf = true ∧ (Lit.int k2 a2).wf = true ∧ (Lit.int k3 a3).wf = true ∧ (Lit.int k4 a4).wf = true ∧ (Lit.int k5 a5).wf = true ∧ (Lit.int k6 a6).wf = true ∧ (Lit.int k7 a7).wf = true ∧ (Lit.int k8 a8).wf = true := by
  obtain ⟨a0, c0, rfl, w0, h⟩ := ints_cons h
  obtain ⟨a1, c1, rfl, w1, h⟩ := ints_cons h
  obtain ⟨a2, c2, rfl, w2, h⟩ := ints_cons h
  obtain ⟨a3, c3, rfl, w3, h⟩ := ints_cons h
  obtain ⟨a4, c4, rfl, w4, h⟩ := ints_cons h
  obtain ⟨a5, c5, rfl, w5, h⟩ := ints_cons h
  obtain ⟨a6, c6, rfl, w6, h⟩ := ints_cons h
  obtain ⟨a7, c7, rfl, w7, h⟩ := ints_cons h
  obtain ⟨a8, c8, rfl, w8, h⟩ := ints_cons h
  obtain rfl := ints_nil h
  exact ⟨a0, a1, a2, a3, a4, a5, a6, a7, a8, rfl, w0, w1, w2, w3, w4, w5, w6, w7, w8⟩
theorem ints10 {k0 k1 k2 k3 k4 k5 k6 k7 k8 k9 : IntKind} {cs : List Value} (h : Ints [k0, k1, k2, k3, k4, k5, k6, k7, k8, k9] cs) : ∃ a0 a1 a2 a3 a4 a5 a6 a7 a8 a9 : Int, cs = [.int k0 a0, .int k1 a1, .int k2 a2, .int k3 a3, .int k4 a4, .int k5 a5, .int k6 a6, .int k7 a7, .int k8 a8, .int k9 a9] ∧ (Lit.int k0 a0).wf = true ∧ (Lit.int k1 a1).wf = true ∧ (Lit.int k2 a2).wf = true ∧ (Lit.int k3 a3).wf = true ∧ (Lit.int k4 a4).wf = true ∧ (Lit.int k5 a5).wf = true ∧ (Lit.int k6 a6).wf = true ∧ (Lit.int k7 a7).wf = true ∧ (Lit.int k8 a8).wf = true ∧ (Lit.int k9 a9).wf = true := by
  obtain ⟨a0, c0, rfl, w0, h⟩ := ints_cons h
  obtain ⟨a1, c1, rfl, w1, h⟩ := ints_cons h
  obtain ⟨a2, c2, rfl, w2, h⟩ := ints_cons h
  obtain ⟨a3, c3, rfl, w3, h⟩ := ints_cons h
  obtain ⟨a4, c4, rfl, w4, h⟩ := ints_cons h
  obtain ⟨a5, c5, rfl, w5, h⟩ := ints_cons h
  obtain ⟨a6, c6, rfl, w6, h⟩ := ints_cons h
  obtain ⟨a7, c7, rfl, w7, h⟩ := ints_cons h
  obtain ⟨a8, c8, rfl, w8, h⟩ := ints_cons h
  obtain ⟨a9, c9, rfl, w9, h⟩ := ints_cons h
  obtain rfl := ints_nil h
  exact ⟨a0, a1, a2, a3, a4, a5, a6, a7, a8, a9, rfl, w0, w1, w2, w3, w4, w5, w6, w7, w8, w9⟩
theorem ints12 {k0 k1 k2 k3 k4 k5 k6 k7 k8 k9 k10 k11 : IntKind} {cs : List Value} (h : Ints [k0, k1, k2, k3, k4, k5, k6, k7, k8, k9, k10, k11] cs) : ∃ a0 a1 a2 a3 a4 a5 a6 a7 a8 a9 a10 a11 : Int, cs = [.int k0 a0, .int k1 a1, .int k2 a2, .int k3 a3, .int k4 a4, .int k5 a5, .int k6 a6, .int k7 a7, .int k8 a8, .int k9 a9, .int k10 a10, .int k11 a11] ∧ (Lit.int k0 a0).wf = true ∧ (Lit.int k1 a1).wf = true ∧ (Lit.int k2 a2).wf = true ∧ (Lit.int k3 a3).wf = true ∧ (Lit.int k4 a4).wf = true ∧ (Lit.int k5 a5).wf = true ∧ (Lit.int k6 a6).wf = true ∧ (Lit.int k7 a7).wf = true ∧ (Lit.int k8 a8).wf = true ∧ (Lit.int k9 a9).wf = true ∧ (Lit.int k10 a10).wf = true ∧ (Lit.int k11 a11).wf = true := by
  obtain ⟨a0, c0, rfl, w0, h⟩ := ints_cons h
  obtain ⟨a1, c1, rfl, w1, h⟩ := ints_cons h
  obtain ⟨a2, c2, rfl, w2, h⟩ := ints_cons h
  obtain ⟨a3, c3, rfl, w3, h⟩ := ints_cons h
  obtain ⟨a4, c4, rfl, w4, h⟩ := ints_cons h
  obtain ⟨a5, c5, rfl, w5, h⟩ := ints_cons h
  obtain ⟨a6, c6, rfl, w6, h⟩ := ints_cons h
  obtain ⟨a7, c7, rfl, w7, h⟩ := ints_cons h
  obtain ⟨a8, c8, rfl, w8, h⟩ := ints_cons h
  obtain ⟨a9, c9, rfl, w9, h⟩ := ints_cons h
  obtain ⟨a10, c10, rfl, w10, h⟩ := ints_cons h
  obtain ⟨a11, c11, rfl, w11, h⟩ := ints_cons h
  obtain rfl := ints_nil h
  exact ⟨a0, a1, a2, a3, a4, a5, a6, a7, a8, a9, a10, a11, rfl, w0, w1, w2, w3, w4, w5, w6, w7, w8, w9, w10, w11⟩
end Go.Proofs.Ytoeklllahpegfaa
/-
  Small words for memory: 'Below' chains, one block known whole, endings.
-/
namespace Go.Proofs.Ytoeklllahpegfaa
set_option linter.unusedVariables false
set_option linter.unusedSimpArgs false
open Go.RowKit

theorem bt {w w1 w2 : World} (h : Below w.heap.size w w1) (k : Below w1.heap.size w1 w2) : Below w.heap.size w w2 := h.trans (k.mono h.size)
theorem ba (w : World) (o : Obj) : Below w.heap.size w (w.alloc o) := (Below.refl _ _).alloc (Nat.le_refl _) o
theorem bal {w w1 : World} (h : Below w.heap.size w w1) (o : Obj) : Below w.heap.size w (w1.alloc o) := h.alloc h.size o
theorem bdn (w : World) (n : Nat) : Below w.heap.size w (w.drewN n) := ⟨rfl, rfl, rfl, Nat.le_refl _, fun _ _ => rfl⟩
theorem bdnl {w w1 : World} (h : Below w.heap.size w w1) (n : Nat) : Below w.heap.size w (w1.drewN n) := ⟨h.os, h.tape, h.output, h.size, h.block⟩
theorem bdr {w w1 : World} (h : Below w.heap.size w w1) : Below w.heap.size w w1.drew := h.drew
theorem bst {w w1 : World} (h : Below w.heap.size w w1) {p : Addr} (hp : w.heap.size ≤ p.block) (v : Value) : Below w.heap.size w (w1.setCell p v) := h.setCell hp v
theorem bcell {W w1 : World} (hb : Below W.heap.size W w1) : (∀ b o, b < W.heap.size → w1.cell? ⟨b, o, none⟩ = W.cell? ⟨b, o, none⟩) ∧ (∀ b o, b < W.heap.size → w1.frozen? ⟨b, o, none⟩ = W.frozen? ⟨b, o, none⟩) :=
  ⟨fun b o h => hb.cell (p := ⟨b, o, none⟩) h, fun b o h => hb.frozen (p := ⟨b, o, none⟩) h⟩
theorem ret_int {k : IntKind} {a b : Int} (h : a = b) : Ending.returned (.int k a) = .returned (.int k b) := by rw [h]
theorem ret_bool {a b : Bool} (h : a = b) : Ending.returned (.bool a) = .returned (.bool b) := by rw [h]
theorem ret_ints {k l : IntKind} {a b c d : Int} (h : a = b) (h2 : c = d) : Ending.returned (.tuple #[.int k a, .int l c]) = .returned (.tuple #[.int k b, .int l d]) := by rw [h, h2]
theorem ret_ints3 {a b c d x y : Int} {k l m : IntKind} (h : a = b) (h2 : c = d) (h3 : x = y) : Ending.returned (.tuple #[.int k a, .int l c, .int m x]) = .returned (.tuple #[.int k b, .int l d, .int m y]) := by rw [h, h2, h3]

/-- Block g holds just the cells cs, none of them frozen. -/
def Blk (w : World) (g : Nat) (t : TypeId) (cs : Array Value) : Prop := w.heap[g]? = some (.cells cs t (0, 0))
section
variable {w w' : World} {g : Nat} {t : TypeId} {cs : Array Value}
theorem Blk.lt (h : Blk w g t cs) : g < w.heap.size := by
  rcases Nat.lt_or_ge g w.heap.size with hlt | hge
  · exact hlt
  · unfold Blk at h; rw [Array.getElem?_eq_none hge] at h; cases h
theorem Blk.cell (h : Blk w g t cs) (i : Nat) : w.cell? ⟨g, i, none⟩ = cs[i]? := Go.Joins.cell_of_block h i
theorem Blk.frozen (h : Blk w g t cs) (i : Nat) : w.frozen? ⟨g, i, none⟩ = false := by
  unfold Blk at h
  simp [World.frozen?, h]
theorem Blk.new (w : World) (t : TypeId) (cs : Array Value) : Blk (w.alloc (.cells cs t)) w.heap.size t cs := heap_alloc_new w _
theorem Blk.new1 (w : World) (o : Obj) (t : TypeId) (cs : Array Value) : Blk ((w.alloc o).alloc (.cells cs t)) (w.heap.size + 1) t cs := by
  have h := Blk.new (w.alloc o) t cs
  simpa using h
theorem Blk.new2 (w : World) (o o2 : Obj) (t : TypeId) (cs : Array Value) : Blk (((w.alloc o).alloc o2).alloc (.cells cs t)) (w.heap.size + 1 + 1) t cs := by
  have h := Blk.new ((w.alloc o).alloc o2) t cs
  simpa using h
theorem Blk.drew (h : Blk w g t cs) : Blk w.drew g t cs := h
theorem Blk.drewN (h : Blk w g t cs) (n : Nat) : Blk (w.drewN n) g t cs := h
theorem Blk.alloc (h : Blk w g t cs) (o : Obj) : Blk (w.alloc o) g t cs := (Below.heap_alloc w o g h.lt).trans h
theorem Blk.set_ (h : Blk w g t cs) (i : Nat) (u : Value) : Blk (w.setCell ⟨g, i, none⟩ u) g t (cs.setIfInBounds i u) := by
  unfold Blk at h ⊢
  simp [World.setCell, Array.getElem?_modify, h]
theorem Blk.far (h : Blk w g t cs) {p : Addr} (hp : g ≠ p.block) (u : Value) : Blk (w.setCell p u) g t cs := (Below.heap_setCell w p u g hp).trans h
theorem Blk.keep (h : Blk w g t cs) (hb : Below w.heap.size w w') : Blk w' g t cs := (hb.block g h.lt).trans h
theorem Blk.open2 {a b : Value} (h : Blk w g t #[a, b]) : w.cell? ⟨g, 0, none⟩ = some a ∧ w.cell? ⟨g, 1, none⟩ = some b ∧ (∀ o, w.frozen? ⟨g, o, none⟩ = false) ∧ g < w.heap.size :=
  ⟨h.cell 0, h.cell 1, h.frozen, h.lt⟩
theorem Blk.open3 {a b c : Value} (h : Blk w g t #[a, b, c]) : w.cell? ⟨g, 0, none⟩ = some a ∧ w.cell? ⟨g, 1, none⟩ = some b ∧ w.cell? ⟨g, 2, none⟩ = some c ∧ (∀ o, w.frozen? ⟨g, o, none⟩ = false) ∧ g < w.heap.size :=
  ⟨h.cell 0, h.cell 1, h.cell 2, h.frozen, h.lt⟩
theorem Blk.open4 {a b c d : Value} (h : Blk w g t #[a, b, c, d]) : w.cell? ⟨g, 0, none⟩ = some a ∧ w.cell? ⟨g, 1, none⟩ = some b ∧ w.cell? ⟨g, 2, none⟩ = some c ∧ w.cell? ⟨g, 3, none⟩ = some d ∧ (∀ o, w.frozen? ⟨g, o, none⟩ = false) ∧ g < w.heap.size :=
  ⟨h.cell 0, h.cell 1, h.cell 2, h.cell 3, h.frozen, h.lt⟩
theorem Blk.open1 {a : Value} (h : Blk w g t #[a]) : w.cell? ⟨g, 0, none⟩ = some a ∧ (∀ o, w.frozen? ⟨g, o, none⟩ = false) ∧ g < w.heap.size :=
  ⟨h.cell 0, h.frozen, h.lt⟩
end
theorem keepR {W0 wp wn : World} {S : World → Prop} {Q : Prop} (hreg : ∀ w', Below W0.heap.size W0 w' → S w') (hbn : Below wp.heap.size wp wn) (hS : Below W0.heap.size W0 wp ∧ Q) : S wn := hreg _ (bt hS.1 hbn)
end Go.Proofs.Ytoeklllahpegfaa
/-
  Slices by what they hold: a slice that is read (Rd), a slice that the call itself has made (Own); append and make in these words.
-/
namespace Go.Proofs.Ytoeklllahpegfaa
set_option linter.unusedVariables false
set_option linter.unusedSimpArgs false
open Go.RowKit

theorem quiet_left' {P : Program} {f : FuncId} {args : Array Value} {w : World} {n : Nat} {v : Value}
    (h : Calls P f args (w.drewN n) fun e w' => e = .returned v ∧ w.drewN n = w') : Calls P f args (w.drewN n) fun e w' => e = .returned v ∧ ∃ m, w' = w.drewN m :=
  h.mono fun _ _ ⟨he, hm⟩ => ⟨he, n, hm.symm⟩
theorem quiet_add' {P : Program} {f : FuncId} {args : Array Value} {w : World} {a n : Nat} {v : Value}
    (h : Calls P f args (w.drewN (a + n)) fun e w' => e = .returned v ∧ w.drewN (a + n) = w') : Calls P f args (w.drewN (a + n)) fun e w'' => e = .returned v ∧ ∃ m, w'' = w.drewN (a + m) :=
  h.mono fun _ _ ⟨he, hm⟩ => ⟨he, n, hm.symm⟩
theorem add_plain (b o j : Nat) : (⟨b, o, none⟩ : Addr).add j = ⟨b, o + j, none⟩ := by unfold Addr.add; by_cases h : j = 0 <;> simp [h]
theorem maxLen_eq : maxLen = 9223372036854775807 := by unfold maxLen; decide

/-- The slice with address A, n elements of q cells each and capacity c reads as V. -/
structure Rd (w : World) (q : Nat) (A : Option Addr) (n c : Nat) (V : Nat → Nat → Value) : Prop where
  le : n ≤ c
  mx : c ≤ 9223372036854775807
  at_ : 0 < n → ∃ b off, A = some ⟨b, off, none⟩ ∧ b < w.heap.size ∧ ∀ i j, i < n → j < q → w.cell? ⟨b, off + i * q + j, none⟩ = some (V i j)
/-- Rows of 64-bit integers; plain numbers. -/
def iv (N : Nat → Nat → Int) : Nat → Nat → Value := fun i j => .int .i64 (N i j)
def nv (N : Nat → Int) : Nat → Nat → Value := fun i _ => .int .i64 (N i)
section
variable {w w' : World} {q : Nat} {A : Option Addr} {n c : Nat} {V : Nat → Nat → Value}
theorem Rd.nil (w : World) (q : Nat) (V : Nat → Nat → Value) : Rd w q none 0 0 V := ⟨Nat.le_refl _, by omega, fun h => absurd h (by omega)⟩
theorem Rd.keep (h : Rd w q A n c V) (hb : Below w.heap.size w w') : Rd w' q A n c V :=
  ⟨h.le, h.mx, fun hn => by
    obtain ⟨b, off, e, hl, hc⟩ := h.at_ hn
    exact ⟨b, off, e, by have := hb.size; omega, fun i j hi hj => ((bcell hb).1 _ _ hl).trans (hc i j hi hj)⟩⟩
theorem Rd.alloc (h : Rd w q A n c V) (o : Obj) : Rd (w.alloc o) q A n c V := h.keep (ba w o)
theorem Rd.drew (h : Rd w q A n c V) : Rd w.drew q A n c V := ⟨h.le, h.mx, h.at_⟩
theorem Rd.drewN (h : Rd w q A n c V) (k : Nat) : Rd (w.drewN k) q A n c V := ⟨h.le, h.mx, h.at_⟩
theorem Rd.congr {V' : Nat → Nat → Value} (h : Rd w q A n c V) (e : ∀ i j, i < n → j < q → V i j = V' i j) : Rd w q A n c V' :=
  ⟨h.le, h.mx, fun hn => by
    obtain ⟨b, off, e1, hl, hc⟩ := h.at_ hn
    exact ⟨b, off, e1, hl, fun i j hi hj => by rw [hc i j hi hj, e i j hi hj]⟩⟩
theorem Rd.at1 {N : Nat → Int} (h : Rd w 1 A n c (nv N)) {k : Nat} (hk : k < n) : ∃ b off, A = some ⟨b, off, none⟩ ∧ b < w.heap.size ∧ w.cell? ⟨b, off + k, none⟩ = some (.int .i64 (N k)) := by
  obtain ⟨b, off, e, hl, hc⟩ := h.at_ (by omega)
  exact ⟨b, off, e, hl, by simpa [nv] using hc k 0 hk (by omega)⟩
theorem Rd.at2 {N : Nat → Nat → Int} (h : Rd w 2 A n c (iv N)) {k : Nat} (hk : k < n) : ∃ b off, A = some ⟨b, off, none⟩ ∧ b < w.heap.size ∧ w.cell? ⟨b, off + k * 2, none⟩ = some (.int .i64 (N k 0)) ∧ w.cell? ⟨b, off + k * 2 + 1, none⟩ = some (.int .i64 (N k 1)) := by
  obtain ⟨b, off, e, hl, hc⟩ := h.at_ (by omega)
  exact ⟨b, off, e, hl, hc k 0 hk (by omega), hc k 1 hk (by omega)⟩
theorem Rd.at3 {N : Nat → Nat → Int} (h : Rd w 3 A n c (iv N)) {k : Nat} (hk : k < n) : ∃ b off, A = some ⟨b, off, none⟩ ∧ b < w.heap.size ∧ w.cell? ⟨b, off + k * 3, none⟩ = some (.int .i64 (N k 0)) ∧ w.cell? ⟨b, off + k * 3 + 1, none⟩ = some (.int .i64 (N k 1)) ∧ w.cell? ⟨b, off + k * 3 + 2, none⟩ = some (.int .i64 (N k 2)) := by
  obtain ⟨b, off, e, hl, hc⟩ := h.at_ (by omega)
  exact ⟨b, off, e, hl, hc k 0 hk (by omega), hc k 1 hk (by omega), hc k 2 hk (by omega)⟩
/-- s[i:j]. -/
theorem Rd.cut (h : Rd w q A n c V) {i j : Nat} (hij : i ≤ j) (hj : j ≤ n) : Rd w q (if c = i then A else A.map (·.add (i * q))) (j - i) (c - i) (fun k f => V (i + k) f) := by
  have := h.le
  have := h.mx
  refine ⟨by omega, by omega, fun hn => ?_⟩
  obtain ⟨b, off, rfl, hl, hc⟩ := h.at_ (by omega)
  rw [if_neg (by omega)]
  refine ⟨b, off + i * q, by simp [add_plain], hl, fun k f hk hf => ?_⟩
  have := hc (i + k) f (by omega) hf
  rw [Nat.add_mul] at this
  rw [← this, Nat.add_assoc off]
theorem keepRd {W0 wp : World} {Q : Prop} (T : Rd W0 q A n c V) (hS : Below W0.heap.size W0 wp ∧ Q) : Rd wp q A n c V := T.keep hS.1
/-- Out of a block that is known whole. -/
theorem Rd.of_blk {g : Nat} {t : TypeId} {cs : Array Value} (h : Blk w g t cs) (hn : n ≤ c) (hm : c ≤ 9223372036854775807) (hv : ∀ i j, i < n → j < q → cs[i * q + j]? = some (V i j)) : Rd w q (some ⟨g, 0, none⟩) n c V :=
  ⟨hn, hm, fun _ => ⟨g, 0, rfl, h.lt, fun i j hi hj => by rw [Nat.zero_add, h.cell]; exact hv i j hi hj⟩⟩
end

/-- The slice was made by the call (its block's number is at least base); it holds V. -/
structure Own (w : World) (base : Nat) (e : TypeId) (q : Nat) (A : Option Addr) (n c : Nat) (V : Nat → Nat → Value) : Prop where
  row : ∃ xs, w.ownsRow base e q (.slice A n c) n xs ∧ ∀ i j, i < n → j < q → xs[i * q + j]? = some (V i j)
/-- The block of a slice. -/
def ob (A : Option Addr) : Option Nat := A.map (·.block)
theorem own_ob (A : Option Addr) (n c : Nat) : (Value.slice A n c).ownBlock = ob A := by cases A <;> rfl
section
variable {w w' : World} {base : Nat} {e : TypeId} {q : Nat} {A : Option Addr} {n c : Nat} {V : Nat → Nat → Value}
theorem Own.nil (w : World) (base : Nat) (e : TypeId) (q : Nat) (V : Nat → Nat → Value) : Own w base e q none 0 0 V := ⟨[], World.ownsRow_nil _ _ _ _, fun i j hi => absurd hi (by omega)⟩
theorem Own.form (h : Own w base e q A n c V) : n ≤ c ∧ c ≤ 9223372036854775807 ∧ ((A = none ∧ n = 0 ∧ c = 0) ∨ ∃ g, A = some ⟨g, 0, none⟩ ∧ base ≤ g ∧ g < w.heap.size) := by
  obtain ⟨xs, h1, h2⟩ := h.row
  have hlt := h1.lt
  rcases h1.2 with ⟨e1, e2⟩ | ⟨g, cap, cur, e1, hb, hh, hn, hm, _, _⟩
  · injection e1 with a b d
    subst a e2 d
    exact ⟨Nat.le_refl _, by omega, .inl ⟨rfl, rfl, rfl⟩⟩
  · injection e1 with a b d
    subst a d
    rw [maxLen_eq] at hm
    exact ⟨hn, hm, .inr ⟨g, rfl, hb, (hlt g rfl).2⟩⟩
theorem Own.pos (h : Own w base e q A n c V) (hn : 0 < n) : ∃ g, A = some ⟨g, 0, none⟩ ∧ base ≤ g ∧ g < w.heap.size := by
  obtain ⟨_, _, h | h⟩ := h.form
  · omega
  · exact h
theorem Own.cell {g : Nat} (h : Own w base e q (some ⟨g, 0, none⟩) n c V) {i j : Nat} (hi : i < n) (hj : j < q) : w.cell? ⟨g, i * q + j, none⟩ = some (V i j) := by
  obtain ⟨xs, h1, h2⟩ := h.row
  have : i * q + j < n * q := by
    have : (i + 1) * q ≤ n * q := Nat.mul_le_mul_right _ hi
    rw [Nat.add_mul] at this; omega
  rw [h1.cellAt _ this]; exact h2 i j hi hj
theorem Own.frozen {g : Nat} (h : Own w base e q (some ⟨g, 0, none⟩) n c V) (o : Nat) : w.frozen? ⟨g, o, none⟩ = false := by
  obtain ⟨xs, h1, _⟩ := h.row
  exact h1.frozenAt o
theorem Own.rd (h : Own w base e q A n c V) : Rd w q A n c V := by
  obtain ⟨a, b, d⟩ := h.form
  refine ⟨a, b, fun hn => ?_⟩
  obtain ⟨g, rfl, hb, hl⟩ := h.pos hn
  exact ⟨g, 0, rfl, hl, fun i j hi hj => by rw [Nat.zero_add]; exact h.cell hi hj⟩
theorem Own.kept {row : Option Nat} (h : Own w base e q A n c V) (hg : w.grownBy w' row) (hne : ob A = none ∨ ob A ≠ row) : Own w' base e q A n c V := by
  obtain ⟨xs, h1, h2⟩ := h.row
  exact ⟨xs, h1.kept hg (by rw [own_ob]; exact hne), h2⟩
theorem grown_below (hb : Below w.heap.size w w') : w.grownBy w' none := ⟨hb.os, hb.tape, hb.output, hb.size, fun i hi _ => hb.block i hi⟩
theorem below_grown {row : Option Nat} (hg : w.grownBy w' row) (hr : ∀ k, row = some k → base ≤ k) (hB : base ≤ w.heap.size) : Below base w w' :=
  ⟨hg.os, hg.tape, hg.output, hg.size, fun i hi => hg.block i (by omega) (fun he => by have := hr i he.symm; omega)⟩
theorem Own.keep (h : Own w base e q A n c V) (hb : Below w.heap.size w w') : Own w' base e q A n c V := by
  refine h.kept (grown_below hb) ?_
  cases A
  · exact .inl rfl
  · right; unfold ob; simp
theorem Own.alloc (h : Own w base e q A n c V) (o : Obj) : Own (w.alloc o) base e q A n c V := h.keep (ba w o)
theorem Own.drew (h : Own w base e q A n c V) : Own w.drew base e q A n c V := ⟨h.row⟩
theorem Own.drewN (h : Own w base e q A n c V) (k : Nat) : Own (w.drewN k) base e q A n c V := ⟨h.row⟩
theorem grown_set (w : World) (p : Addr) (u : Value) : w.grownBy (w.setCell p u) (some p.block) :=
  ⟨rfl, rfl, rfl, by simp [World.setCell], fun i hi hne => Below.heap_setCell w p u i (fun e => hne (by rw [e]))⟩
theorem Own.far (h : Own w base e q A n c V) {p : Addr} (hp : ob A = none ∨ ob A ≠ some p.block) (u : Value) : Own (w.setCell p u) base e q A n c V := h.kept (grown_set w p u) hp
theorem Own.more {b' : Nat} (h : Own w base e q A n c V) (hb : b' ≤ base) : Own w b' e q A n c V := by
  obtain ⟨xs, h1, h2⟩ := h.row
  refine ⟨xs, ⟨h1.1, ?_⟩, h2⟩
  rcases h1.2 with h | ⟨g, cap, cur, a, b, d⟩
  · exact .inl h
  · exact .inr ⟨g, cap, cur, a, by omega, d⟩
theorem Own.congr {V' : Nat → Nat → Value} (h : Own w base e q A n c V) (he : ∀ i j, i < n → j < q → V i j = V' i j) : Own w base e q A n c V' := by
  obtain ⟨xs, h1, h2⟩ := h.row
  exact ⟨xs, h1, fun i j hi hj => by rw [h2 i j hi hj, he i j hi hj]⟩
/-- One cell stored. -/
theorem Own.set {g : Nat} {V' : Nat → Nat → Value} (h : Own w base e q (some ⟨g, 0, none⟩) n c V) {i j : Nat} (hi : i < n) (hj : j < q) (u : Value) (hu : V' i j = u)
    (hv : ∀ i' j', i' < n → j' < q → (i' ≠ i ∨ j' ≠ j) → V' i' j' = V i' j') : Own (w.setCell ⟨g, i * q + j, none⟩ u) base e q (some ⟨g, 0, none⟩) n c V' := by
  obtain ⟨xs, h1, h2⟩ := h.row
  have hlt : i * q + j < n * q := by
    have : (i + 1) * q ≤ n * q := Nat.mul_le_mul_right _ hi
    rw [Nat.add_mul] at this; omega
  refine ⟨_, (h1.stored _ u).1, fun i' j' hi' hj' => ?_⟩
  by_cases he : i' = i ∧ j' = j
  · obtain ⟨rfl, rfl⟩ := he
    rw [List.getElem?_set_self (by rw [h1.1]; exact hlt), hu]
  · rw [List.getElem?_set_ne, h2 i' j' hi' hj', hv i' j' hi' hj' (by omega)]
    intro hq
    apply he
    have d1 : (i * q + j) / q = i := by rw [Nat.mul_comm, Nat.mul_add_div (by omega), Nat.div_eq_of_lt hj]; rfl
    have d2 : (i' * q + j') / q = i' := by rw [Nat.mul_comm, Nat.mul_add_div (by omega), Nat.div_eq_of_lt hj']; rfl
    rw [hq, d2] at d1
    subst d1
    exact ⟨rfl, by omega⟩
end
/-- What append holds. -/
def app (n : Nat) (V V2 : Nat → Nat → Value) : Nat → Nat → Value := fun i f => if i < n then V i f else V2 (i - n) f
theorem app_int (n : Nat) (N N2 : Nat → Nat → Int) : app n (iv N) (iv N2) = iv (fun i f => if i < n then N i f else N2 (i - n) f) := by
  funext i f; by_cases h : i < n <;> simp [app, iv, h]
theorem app_num (n : Nat) (N N2 : Nat → Int) : app n (nv N) (nv N2) = nv (fun i => if i < n then N i else N2 (i - n)) := by
  funext i f; by_cases h : i < n <;> simp [app, nv, h]
theorem flat_get {q : Nat} (hq : 0 < q) {m : Nat} (V : Nat → Nat → Value) {i j : Nat} (hi : i < m) (hj : j < q) : ((List.range (m * q)).map fun t => V (t / q) (t % q))[i * q + j]? = some (V i j) := by
  have hlt : i * q + j < m * q := by
    have : (i + 1) * q ≤ m * q := Nat.mul_le_mul_right _ hi
    rw [Nat.add_mul] at this; omega
  have d1 : (i * q + j) / q = i := by rw [Nat.mul_comm, Nat.mul_add_div hq, Nat.div_eq_of_lt hj]; rfl
  have d2 : (i * q + j) % q = j := by rw [Nat.mul_comm, Nat.mul_add_mod, Nat.mod_eq_of_lt hj]
  rw [List.getElem?_map, List.getElem?_range hlt]
  simp only [Option.map_some, d1, d2]
section
variable {P : Program} (w : World)
theorem run_append_Rd (base : Nat) (t ty e : TypeId) (i : TypeInfo) (z : Value) (q bytes : Nat) (ht : P.underlying t = some (.slice e)) (hi : P.info? e = some i) (hz : i.zero = some z)
    (hsize : i.size = q) (hby : i.bytes = bytes) (hzs : z.cells.size = q) (hq : 0 < q)
    {A A2 : Option Addr} {n c m c2 : Nat} {V V2 : Nat → Nat → Value} (own : Own w base e q A n c V) (src : Rd w q A2 m c2 V2) (h1 : ∀ i j, (V2 i j).oneCell' = true)
    (h63 : n + m ≤ 9223372036854775807) (hbytes : (n + m) * bytes ≤ 140737488355328) (hbase : base ≤ w.heap.size) :
    ∃ A' c' w', (Builtin.append_ #[t, t] ty #[.slice A n c, .slice A2 m c2]).run P w = .ok (.slice A' (n + m) c') w' ∧ Own w' base e q A' (n + m) c' (app n V V2) ∧ w.grownBy w' (ob A) ∧ (ob A' = ob A ∨ ob A' = some w.heap.size) := by
  obtain ⟨xs, o1, o2⟩ := own.row
  rcases A2 with _ | ad
  · have hm : m = 0 := by
      rcases Nat.eq_zero_or_pos m with h0 | h0
      · exact h0
      · obtain ⟨b, off, h, _⟩ := src.at_ h0; cases h
    subst hm
    have hrun : (Builtin.append_ #[t, t] ty #[.slice A n c, .slice none 0 c2]).run P w = .ok (.slice A n c) w := by
      rcases own.form with ⟨hnc, _, h | ⟨g, rfl, _, _⟩⟩
      · obtain ⟨rfl, rfl, rfl⟩ := h
        simp [Builtin.append_, run_underlying ht, sizeOf, typeInfo, hi, Builtin.lenOf, Builtin.firstCells]
      · simp [Builtin.append_, run_underlying ht, sizeOf, typeInfo, hi, Builtin.lenOf, Builtin.firstCells, hnc, storeCells]
    exact ⟨A, c, w, hrun, own.congr fun i f hi' _ => by unfold app; rw [if_pos hi'], World.grownBy.refl w _, .inl rfl⟩
  · have hform : ∀ j u, ((List.range (m * q)).map fun t => V2 (t / q) (t % q))[j]? = some u → w.cell? (ad.add j) = some u := by
      intro j u hu
      have hj : j < m * q := by
        have := (List.getElem?_eq_some_iff.1 hu).1
        simpa using this
      have hm : 0 < m := by
        rcases Nat.eq_zero_or_pos m with h0 | h0
        · subst h0; omega
        · exact h0
      obtain ⟨b, off, h, hl, hc⟩ := src.at_ hm
      injection h with h
      subst h
      have hd : j / q < m := (Nat.div_lt_iff_lt_mul hq).2 hj
      have hr := Nat.mod_lt j hq
      have hc' := hc (j / q) (j % q) hd hr
      rw [List.getElem?_map, List.getElem?_range hj] at hu
      simp only [Option.map_some, Option.some.injEq] at hu
      have ej : off + j / q * q + j % q = off + j := by have := Nat.div_add_mod j q; rw [Nat.mul_comm] at this; omega
      rw [ej, hu] at hc'
      rw [add_plain]
      exact hc'
    obtain ⟨v', w', hrun, h2, h3, _, h5⟩ := run_append_own_at (P := P) w base t ty e i z q bytes ht hi hz hsize hby hzs hq (.slice A n c) n xs o1 ad m c2 _ (by simp) hform (by
      intro u hu
      obtain ⟨t', _, rfl⟩ := List.mem_map.1 hu
      exact h1 _ _) (by rw [maxLen_eq]; exact h63) hbytes hbase
    have hv : ∃ A' c', v' = .slice A' (n + m) c' := by
      rcases h2.2 with ⟨a, b⟩ | ⟨g, cap, cur, a, _⟩
      · exact ⟨none, 0, by rw [a, b]⟩
      · exact ⟨_, _, a⟩
    obtain ⟨A', c', rfl⟩ := hv
    refine ⟨A', c', w', hrun, ⟨_, h2, fun k f hk hf => ?_⟩, by rw [← own_ob A n c]; exact h3, by rw [← own_ob A n c, ← own_ob A' (n + m) c']; exact h5⟩
    unfold app
    by_cases hkn : k < n
    · rw [if_pos hkn, List.getElem?_append_left, o2 k f hkn hf]
      rw [o1.1]
      have : (k + 1) * q ≤ n * q := Nat.mul_le_mul_right _ hkn
      rw [Nat.add_mul] at this; omega
    · rw [if_neg hkn, List.getElem?_append_right, o1.1]
      · have : k * q + f - n * q = (k - n) * q + f := by
          have h : n * q ≤ k * q := Nat.mul_le_mul_right _ (by omega)
          rw [Nat.sub_mul]; omega
        rw [this]
        exact flat_get hq V2 (by omega) hf
      · rw [o1.1]
        have : n * q ≤ k * q := Nat.mul_le_mul_right _ (by omega)
        omega
theorem wp_append_Rd {o : Oper} {a : Act} {K : Act → World → Prop} {Q : Exit → Act → World → Prop} (s x : Operand) (t : TypeId)
    (ho : o.op = .call { callee := .builtin .append, args := #[s, x], argTypes := #[t, t] })
    (base : Nat) (e : TypeId) (i : TypeInfo) (z : Value) (q bytes : Nat) (ht : P.underlying t = some (.slice e)) (hi : P.info? e = some i) (hz : i.zero = some z)
    (hsize : i.size = q) (hby : i.bytes = bytes) (hzs : z.cells.size = q) (hq : 0 < q)
    {A A2 : Option Addr} {n c m c2 : Nat} {V V2 : Nat → Nat → Value} (hs : a.eval s = .slice A n c) (own : Own w base e q A n c V) (hx : a.eval x = .slice A2 m c2) (src : Rd w q A2 m c2 V2) (h1 : ∀ i j, (V2 i j).oneCell' = true)
    (h63 : n + m ≤ 9223372036854775807) (hbytes : (n + m) * bytes ≤ 140737488355328) (hbase : base ≤ w.heap.size)
    (h : ∀ A' c' w', Own w' base e q A' (n + m) c' (app n V V2) → w.grownBy w' (ob A) → (ob A' = ob A ∨ ob A' = some w.heap.size) → K (a.put o.dst (.slice A' (n + m) c')) w') : o.wp P a w K Q := by
  obtain ⟨A', c', w', hrun, h2, h3, h4⟩ := run_append_Rd (P := P) w base t o.type e i z q bytes ht hi hz hsize hby hzs hq own src h1 h63 hbytes hbase
  unfold Oper.wp execOp
  simp only [ho, resolve, invoke, builtin, Sem.run_bind, Sem.run_pure, Result.andThen_ok, List.map_toArray, List.map_cons, List.map_nil, hs, hx, hrun]
  exact h A' c' w' h2 h3 h4
theorem wpList_append_Rd {ops : Array Oper} {rest : List Oper} {o : Oper} {a : Act} {Q : Exit → Act → World → Prop} (hgd : o.guard = none) (s x : Operand) (t : TypeId)
    (ho : o.op = .call { callee := .builtin .append, args := #[s, x], argTypes := #[t, t] })
    (base : Nat) (e : TypeId) (i : TypeInfo) (z : Value) (q bytes : Nat) (ht : P.underlying t = some (.slice e)) (hi : P.info? e = some i) (hz : i.zero = some z)
    (hsize : i.size = q) (hby : i.bytes = bytes) (hzs : z.cells.size = q) (hq : 0 < q)
    {A A2 : Option Addr} {n c m c2 : Nat} {V V2 : Nat → Nat → Value} (hs : a.eval s = .slice A n c) (own : Own w base e q A n c V) (hx : a.eval x = .slice A2 m c2) (src : Rd w q A2 m c2 V2) (h1 : ∀ i j, (V2 i j).oneCell' = true)
    (h63 : n + m ≤ 9223372036854775807) (hbytes : (n + m) * bytes ≤ 140737488355328) (hbase : base ≤ w.heap.size)
    (h : ∀ A' c' w', Own w' base e q A' (n + m) c' (app n V V2) → w.grownBy w' (ob A) → (ob A' = ob A ∨ ob A' = some w.heap.size) → wpList P ops Q rest (a.put o.dst (.slice A' (n + m) c')) w') : wpList P ops Q (o :: rest) a w :=
  wpList_plain hgd fun _ hK => wp_append_Rd w s x t ho base e i z q bytes ht hi hz hsize hby hzs hq hs own hx src h1 h63 hbytes hbase fun A' c' w' h2 h3 h4 => hK _ _ (h A' c' w' h2 h3 h4)
end
theorem one_iv (N : Nat → Nat → Int) : ∀ i j, (iv N i j).oneCell' = true := fun _ _ => rfl
theorem one_nv (N : Nat → Int) : ∀ i j, (nv N i j).oneCell' = true := fun _ _ => rfl
end Go.Proofs.Ytoeklllahpegfaa
/-
  From opened arguments to slices that read.
-/
namespace Go.Proofs.Ytoeklllahpegfaa
set_option linter.unusedVariables false
set_option linter.unusedSimpArgs false
open Go.RowKit
theorem rd1 {w : World} {A : Option Addr} {n c : Nat} {N : Nat → Nat → Int} (hlc : n ≤ c) (hcm : c ≤ maxLen)
    (hrw : 0 < n → ∃ b off : Nat, A = some ⟨b, off, none⟩ ∧ b < w.heap.size ∧ ∀ i j k, i < n → [IntKind.i64][j]? = some k → w.cell? ⟨b, off + (i * (([] : List IntKind).length + 1) + j), none⟩ = some (.int k (N i j))) : Rd w 1 A n c (nv fun i => N i 0) :=
  ⟨hlc, by rw [maxLen_eq] at hcm; exact hcm, fun hn => by
    obtain ⟨b, off, e, hl, hc⟩ := hrw hn
    refine ⟨b, off, e, hl, fun i j hi hj => ?_⟩
    obtain rfl : j = 0 := by omega
    have := hc i 0 .i64 hi rfl
    rw [← Nat.add_assoc] at this
    exact this⟩
theorem rd2 {w : World} {A : Option Addr} {n c : Nat} {N : Nat → Nat → Int} (hlc : n ≤ c) (hcm : c ≤ maxLen)
    (hrw : 0 < n → ∃ b off : Nat, A = some ⟨b, off, none⟩ ∧ b < w.heap.size ∧ ∀ i j k, i < n → [IntKind.i64, IntKind.i64][j]? = some k → w.cell? ⟨b, off + (i * ([IntKind.i64].length + 1) + j), none⟩ = some (.int k (N i j))) : Rd w 2 A n c (iv N) :=
  ⟨hlc, by rw [maxLen_eq] at hcm; exact hcm, fun hn => by
    obtain ⟨b, off, e, hl, hc⟩ := hrw hn
    refine ⟨b, off, e, hl, fun i j hi hj => ?_⟩
    have := hc i j .i64 hi (by match j, hj with | 0, _ => rfl | 1, _ => rfl)
    rw [← Nat.add_assoc] at this
    exact this⟩
theorem rd3 {w : World} {A : Option Addr} {n c : Nat} {N : Nat → Nat → Int} (hlc : n ≤ c) (hcm : c ≤ maxLen)
    (hrw : 0 < n → ∃ b off : Nat, A = some ⟨b, off, none⟩ ∧ b < w.heap.size ∧ ∀ i j k, i < n → [IntKind.i64, IntKind.i64, IntKind.i64][j]? = some k → w.cell? ⟨b, off + (i * ([IntKind.i64, IntKind.i64].length + 1) + j), none⟩ = some (.int k (N i j))) : Rd w 3 A n c (iv N) :=
  ⟨hlc, by rw [maxLen_eq] at hcm; exact hcm, fun hn => by
    obtain ⟨b, off, e, hl, hc⟩ := hrw hn
    refine ⟨b, off, e, hl, fun i j hi hj => ?_⟩
    have := hc i j .i64 hi (by match j, hj with | 0, _ => rfl | 1, _ => rfl | 2, _ => rfl)
    rw [← Nat.add_assoc] at this
    exact this⟩
end Go.Proofs.Ytoeklllahpegfaa
/-
  Arguments that are structs of integers, structs and slices of plain elements.
-/
namespace Go.Proofs.Ytoeklllahpegfaa
set_option linter.unusedVariables false
set_option linter.unusedSimpArgs false
open Go.ChangeShapes Go.WideShapes Go.ChangeAt Go.RowKit Go.Deep

/-- The cells of a type: an integer of a kind, or a slice whose elements are integers of these kinds. -/
inductive Sort1 where
  | num (k : IntKind)
  | row (ks : List IntKind)
def mixFields (r : TypeId → Option (List Sort1)) (P : Program) : Nat → List Field → Option (List Sort1)
  | _, [] => some []
  | o, f :: fs => match r f.type, mixFields r P (o + P.cellsOf f.type) fs with
    | some a, some b => if f.offset = o ∧ P.cellsOf f.type = a.length then some (a ++ b) else none
    | _, _ => none
def mix (P : Program) : Nat → TypeId → Option (List Sort1)
  | 0, _ => none
  | n + 1, t => match P.underlying t with
    | some (.int k) => some [.num k]
    | some (.slice e) => match flat P n e with
      | some ks => if P.cellsOf e = ks.length then some [.row ks] else none
      | none => none
    | some (.struct fs) => match mixFields (mix P n) P 0 fs.toList with
      | some ks => if P.cellsOf t = ks.length then some ks else none
      | none => none
    | _ => none
def RowOf (w : World) (ks : List IntKind) (v : Value) : Prop :=
  v = .slice none 0 0 ∨ ∃ (a : Addr) (len cap : Nat) (el : Nat → List Value), v = .slice (some a) len cap ∧ len ≤ cap ∧ cap ≤ maxLen ∧
    ∀ i, i < len → Ints ks (el i) ∧ ∀ j, j < ks.length → w.cell? (a.add (i * ks.length + j)) = (el i)[j]?
def Mix (w : World) : List Sort1 → List Value → Prop
  | [], [] => True
  | .num k :: ks, v :: vs => (∃ n : Int, v = .int k n ∧ (Lit.int k n).wf = true) ∧ Mix w ks vs
  | .row ls :: ks, v :: vs => RowOf w ls v ∧ Mix w ks vs
  | _, _ => False
theorem Mix.append {w : World} : ∀ {a b : List Sort1} {x y : List Value}, Mix w a x → Mix w b y → Mix w (a ++ b) (x ++ y)
  | [], _, [], _, _, h => h
  | .num _ :: _, _, _ :: _, _, ⟨h1, h2⟩, h => ⟨h1, Mix.append h2 h⟩
  | .row _ :: _, _, _ :: _, _, ⟨h1, h2⟩, h => ⟨h1, Mix.append h2 h⟩
section
variable {H : Type} {enc : TypeId × Value → H} {P : Program} {w : World} {base : Nat} {spare : Nat → Bool} {held : Bool}
theorem fields_mix {r : TypeId → Option (List Sort1)} {m : Nat} {cs : List Value} {xs : List (DataW H × List MemPlace)}
    (hr : ∀ t ks cs' x, r t = some ks → DataW.trod enc P w base spare held m t cs' = some x → Mix w ks cs') :
    ∀ (fs : List Field) (o i0 : Nat) (ks : List Sort1), mixFields r P o fs = some ks → cs.length = o + ks.length → xs.length = i0 + fs.length →
      (∀ j f, fs[j]? = some f → DataW.trod enc P w base spare held m f.type ((cs.drop f.offset).take (P.cellsOf f.type)) = xs[i0 + j]?) → Mix w ks (cs.drop o) := by
  intro fs
  induction fs with
  | nil =>
    intro o i0 ks h hc _ _
    simp only [mixFields, Option.some.injEq] at h
    subst h
    have : cs.drop o = [] := List.drop_eq_nil_of_le (by simpa using Nat.le_of_eq hc)
    rw [this]; exact trivial
  | cons f fs ih =>
    intro o i0 ks h hc hx hf
    simp only [mixFields] at h
    split at h
    · rename_i a b ha hb
      split at h
      · rename_i hcond
        obtain ⟨ho, hl⟩ := hcond
        simp only [Option.some.injEq] at h
        subst h
        have hlen : xs.length = i0 + (fs.length + 1) := by simpa using hx
        have h0 := hf 0 f rfl
        have hget : xs[i0 + 0]? = some (xs[i0]'(by omega)) := by simp [List.getElem?_eq_getElem (show i0 < xs.length by omega)]
        rw [hget, ho, hl] at h0
        have hA := hr _ _ _ _ ha h0
        rw [hl] at hb
        have hB := ih (o + a.length) (i0 + 1) b hb (by rw [hc, List.length_append]; omega) (by omega) (fun j g hg => by
          have := hf (j + 1) g (by simpa using hg)
          rw [this]; congr 1; omega)
        have e : cs.drop o = (cs.drop o).take a.length ++ cs.drop (o + a.length) := by
          rw [← List.drop_drop]; exact (List.take_append_drop _ _).symm
        rw [e]
        exact hA.append hB
      · cases h
    · cases h
theorem trod_row {t e : TypeId} {ks : List IntKind} {n fuel : Nat} {cs : List Value} {x : DataW H × List MemPlace} (ht : P.underlying t = some (.slice e)) (hk : flat P n e = some ks) (hC : P.cellsOf e = ks.length)
    (hf : DataW.trod enc P w base spare held fuel t cs = some x) : ∃ v, cs = [v] ∧ RowOf w ks v := by
  rcases open_slice ht hf with ⟨hcs, _⟩ | ⟨a, l0, c0, m, n', D, Pl, hcs, hb, hl, hm, hmm, hx, hi⟩
  · exact ⟨_, hcs, .inl rfl⟩
  · refine ⟨_, hcs, .inr ?_⟩
    have hlm : l0 ≤ m := by rw [hmm]; split <;> omega
    have hex : ∀ i, ∃ cs' : List Value, i < l0 → Ints ks cs' ∧ ∀ j, j < ks.length → w.cell? (a.add (i * ks.length + j)) = cs'[j]? := by
      intro i
      by_cases hil : i < l0
      · obtain ⟨cs', hc, ht'⟩ := hi i (by omega)
        refine ⟨cs', fun _ => ⟨trod_flat n e ks n' cs' _ hk ht', fun j hj => ?_⟩⟩
        obtain ⟨_, _, hat⟩ := World.cells?_some hc
        have := hat j (by rw [hC]; exact hj)
        rw [Go.Deep.add_add, hC] at this
        exact this
      · exact ⟨[], fun h => absurd h hil⟩
    exact ⟨a, l0, c0, fun i => Classical.choose (hex i), rfl, hl, hm, fun i hil => Classical.choose_spec (hex i) hil⟩
theorem trod_mix : ∀ (n : Nat) (t : TypeId) (ks : List Sort1) (fuel : Nat) (cs : List Value) (x : DataW H × List MemPlace), mix P n t = some ks → DataW.trod enc P w base spare held fuel t cs = some x → Mix w ks cs := by
  intro n
  induction n with
  | zero => intro t ks fuel cs x h; simp [mix] at h
  | succ n ih =>
    intro t ks fuel cs x h hf
    simp only [mix] at h
    split at h
    · rename_i k hu
      simp only [Option.some.injEq] at h
      subst h
      obtain ⟨a, rfl, _, hw⟩ := DataW.trod_int hu hf
      exact ⟨⟨a, rfl, hw⟩, trivial⟩
    · rename_i e hu
      split at h
      · rename_i ls hk
        split at h
        · rename_i hc
          simp only [Option.some.injEq] at h
          subst h
          obtain ⟨v, rfl, hv⟩ := trod_row hu hk hc hf
          exact ⟨hv, trivial⟩
        · cases h
      · cases h
    · rename_i fs hu
      split at h
      · rename_i ks' hk
        split at h
        · rename_i hc
          simp only [Option.some.injEq] at h
          subst h
          obtain ⟨xs, m, _, _, hl, hlen, hg⟩ := DataW.trod_struct hu hf
          have := fields_mix (cs := cs) (xs := xs) (m := m) (fun t ks cs' x a b => ih t ks m cs' x a b) fs.toList 0 0 ks' hk (by rw [hl, hc]; simp) (by rw [hlen]; simp) (fun j f hj => by
            rw [Nat.zero_add]; exact hg j f (by simpa using hj))
          simpa using this
        · cases h
      · cases h
    · cases h
/-- A struct by value. -/
theorem open_mix {r : Reach} {b0 : Nat} {t : TypeId} {n : Nat} {ks : List Sort1} {v : Value} {d : DataW H} {p : List MemPlace} (hk : mix P n t = some ks)
    (hs : (match P.underlying t with | some (.struct _) | some (.array _ _) => true | _ => false) = true) (hv : Value.okWide P w r b0 t v) (h : DataW.Trod enc P w base spare held t v d p) :
    ∃ cs : List Value, v = .agg cs.toArray ∧ Mix w ks cs := by
  have ⟨cs, hcs⟩ : ∃ cs : Array Value, v = .agg cs := by
    unfold Value.okWide at hv
    split at hv
    · obtain ⟨cs, rfl, _⟩ := hv; exact ⟨cs, rfl⟩
    · obtain ⟨cs, rfl, _⟩ := hv; exact ⟨cs, rfl⟩
    · rename_i h1 h2
      split at hs
      · rename_i fs hu; exact absurd hu (h1 fs)
      · rename_i m e hu; exact absurd hu (h2 m e)
      · cases hs
  subst hcs
  obtain ⟨fuel, hf⟩ := h
  refine ⟨cs.toList, by simp, ?_⟩
  exact trod_mix n t ks fuel _ _ hk (by simpa [Value.cells] using hf)
end
theorem mix_num {w : World} {k : IntKind} {ks : List Sort1} {cs : List Value} (h : Mix w (.num k :: ks) cs) : ∃ (a : Int) (cs' : List Value), cs = .int k a :: cs' ∧ (Lit.int k a).wf = true ∧ Mix w ks cs' := by
  cases cs with
  | nil => exact h.elim
  | cons c cs => obtain ⟨⟨a, rfl, hw⟩, h2⟩ := h; exact ⟨a, cs, rfl, hw, h2⟩
theorem mix_nil {w : World} {cs : List Value} (h : Mix w [] cs) : cs = [] := by
  cases cs with
  | nil => rfl
  | cons c cs => exact h.elim
/-- A slice among the cells, as a table of numbers. -/
theorem mix_row {w : World} {k0 : IntKind} {ls : List IntKind} {ks : List Sort1} {cs : List Value} (h : Mix w (.row (k0 :: ls) :: ks) cs) :
    ∃ (A : Option Addr) (len cap : Nat) (N : Nat → Nat → Int) (cs' : List Value), cs = .slice A len cap :: cs' ∧ len ≤ cap ∧ cap ≤ maxLen ∧ (∀ i j k, i < len → (k0 :: ls)[j]? = some k → (Lit.int k (N i j)).wf = true) ∧
      (0 < len → ∃ b off : Nat, A = some ⟨b, off, none⟩ ∧ b < w.heap.size ∧ ∀ i j k, i < len → (k0 :: ls)[j]? = some k → w.cell? ⟨b, off + (i * (ls.length + 1) + j), none⟩ = some (.int k (N i j))) ∧ Mix w ks cs' := by
  cases cs with
  | nil => exact h.elim
  | cons c cs =>
    obtain ⟨h1, h2⟩ := h
    rcases h1 with rfl | ⟨a, len, cap, el, rfl, hl, hc, hel⟩
    · exact ⟨none, 0, 0, fun _ _ => 0, cs, rfl, Nat.le_refl _, by unfold maxLen; omega, fun i j k hi => absurd hi (by omega), fun h => absurd h (by omega), h2⟩
    · refine ⟨some a, len, cap, fun i j => numOf (el i)[j]?, cs, rfl, hl, hc, fun i j k hi hj => ?_, fun hpos => ?_, h2⟩
      · obtain ⟨x, h1, h2⟩ := (hel i hi).1.get hj
        show (Lit.int k (numOf (el i)[j]?)).wf = true
        rw [h1]; exact h2
      · obtain ⟨x0, g1, _⟩ := (hel 0 hpos).1.get (j := 0) (k := k0) rfl
        have g0 := (hel 0 hpos).2 0 (by simp)
        obtain ⟨b, off, spot⟩ := a
        have hspot : spot = none := by simpa [Addr.add] using World.cell?_spot (g0.trans g1)
        subst hspot
        refine ⟨b, off, rfl, World.block_lt_of_cell? w _ (by simpa [Addr.add] using g0.trans g1), fun i j k hi hj => ?_⟩
        obtain ⟨x, h1, h2⟩ := (hel i hi).1.get hj
        have hjl : j < (k0 :: ls).length := (List.getElem?_eq_some_iff.1 hj).1
        have := (hel i hi).2 j hjl
        rw [Go.WideShapes.add_plain, h1] at this
        show w.cell? ⟨b, off + (i * (ls.length + 1) + j), none⟩ = some (.int k (numOf (el i)[j]?))
        rw [h1]
        have q : w.cell? ⟨b, off + (i * (ls.length + 1) + j), none⟩ = some (.int k x) := by simpa using this
        exact q
end Go.Proofs.Ytoeklllahpegfaa
/-
  Slices of the call's own, second part: rows of one cell, make.
-/
namespace Go.Proofs.Ytoeklllahpegfaa
set_option linter.unusedVariables false
set_option linter.unusedSimpArgs false
open Go.RowKit
section
variable {w w' : World} {base : Nat} {e : TypeId} {A : Option Addr} {n c : Nat} {V : Nat → Nat → Value}
theorem Own.cell1 {g : Nat} {N : Nat → Int} (h : Own w base e 1 (some ⟨g, 0, none⟩) n c (nv N)) {i : Nat} (hi : i < n) : w.cell? ⟨g, i, none⟩ = some (.int .i64 (N i)) := by
  have := h.cell hi (show 0 < 1 by omega)
  rw [Nat.mul_one, Nat.add_zero] at this; exact this
theorem Own.set1 {g : Nat} {N N' : Nat → Int} (h : Own w base e 1 (some ⟨g, 0, none⟩) n c (nv N)) {i : Nat} (hi : i < n) (u : Int) (hu : N' i = u) (hv : ∀ i', i' < n → i' ≠ i → N' i' = N i') :
    Own (w.setCell ⟨g, i, none⟩ (.int .i64 u)) base e 1 (some ⟨g, 0, none⟩) n c (nv N') := by
  have := h.set (V' := nv N') hi (show 0 < 1 by omega) (.int .i64 u) (by simp [nv, hu]) (fun i' j' h1 h2 h3 => by unfold nv; rw [hv i' h1 (by omega)])
  rw [Nat.mul_one, Nat.add_zero] at this; exact this
theorem made_get (z : Array Value) (k j : Nat) (hj : j < k) : (madeCells z k).toList[j]? = some (z[j % z.size]!) := by
  simp [madeCells, hj]
theorem Own.made {z : Array Value} {q : Nat} (w : World) (e : TypeId) (n : Nat) (hz : z.size = q) (hq : 0 < q) (hm : n ≤ 9223372036854775807) (hb : base ≤ w.heap.size) (hv : ∀ i j, i < n → j < q → z[j]! = V i j) :
    Own (w.alloc (.cells (madeCells z (n * q)) e)) base e q (some ⟨w.heap.size, 0, none⟩) n n V := by
  refine ⟨_, World.ownsRow_lit (size := q) w (madeCells z (n * q)) n hb (by rw [maxLen_eq]; exact hm) (by rw [size_madeCells]), fun i j hi hj => ?_⟩
  have hlt : i * q + j < n * q := by
    have : (i + 1) * q ≤ n * q := Nat.mul_le_mul_right _ hi
    rw [Nat.add_mul] at this; omega
  rw [made_get _ _ _ hlt, hz]
  have d2 : (i * q + j) % q = j := by rw [Nat.mul_comm, Nat.mul_add_mod, Nat.mod_eq_of_lt hj]
  rw [d2, hv i j hi hj]
end
theorem run_make_n {P : Program} {t e : TypeId} {i : TypeInfo} {z : Value} {q bytes : Nat} (ht : P.underlying t = some (.slice e)) (hi : P.info? e = some i) (hz : i.zero = some z) (hs : i.size = q) (hb : i.bytes = bytes)
    (n : Nat) (hbytes : bytes * n ≤ 281474976710656) (h63 : n ≤ 9223372036854775807) (w : World) :
    (Instr.makeSlice t (.int .i64 (n : Int)) (.int .i64 (n : Int))).run P w = .ok (.slice (some ⟨w.heap.size, 0, none⟩) n n) (w.alloc (.cells (madeCells z.cells (n * q)) e)) := by
  subst hs hb
  have h : (i.bytes : Int) * (n : Int) ≤ 281474976710656 := by
    have h : ((i.bytes * n : Nat) : Int) ≤ 281474976710656 := by omega
    rwa [Int.natCast_mul] at h
  have hr := run_make (P := P) w t e i z ht hi hz .i64 .i64 n n (by omega) (by omega) h (by omega)
  simp only [Int.toNat_natCast] at hr
  exact hr
end Go.Proofs.Ytoeklllahpegfaa
/-
  Slices of slices of numbers: a table that reads.
-/
namespace Go.Proofs.Ytoeklllahpegfaa
set_option linter.unusedVariables false
set_option linter.unusedSimpArgs false
open Go.RowKit
/-- A slice of n slices; row i has ln i numbers, T i 0, T i 1, .. -/
structure Tb (w : World) (A : Option Addr) (n c : Nat) (ln : Nat → Nat) (T : Nat → Nat → Int) : Prop where
  rows : ∃ (X : Nat → Option Addr) (cp : Nat → Nat), Rd w 1 A n c (fun i _ => .slice (X i) (ln i) (cp i)) ∧ ∀ i, i < n → Rd w 1 (X i) (ln i) (cp i) (nv (T i))
section
variable {w w' : World} {A : Option Addr} {n c : Nat} {ln : Nat → Nat} {T : Nat → Nat → Int}
theorem Tb.le (h : Tb w A n c ln T) : n ≤ c := by obtain ⟨_, _, h1, _⟩ := h.rows; exact h1.le
theorem Tb.mx (h : Tb w A n c ln T) : c ≤ 9223372036854775807 := by obtain ⟨_, _, h1, _⟩ := h.rows; exact h1.mx
theorem Tb.keep (h : Tb w A n c ln T) (hb : Below w.heap.size w w') : Tb w' A n c ln T := by
  obtain ⟨X, cp, h1, h2⟩ := h.rows
  exact ⟨X, cp, h1.keep hb, fun i hi => (h2 i hi).keep hb⟩
theorem Tb.at1 (h : Tb w A n c ln T) {k : Nat} (hk : k < n) : ∃ (b off : Nat) (X : Option Addr) (cp : Nat), A = some ⟨b, off, none⟩ ∧ b < w.heap.size ∧ w.cell? ⟨b, off + k, none⟩ = some (.slice X (ln k) cp) ∧ Rd w 1 X (ln k) cp (nv (T k)) := by
  obtain ⟨X, cp, h1, h2⟩ := h.rows
  obtain ⟨b, off, e, hl, hc⟩ := h1.at_ (by omega)
  refine ⟨b, off, X k, cp k, e, hl, ?_, h2 k hk⟩
  have := hc k 0 hk (by omega)
  rw [Nat.mul_one, Nat.add_zero] at this
  exact this
theorem Tb.at1' {b off : Nat} (h : Tb w (some ⟨b, off, none⟩) n c ln T) {k : Nat} (hk : k < n) : ∃ (X : Option Addr) (cp : Nat), w.cell? ⟨b, off + k, none⟩ = some (.slice X (ln k) cp) ∧ Rd w 1 X (ln k) cp (nv (T k)) := by
  obtain ⟨b', off', X, cp, e, _, h1, h2⟩ := h.at1 hk
  injection e with e
  injection e with e1 e2
  subst e1 e2
  exact ⟨X, cp, h1, h2⟩
end
theorem Rd.s1o {w : World} {b off n c : Nat} {N : Nat → Int} (h : Rd w 1 (some ⟨b, off, none⟩) n c (nv N)) {k : Nat} (hk : k < n) : b < w.heap.size ∧ w.cell? ⟨b, off + k, none⟩ = some (.int .i64 (N k)) := by
  obtain ⟨b', off', e, hl, hc⟩ := h.at1 hk
  injection e with e
  injection e with e1 e2
  subst e1 e2
  exact ⟨hl, hc⟩
end Go.Proofs.Ytoeklllahpegfaa
/-
  Performance tables as data, and the memory that holds them.
-/
namespace Go.Proofs.Ytoeklllahpegfaa
set_option linter.unusedVariables false
set_option linter.unusedSimpArgs false
open Go.RowKit

/-- Performance tables as data. -/
structure PD where
  nm : ByteArray
  (em fu rf xt ce : Int)
  (na nM nD nI nX nN nC nF nR : Nat)
  (al ma dD dI dX dN : Nat → Int)
  (lC lF lR : Nat → Nat)
  (tC tF tR : Nat → Nat → Int)
/-- Where they lie, with the capacities. -/
structure PA where
  (al ma dD dI dX dN tC tF tR : Option Addr)
  (alc mac dDc dIc dXc dNc tCc tFc tRc : Nat)
structure PIn (w : World) (P : PD) (Q : PA) : Prop where
  nm : P.nm.size ≤ 9223372036854775807
  al : Rd w 1 Q.al P.na Q.alc (nv P.al)
  ma : Rd w 1 Q.ma P.nM Q.mac (nv P.ma)
  dD : Rd w 1 Q.dD P.nD Q.dDc (nv P.dD)
  dI : Rd w 1 Q.dI P.nI Q.dIc (nv P.dI)
  dX : Rd w 1 Q.dX P.nX Q.dXc (nv P.dX)
  dN : Rd w 1 Q.dN P.nN Q.dNc (nv P.dN)
  tC : Tb w Q.tC P.nC Q.tCc P.lC P.tC
  tF : Tb w Q.tF P.nF Q.tFc P.lF P.tF
  tR : Tb w Q.tR P.nR Q.tRc P.lR P.tR
theorem PIn.keep {w w' : World} {P : PD} {Q : PA} (h : PIn w P Q) (hb : Below w.heap.size w w') : PIn w' P Q :=
  ⟨h.nm, h.al.keep hb, h.ma.keep hb, h.dD.keep hb, h.dI.keep hb, h.dX.keep hb, h.dN.keep hb, h.tC.keep hb, h.tF.keep hb, h.tR.keep hb⟩
theorem Blk.open15 {w : World} {g : Nat} {t : TypeId} {a0 a1 a2 a3 a4 a5 a6 a7 a8 a9 a10 a11 a12 a13 a14 : Value} (h : Blk w g t #[a0, a1, a2, a3, a4, a5, a6, a7, a8, a9, a10, a11, a12, a13, a14]) : w.cell? ⟨g, 0, none⟩ = some a0 ∧ w.cell? ⟨g, 1, none⟩ = some a1 ∧ w.cell? ⟨g, 2, none⟩ = some a2 ∧ w.cell? ⟨g, 3, none⟩ = some a3 ∧ w.cell? ⟨g, 4, none⟩ = some a4 ∧ w.cell? ⟨g, 5, none⟩ = some a5 ∧ w.cell? ⟨g, 6, none⟩ = some a6 ∧ w.cell? ⟨g, 7, none⟩ = some a7 ∧ w.cell? ⟨g, 8, none⟩ = some a8 ∧ w.cell? ⟨g, 9, none⟩ = some a9 ∧ w.cell? ⟨g, 10, none⟩ = some a10 ∧ w.cell? ⟨g, 11, none⟩ = some a11 ∧ w.cell? ⟨g, 12, none⟩ = some a12 ∧ w.cell? ⟨g, 13, none⟩ = some a13 ∧ w.cell? ⟨g, 14, none⟩ = some a14 ∧ (∀ o, w.frozen? ⟨g, o, none⟩ = false) ∧ g < w.heap.size :=
  ⟨h.cell 0, h.cell 1, h.cell 2, h.cell 3, h.cell 4, h.cell 5, h.cell 6, h.cell 7, h.cell 8, h.cell 9, h.cell 10, h.cell 11, h.cell 12, h.cell 13, h.cell 14, h.frozen, h.lt⟩
theorem Blk.open24 {w : World} {g : Nat} {t : TypeId} {a0 a1 a2 a3 a4 a5 a6 a7 a8 a9 a10 a11 a12 a13 a14 a15 a16 a17 a18 a19 a20 a21 a22 a23 : Value} (h : Blk w g t #[a0, a1, a2, a3, a4, a5, a6, a7, a8, a9, a10, a11, a12, a13, a14, a15, a16, a17, a18, a19, a20, a21, a22, a23]) : w.cell? ⟨g, 0, none⟩ = some a0 ∧ w.cell? ⟨g, 1, none⟩ = some a1 ∧ w.cell? ⟨g, 2, none⟩ = some a2 ∧ w.cell? ⟨g, 3, none⟩ = some a3 ∧ w.cell? ⟨g, 4, none⟩ = some a4 ∧ w.cell? ⟨g, 5, none⟩ = some a5 ∧ w.cell? ⟨g, 6, none⟩ = some a6 ∧ w.cell? ⟨g, 7, none⟩ = some a7 ∧ w.cell? ⟨g, 8, none⟩ = some a8 ∧ w.cell? ⟨g, 9, none⟩ = some a9 ∧ w.cell? ⟨g, 10, none⟩ = some a10 ∧ w.cell? ⟨g, 11, none⟩ = some a11 ∧ w.cell? ⟨g, 12, none⟩ = some a12 ∧ w.cell? ⟨g, 13, none⟩ = some a13 ∧ w.cell? ⟨g, 14, none⟩ = some a14 ∧ w.cell? ⟨g, 15, none⟩ = some a15 ∧ w.cell? ⟨g, 16, none⟩ = some a16 ∧ w.cell? ⟨g, 17, none⟩ = some a17 ∧ w.cell? ⟨g, 18, none⟩ = some a18 ∧ w.cell? ⟨g, 19, none⟩ = some a19 ∧ w.cell? ⟨g, 20, none⟩ = some a20 ∧ w.cell? ⟨g, 21, none⟩ = some a21 ∧ w.cell? ⟨g, 22, none⟩ = some a22 ∧ w.cell? ⟨g, 23, none⟩ = some a23 ∧ (∀ o, w.frozen? ⟨g, o, none⟩ = false) ∧ g < w.heap.size :=
  ⟨h.cell 0, h.cell 1, h.cell 2, h.cell 3, h.cell 4, h.cell 5, h.cell 6, h.cell 7, h.cell 8, h.cell 9, h.cell 10, h.cell 11, h.cell 12, h.cell 13, h.cell 14, h.cell 15, h.cell 16, h.cell 17, h.cell 18, h.cell 19, h.cell 20, h.cell 21, h.cell 22, h.cell 23, h.frozen, h.lt⟩
end Go.Proofs.Ytoeklllahpegfaa
/-
  Plain: tests over the first numbers of a list, of tables; no program in sight.
-/
namespace Go.Proofs.Ytoeklllahpegfaa
set_option linter.unusedVariables false
set_option linter.unusedSimpArgs false
namespace Oz
/-- Whether the first n pass a test. -/
def pre (p : Nat → Bool) : Nat → Bool
  | 0 => true
  | k + 1 => pre p k && p k
theorem pre_iff (p : Nat → Bool) : ∀ n, pre p n = true ↔ ∀ i, i < n → p i = true
  | 0 => by simp [pre]
  | k + 1 => by
    rw [pre, Bool.and_eq_true, pre_iff p k]
    constructor
    · rintro ⟨h, h2⟩ i hi
      by_cases e : i = k
      · subst e; exact h2
      · exact h i (by omega)
    · intro h
      exact ⟨fun i hi => h i (by omega), h k (by omega)⟩
theorem pre_no {p : Nat → Bool} {n k : Nat} (hk : k < n) (h : p k = false) : pre p n = false := by
  cases e : pre p n
  · rfl
  · have := (pre_iff p n).1 e k hk
    rw [this] at h; cases h
theorem pre_step {p : Nat → Bool} {k : Nat} (h : pre p k = true) (h2 : p k = true) : pre p (k + 1) = true := by rw [pre, h, h2]; rfl
theorem pre_congr {p q : Nat → Bool} : ∀ {n : Nat}, (∀ i, i < n → p i = q i) → pre p n = pre q n
  | 0, _ => rfl
  | k + 1, h => by rw [pre, pre, pre_congr (fun i hi => h i (by omega)), h k (by omega)]
def inB (x lo hi : Int) : Bool := decide (lo ≤ x ∧ x ≤ hi)
theorem inB_iff {x lo hi : Int} : inB x lo hi = true ↔ lo ≤ x ∧ x ≤ hi := decide_eq_true_iff
theorem inB_no {x lo hi : Int} : inB x lo hi = false ↔ ¬ (lo ≤ x ∧ x ≤ hi) := decide_eq_false_iff_not
/-- All from lo to hi. -/
def alB (n : Nat) (v : Nat → Int) (lo hi : Int) : Bool := pre (fun i => inB (v i) lo hi) n
theorem alB_iff {n : Nat} {v : Nat → Int} {lo hi : Int} : alB n v lo hi = true ↔ ∀ i, i < n → lo ≤ v i ∧ v i ≤ hi := by
  unfold alB; rw [pre_iff]; exact ⟨fun h i hi => inB_iff.1 (h i hi), fun h i hi => inB_iff.2 (h i hi)⟩
/-- Strictly ascending. -/
def asP (v : Nat → Int) (i : Nat) : Bool := decide (i = 0 ∨ v (i - 1) < v i)
def asB (n : Nat) (v : Nat → Int) : Bool := pre (asP v) n
/-- None is less than the one ahead (sign 1), none is greater (sign -1). -/
def riP (s : Int) (v : Nat → Int) (i : Nat) : Bool := decide (i = 0 ∨ s * v (i - 1) ≤ s * v i)
def riB (s : Int) (n : Nat) (v : Nat → Int) : Bool := pre (riP s v) n
def lvP (v : Nat → Int) (i : Nat) : Bool := decide (i = 0 ∨ v (i - 1) ≤ v i)
def lvB (n : Nat) (v : Nat → Int) : Bool := pre (lvP v) n
def faP (v : Nat → Int) (i : Nat) : Bool := decide (i = 0 ∨ v i ≤ v (i - 1))
def faB (n : Nat) (v : Nat → Int) : Bool := pre (faP v) n
/-- The same of all rows of a table. -/
def alT (n : Nat) (ln : Nat → Nat) (T : Nat → Nat → Int) (lo hi : Int) : Bool := pre (fun i => alB (ln i) (T i) lo hi) n
def shT (n : Nat) (ln : Nat → Nat) (m : Nat) : Bool := pre (fun i => decide (ln i = m)) n
/-- A test of all places of a table. -/
def grid (p : Nat → Nat → Bool) (n m : Nat) : Bool := pre (fun i => pre (p i) m) n
theorem grid_iff {p : Nat → Nat → Bool} {n m : Nat} : grid p n m = true ↔ ∀ i j, i < n → j < m → p i j = true := by
  unfold grid
  rw [pre_iff]
  exact ⟨fun h i j hi hj => (pre_iff _ _).1 (h i hi) j hj, fun h i hi => (pre_iff _ _).2 fun j hj => h i j hi hj⟩
theorem grid_no {p : Nat → Nat → Bool} {n m i j : Nat} (hi : i < n) (hj : j < m) (h : p i j = false) : grid p n m = false := by
  cases e : grid p n m
  · rfl
  · rw [grid_iff.1 e i j hi hj] at h; cases h
/-- Not less than the number ahead in its row (1), not greater (-1); not greater than the one in the row above. -/
def up1 (T : Nat → Nat → Int) (i j : Nat) : Bool := decide ((j = 0 ∨ T i (j - 1) ≤ T i j) ∧ (i = 0 ∨ T i j ≤ T (i - 1) j))
def upN (T : Nat → Nat → Int) (i j : Nat) : Bool := decide ((j = 0 ∨ T i j ≤ T i (j - 1)) ∧ (i = 0 ∨ T i j ≤ T (i - 1) j))
theorem up1_row {T : Nat → Nat → Int} {n m k : Nat} (hk : k < n) (h : lvB m (T k) = false) : grid (up1 T) n m = false := by
  cases e : grid (up1 T) n m
  · rfl
  · have : lvB m (T k) = true := (pre_iff _ _).2 fun j hj => decide_eq_true (of_decide_eq_true (grid_iff.1 e k j hk hj)).1
    rw [this] at h; cases h
theorem upN_row {T : Nat → Nat → Int} {n m k : Nat} (hk : k < n) (h : faB m (T k) = false) : grid (upN T) n m = false := by
  cases e : grid (upN T) n m
  · rfl
  · have : faB m (T k) = true := (pre_iff _ _).2 fun j hj => decide_eq_true (of_decide_eq_true (grid_iff.1 e k j hk hj)).1
    rw [this] at h; cases h
theorem up1_pre {T : Nat → Nat → Int} {m k : Nat} (h : lvB m (T k) = true) (h2 : ∀ j, j < m → k = 0 ∨ T k j ≤ T (k - 1) j) : pre (up1 T k) m = true :=
  (pre_iff _ _).2 fun j hj => decide_eq_true ⟨of_decide_eq_true ((pre_iff _ _).1 h j hj), h2 j hj⟩
theorem upN_pre {T : Nat → Nat → Int} {m k : Nat} (h : faB m (T k) = true) (h2 : ∀ j, j < m → k = 0 ∨ T k j ≤ T (k - 1) j) : pre (upN T k) m = true :=
  (pre_iff _ _).2 fun j hj => decide_eq_true ⟨of_decide_eq_true ((pre_iff _ _).1 h j hj), h2 j hj⟩
/-- A rate falls by no more than the altitude rises. -/
def ge (al : Nat → Int) (T : Nat → Nat → Int) (i j : Nat) : Bool := decide (i = 0 ∨ T (i - 1) j - T i j ≤ al i - al (i - 1))
def cb (al : Nat → Int) (T : Nat → Nat → Int) (i j : Nat) : Bool := upN T i j && ge al T i j
theorem cb_iff {al : Nat → Int} {T : Nat → Nat → Int} {i j : Nat} : cb al T i j = true ↔ (j = 0 ∨ T i j ≤ T i (j - 1)) ∧ (i = 0 ∨ T i j ≤ T (i - 1) j) ∧ (i = 0 ∨ T (i - 1) j - T i j ≤ al i - al (i - 1)) := by
  unfold cb upN ge
  rw [Bool.and_eq_true, decide_eq_true_iff, decide_eq_true_iff]
  exact ⟨fun h => ⟨h.1.1, h.1.2, h.2⟩, fun h => ⟨⟨h.1, h.2.1⟩, h.2.2⟩⟩
theorem cb_no {al : Nat → Int} {T : Nat → Nat → Int} {i j : Nat} (h : ¬ ((j = 0 ∨ T i j ≤ T i (j - 1)) ∧ (i = 0 ∨ T i j ≤ T (i - 1) j) ∧ (i = 0 ∨ T (i - 1) j - T i j ≤ al i - al (i - 1)))) : cb al T i j = false := by
  cases e : cb al T i j
  · rfl
  · exact absurd (cb_iff.1 e) h
theorem grid_and {p q : Nat → Nat → Bool} {n m : Nat} : grid (fun i j => p i j && q i j) n m = (grid p n m && grid q n m) := by
  cases e : grid p n m <;> cases e2 : grid q n m
  all_goals cases e3 : grid (fun i j => p i j && q i j) n m
  all_goals first | rfl | (exfalso)
  all_goals (try (have h := fun i j hi hj => (grid_iff.1 e3 i j hi hj)); simp only [Bool.and_eq_true] at h)
  · have : grid p n m = true := grid_iff.2 fun i j hi hj => (h i j hi hj).1
    rw [e] at this; cases this
  · have : grid p n m = true := grid_iff.2 fun i j hi hj => (h i j hi hj).1
    rw [e] at this; cases this
  · have : grid q n m = true := grid_iff.2 fun i j hi hj => (h i j hi hj).2
    rw [e2] at this; cases this
  · have : grid (fun i j => p i j && q i j) n m = true := grid_iff.2 fun i j hi hj => by rw [grid_iff.1 e i j hi hj, grid_iff.1 e2 i j hi hj]; rfl
    rw [e3] at this; cases this
/-- The bytes of a text; whether a text is a name. -/
def ch (s : ByteArray) (k : Nat) : Int := if h : k < s.size then (s[k].toNat : Int) else 0
theorem ch_at {s : ByteArray} {k : Nat} (h : k < s.size) : ch s k = (s[k].toNat : Int) := dif_pos h
def azB (c : Int) : Bool := decide ((65 ≤ c ∧ c ≤ 90) ∨ (48 ≤ c ∧ c ≤ 57))
def nmF (s : ByteArray) (most : Int) : Bool := decide (0 < s.size ∧ (s.size : Int) ≤ most ∧ 65 ≤ ch s 0 ∧ ch s 0 ≤ 90)
def nmB (s : ByteArray) (most : Int) : Bool := nmF s most && pre (fun i => azB (ch s i)) s.size
theorem nmB_f {s : ByteArray} {most : Int} (h : nmF s most = false) : nmB s most = false := by unfold nmB; rw [h]; rfl
theorem nmB_t {s : ByteArray} {most : Int} (h : nmF s most = true) : nmB s most = pre (fun i => azB (ch s i)) s.size := by unfold nmB; rw [h]; rfl
end Oz
end Go.Proofs.Ytoeklllahpegfaa
/-
  A problem as data, and the memory that holds it.
-/
namespace Go.Proofs.Ytoeklllahpegfaa
set_option linter.unusedVariables false
set_option linter.unusedSimpArgs false
open Go.RowKit

/-- A problem as data, and where it lies. -/
structure ZD where
  (nd nl ns nt nm : Nat)
  (ds lv sp ms : Nat → Int)
  lt : Nat → Nat
  tl : Nat → Nat → Int
  P : PD
  (ix cc fi la : Int)
structure ZA where
  (ds lv sp tl ms : Option Addr)
  (dsc lvc spc tlc msc : Nat)
  Q : PA
structure ZIn (w : World) (Z : ZD) (Y : ZA) : Prop where
  ds : Rd w 1 Y.ds Z.nd Y.dsc (nv Z.ds)
  lv : Rd w 1 Y.lv Z.nl Y.lvc (nv Z.lv)
  sp : Rd w 1 Y.sp Z.ns Y.spc (nv Z.sp)
  tl : Tb w Y.tl Z.nt Y.tlc Z.lt Z.tl
  ms : Rd w 1 Y.ms Z.nm Y.msc (nv Z.ms)
  P : PIn w Z.P Y.Q
theorem ZIn.keep {w w' : World} {Z : ZD} {Y : ZA} (h : ZIn w Z Y) (hb : Below w.heap.size w w') : ZIn w' Z Y :=
  ⟨h.ds.keep hb, h.lv.keep hb, h.sp.keep hb, h.tl.keep hb, h.ms.keep hb, h.P.keep hb⟩
namespace Oz
def ixB (i n : Int) : Bool := decide (0 ≤ i ∧ i < n)
def knB (Z : ZD) (a b : Int) : Bool := ixB a Z.nl && ixB b Z.ns
def dfW (i j : Int) : Int := if i < j then j - i else i - j
end Oz
end Go.Proofs.Ytoeklllahpegfaa
/-
  Arguments that are structs of integers, strings, slices of integers and slices of such slices; a problem among them.
-/
namespace Go.Proofs.Ytoeklllahpegfaa
set_option linter.unusedVariables false
set_option linter.unusedSimpArgs false
open Go.ChangeShapes Go.WideShapes Go.ChangeAt Go.RowKit Go.Deep

inductive SortT where
  | num
  | str
  | row
  | tab
def mixTFields (r : TypeId → Option (List SortT)) (P : Program) : Nat → List Field → Option (List SortT)
  | _, [] => some []
  | o, f :: fs => match r f.type, mixTFields r P (o + P.cellsOf f.type) fs with
    | some a, some b => if f.offset = o ∧ P.cellsOf f.type = a.length then some (a ++ b) else none
    | _, _ => none
def isI (P : Program) (e : TypeId) : Bool := match P.underlying e with
  | some (.int .i64) => decide (P.cellsOf e = 1)
  | _ => false
def isR (P : Program) (e : TypeId) : Bool := match P.underlying e with
  | some (.slice f) => isI P f && decide (P.cellsOf e = 1)
  | _ => false
def mixT (P : Program) : Nat → TypeId → Option (List SortT)
  | 0, _ => none
  | n + 1, t => match P.underlying t with
    | some (.int .i64) => some [.num]
    | some .string => some [.str]
    | some (.slice e) => if isI P e = true then some [.row] else if isR P e = true then some [.tab] else none
    | some (.struct fs) => match mixTFields (mixT P n) P 0 fs.toList with
      | some ks => if P.cellsOf t = ks.length then some ks else none
      | none => none
    | _ => none
def TabOf (w : World) (v : Value) : Prop :=
  v = .slice none 0 0 ∨ ∃ (a : Addr) (len cap : Nat) (X : Nat → Value), v = .slice (some a) len cap ∧ len ≤ cap ∧ cap ≤ maxLen ∧ ∀ i, i < len → w.cell? (a.add i) = some (X i) ∧ RowOf w [.i64] (X i)
def MixT (w : World) : List SortT → List Value → Prop
  | [], [] => True
  | .num :: ks, v :: vs => (∃ n : Int, v = .int .i64 n ∧ (Lit.int .i64 n).wf = true) ∧ MixT w ks vs
  | .str :: ks, v :: vs => (∃ s : ByteArray, v = .string s ∧ s.size ≤ maxLen) ∧ MixT w ks vs
  | .row :: ks, v :: vs => RowOf w [.i64] v ∧ MixT w ks vs
  | .tab :: ks, v :: vs => TabOf w v ∧ MixT w ks vs
  | _, _ => False
theorem MixT.append {w : World} : ∀ {a b : List SortT} {x y : List Value}, MixT w a x → MixT w b y → MixT w (a ++ b) (x ++ y)
  | [], _, [], _, _, h => h
  | .num :: _, _, _ :: _, _, ⟨h1, h2⟩, h => ⟨h1, MixT.append h2 h⟩
  | .str :: _, _, _ :: _, _, ⟨h1, h2⟩, h => ⟨h1, MixT.append h2 h⟩
  | .row :: _, _, _ :: _, _, ⟨h1, h2⟩, h => ⟨h1, MixT.append h2 h⟩
  | .tab :: _, _, _ :: _, _, ⟨h1, h2⟩, h => ⟨h1, MixT.append h2 h⟩
theorem isI_flat {P : Program} {e : TypeId} (h : isI P e = true) : flat P 1 e = some [.i64] ∧ P.cellsOf e = 1 := by
  unfold isI at h
  split at h
  · rename_i hu
    exact ⟨by simp [flat, hu], of_decide_eq_true h⟩
  · cases h
section
variable {H : Type} {enc : TypeId × Value → H} {P : Program} {w : World} {base : Nat} {spare : Nat → Bool} {held : Bool}
theorem fields_mixT {r : TypeId → Option (List SortT)} {m : Nat} {cs : List Value} {xs : List (DataW H × List MemPlace)}
    (hr : ∀ t ks cs' x, r t = some ks → DataW.trod enc P w base spare held m t cs' = some x → MixT w ks cs') :
    ∀ (fs : List Field) (o i0 : Nat) (ks : List SortT), mixTFields r P o fs = some ks → cs.length = o + ks.length → xs.length = i0 + fs.length →
      (∀ j f, fs[j]? = some f → DataW.trod enc P w base spare held m f.type ((cs.drop f.offset).take (P.cellsOf f.type)) = xs[i0 + j]?) → MixT w ks (cs.drop o) := by
  intro fs
  induction fs with
  | nil =>
    intro o i0 ks h hc _ _
    simp only [mixTFields, Option.some.injEq] at h
    subst h
    have : cs.drop o = [] := List.drop_eq_nil_of_le (by simpa using Nat.le_of_eq hc)
    rw [this]; exact trivial
  | cons f fs ih =>
    intro o i0 ks h hc hx hf
    simp only [mixTFields] at h
    split at h
    · rename_i a b ha hb
      split at h
      · rename_i hcond
        obtain ⟨ho, hl⟩ := hcond
        simp only [Option.some.injEq] at h
        subst h
        have hlen : xs.length = i0 + (fs.length + 1) := by simpa using hx
        have h0 := hf 0 f rfl
        have hget : xs[i0 + 0]? = some (xs[i0]'(by omega)) := by simp [List.getElem?_eq_getElem (show i0 < xs.length by omega)]
        rw [hget, ho, hl] at h0
        have hA := hr _ _ _ _ ha h0
        rw [hl] at hb
        have hB := ih (o + a.length) (i0 + 1) b hb (by rw [hc, List.length_append]; omega) (by omega) (fun j g hg => by
          have := hf (j + 1) g (by simpa using hg)
          rw [this]; congr 1; omega)
        have e : cs.drop o = (cs.drop o).take a.length ++ cs.drop (o + a.length) := by
          rw [← List.drop_drop]; exact (List.take_append_drop _ _).symm
        rw [e]
        exact hA.append hB
      · cases h
    · cases h
theorem trod_tab {t e : TypeId} {fuel : Nat} {cs : List Value} {x : DataW H × List MemPlace} (ht : P.underlying t = some (.slice e)) (hR : isR P e = true)
    (hf : DataW.trod enc P w base spare held fuel t cs = some x) : ∃ v, cs = [v] ∧ TabOf w v := by
  unfold isR at hR
  split at hR
  · rename_i f he
    rw [Bool.and_eq_true] at hR
    obtain ⟨hI, hC⟩ := hR
    have hC := of_decide_eq_true hC
    obtain ⟨hk, hCf⟩ := isI_flat hI
    rcases open_slice ht hf with ⟨hcs, _⟩ | ⟨a, l0, c0, m, n', D, Pl, hcs, hb, hl, hm, hmm, hx, hi⟩
    · exact ⟨_, hcs, .inl rfl⟩
    · refine ⟨_, hcs, .inr ?_⟩
      have hlm : l0 ≤ m := by rw [hmm]; split <;> omega
      have hex : ∀ i, ∃ v : Value, i < l0 → w.cell? (a.add i) = some v ∧ RowOf w [.i64] v := by
        intro i
        by_cases hil : i < l0
        · obtain ⟨cs', hc, ht'⟩ := hi i (by omega)
          obtain ⟨v, rfl, hv⟩ := trod_row he hk hCf ht'
          refine ⟨v, fun _ => ⟨?_, hv⟩⟩
          obtain ⟨_, _, hat⟩ := World.cells?_some hc
          have := hat 0 (by rw [hC]; omega)
          rw [Go.Deep.add_add, hC] at this
          simpa using this
        · exact ⟨undef, fun h => absurd h hil⟩
      exact ⟨a, l0, c0, fun i => Classical.choose (hex i), rfl, hl, hm, fun i hil => Classical.choose_spec (hex i) hil⟩
  · cases hR
theorem trod_mixT : ∀ (n : Nat) (t : TypeId) (ks : List SortT) (fuel : Nat) (cs : List Value) (x : DataW H × List MemPlace), mixT P n t = some ks → DataW.trod enc P w base spare held fuel t cs = some x → MixT w ks cs := by
  intro n
  induction n with
  | zero => intro t ks fuel cs x h; simp [mixT] at h
  | succ n ih =>
    intro t ks fuel cs x h hf
    simp only [mixT] at h
    split at h
    · rename_i hu
      simp only [Option.some.injEq] at h
      subst h
      obtain ⟨a, rfl, _, hw⟩ := DataW.trod_int hu hf
      exact ⟨⟨a, rfl, hw⟩, trivial⟩
    · rename_i hu
      simp only [Option.some.injEq] at h
      subst h
      obtain ⟨a, rfl, _, hw⟩ := DataW.trod_string hu hf
      exact ⟨⟨a, rfl, hw⟩, trivial⟩
    · rename_i e hu
      split at h
      · rename_i hI
        simp only [Option.some.injEq] at h
        subst h
        obtain ⟨hk, hC⟩ := isI_flat hI
        obtain ⟨v, rfl, hv⟩ := trod_row hu hk hC hf
        exact ⟨hv, trivial⟩
      · split at h
        · rename_i hR
          simp only [Option.some.injEq] at h
          subst h
          obtain ⟨v, rfl, hv⟩ := trod_tab hu hR hf
          exact ⟨hv, trivial⟩
        · cases h
    · rename_i fs hu
      split at h
      · rename_i ks' hk
        split at h
        · rename_i hc
          simp only [Option.some.injEq] at h
          subst h
          obtain ⟨xs, m, _, _, hl, hlen, hg⟩ := DataW.trod_struct hu hf
          have := fields_mixT (cs := cs) (xs := xs) (m := m) (fun t ks cs' x a b => ih t ks m cs' x a b) fs.toList 0 0 ks' hk (by rw [hl, hc]; simp) (by rw [hlen]; simp) (fun j f hj => by
            rw [Nat.zero_add]; exact hg j f (by simpa using hj))
          simpa using this
        · cases h
      · cases h
    · cases h
/-- A struct by value. -/
theorem open_mixT {r : Reach} {b0 : Nat} {t : TypeId} {n : Nat} {ks : List SortT} {v : Value} {d : DataW H} {p : List MemPlace} (hk : mixT P n t = some ks)
    (hs : (match P.underlying t with | some (.struct _) | some (.array _ _) => true | _ => false) = true) (hv : Value.okWide P w r b0 t v) (h : DataW.Trod enc P w base spare held t v d p) :
    ∃ cs : List Value, v = .agg cs.toArray ∧ MixT w ks cs := by
  have ⟨cs, hcs⟩ : ∃ cs : Array Value, v = .agg cs := by
    unfold Value.okWide at hv
    split at hv
    · obtain ⟨cs, rfl, _⟩ := hv; exact ⟨cs, rfl⟩
    · obtain ⟨cs, rfl, _⟩ := hv; exact ⟨cs, rfl⟩
    · rename_i h1 h2
      split at hs
      · rename_i fs hu; exact absurd hu (h1 fs)
      · rename_i m e hu; exact absurd hu (h2 m e)
      · cases hs
  subst hcs
  obtain ⟨fuel, hf⟩ := h
  refine ⟨cs.toList, by simp, ?_⟩
  exact trod_mixT n t ks fuel _ _ hk (by simpa [Value.cells] using hf)
end
theorem mixT_num {w : World} {ks : List SortT} {cs : List Value} (h : MixT w (.num :: ks) cs) : ∃ (a : Int) (cs' : List Value), cs = .int .i64 a :: cs' ∧ MixT w ks cs' := by
  cases cs with
  | nil => exact h.elim
  | cons c cs => obtain ⟨⟨a, rfl, hw⟩, h2⟩ := h; exact ⟨a, cs, rfl, h2⟩
theorem mixT_str {w : World} {ks : List SortT} {cs : List Value} (h : MixT w (.str :: ks) cs) : ∃ (a : ByteArray) (cs' : List Value), cs = .string a :: cs' ∧ a.size ≤ 9223372036854775807 ∧ MixT w ks cs' := by
  cases cs with
  | nil => exact h.elim
  | cons c cs => obtain ⟨⟨a, rfl, hw⟩, h2⟩ := h; exact ⟨a, cs, rfl, by rw [maxLen_eq] at hw; exact hw, h2⟩
theorem mixT_nil {w : World} {cs : List Value} (h : MixT w [] cs) : cs = [] := by
  cases cs with
  | nil => rfl
  | cons c cs => exact h.elim
theorem rowOf_rd {w : World} {v : Value} (h : RowOf w [.i64] v) : ∃ (A : Option Addr) (n c : Nat) (N : Nat → Int), v = .slice A n c ∧ Rd w 1 A n c (nv N) := by
  obtain ⟨A, n, c, N, cs, e, h1, h2, _, h3, _⟩ := mix_row (k0 := .i64) (ls := []) (ks := []) (cs := [v]) ⟨h, trivial⟩
  injection e with e _
  exact ⟨A, n, c, fun i => N i 0, e, rd1 h1 h2 h3⟩
theorem mixT_row {w : World} {ks : List SortT} {cs : List Value} (h : MixT w (.row :: ks) cs) : ∃ (A : Option Addr) (n c : Nat) (N : Nat → Int) (cs' : List Value), cs = .slice A n c :: cs' ∧ Rd w 1 A n c (nv N) ∧ MixT w ks cs' := by
  cases cs with
  | nil => exact h.elim
  | cons c cs =>
    obtain ⟨h1, h2⟩ := h
    obtain ⟨A, n, c, N, rfl, hR⟩ := rowOf_rd h1
    exact ⟨A, n, c, N, cs, rfl, hR, h2⟩
theorem mixT_tab {w : World} {ks : List SortT} {cs : List Value} (h : MixT w (.tab :: ks) cs) : ∃ (A : Option Addr) (n c : Nat) (ln : Nat → Nat) (T : Nat → Nat → Int) (cs' : List Value), cs = .slice A n c :: cs' ∧ Tb w A n c ln T ∧ MixT w ks cs' := by
  cases cs with
  | nil => exact h.elim
  | cons c cs =>
    obtain ⟨h1, h2⟩ := h
    rcases h1 with rfl | ⟨a, n, c, X, rfl, hl, hc, hx⟩
    · exact ⟨none, 0, 0, fun _ => 0, fun _ _ => 0, cs, rfl, ⟨fun _ => none, fun _ => 0, ⟨Nat.le_refl _, by omega, fun h => absurd h (by omega)⟩, fun i hi => absurd hi (by omega)⟩, h2⟩
    · have hex : ∀ i, ∃ q : Option Addr × Nat × Nat × (Nat → Int), i < n → X i = .slice q.1 q.2.1 q.2.2.1 ∧ Rd w 1 q.1 q.2.1 q.2.2.1 (nv q.2.2.2) := by
        intro i
        by_cases hi : i < n
        · obtain ⟨A, m, d, N, e, hR⟩ := rowOf_rd (hx i hi).2
          exact ⟨(A, m, d, N), fun _ => ⟨e, hR⟩⟩
        · exact ⟨(none, 0, 0, fun _ => 0), fun h => absurd h hi⟩
      let F := fun i => Classical.choose (hex i)
      have hF : ∀ i, i < n → X i = .slice (F i).1 (F i).2.1 (F i).2.2.1 ∧ Rd w 1 (F i).1 (F i).2.1 (F i).2.2.1 (nv (F i).2.2.2) := fun i hi => Classical.choose_spec (hex i) hi
      refine ⟨some a, n, c, fun i => (F i).2.1, fun i => (F i).2.2.2, cs, rfl, ⟨fun i => (F i).1, fun i => (F i).2.2.1, ⟨hl, by rw [maxLen_eq] at hc; exact hc, fun hn => ?_⟩, fun i hi => (hF i hi).2⟩, h2⟩
      obtain ⟨b, off, spot⟩ := a
      have g0 := (hx 0 hn).1
      have hspot : spot = none := by simpa [Addr.add] using World.cell?_spot g0
      subst hspot
      refine ⟨b, off, rfl, World.block_lt_of_cell? w _ g0, fun i j hi hj => ?_⟩
      obtain rfl : j = 0 := by omega
      have g := (hx i hi).1
      rw [(hF i hi).1, Go.WideShapes.add_plain] at g
      simpa using g
/-- A problem. -/
theorem mixT_prob {w : World} {cs : List Value} (h0 : MixT w [.row, .row, .row, .tab, .row, .str, .num, .num, .row, .row, .tab, .tab, .tab, .row, .row, .row, .row, .num, .num, .num, .num, .num, .num, .num] cs) :
    ∃ (Z : ZD) (Y : ZA), cs = [.slice Y.ds Z.nd Y.dsc, .slice Y.lv Z.nl Y.lvc, .slice Y.sp Z.ns Y.spc, .slice Y.tl Z.nt Y.tlc, .slice Y.ms Z.nm Y.msc, .string Z.P.nm, .int .i64 Z.P.em, .int .i64 Z.P.fu, .slice Y.Q.al Z.P.na Y.Q.alc, .slice Y.Q.ma Z.P.nM Y.Q.mac, .slice Y.Q.tC Z.P.nC Y.Q.tCc, .slice Y.Q.tF Z.P.nF Y.Q.tFc, .slice Y.Q.tR Z.P.nR Y.Q.tRc, .slice Y.Q.dD Z.P.nD Y.Q.dDc, .slice Y.Q.dI Z.P.nI Y.Q.dIc, .slice Y.Q.dX Z.P.nX Y.Q.dXc, .slice Y.Q.dN Z.P.nN Y.Q.dNc, .int .i64 Z.P.rf, .int .i64 Z.P.xt, .int .i64 Z.P.ce, .int .i64 Z.ix, .int .i64 Z.cc, .int .i64 Z.fi, .int .i64 Z.la] ∧ ZIn w Z Y := by
  obtain ⟨a0, n0, c0, N0, t0, e0, r0, h1⟩ := mixT_row h0
  subst e0
  clear h0
  obtain ⟨a1, n1, c1, N1, t1, e1, r1, h2⟩ := mixT_row h1
  subst e1
  clear h1
  obtain ⟨a2, n2, c2, N2, t2, e2, r2, h3⟩ := mixT_row h2
  subst e2
  clear h2
  obtain ⟨a3, n3, c3, l3, N3, t3, e3, r3, h4⟩ := mixT_tab h3
  subst e3
  clear h3
  obtain ⟨a4, n4, c4, N4, t4, e4, r4, h5⟩ := mixT_row h4
  subst e4
  clear h4
  obtain ⟨nm, t5, e5, hnm, h6⟩ := mixT_str h5
  subst e5
  clear h5
  obtain ⟨x6, t6, e6, h7⟩ := mixT_num h6
  subst e6
  clear h6
  obtain ⟨x7, t7, e7, h8⟩ := mixT_num h7
  subst e7
  clear h7
  obtain ⟨a8, n8, c8, N8, t8, e8, r8, h9⟩ := mixT_row h8
  subst e8
  clear h8
  obtain ⟨a9, n9, c9, N9, t9, e9, r9, h10⟩ := mixT_row h9
  subst e9
  clear h9
  obtain ⟨a10, n10, c10, l10, N10, t10, e10, r10, h11⟩ := mixT_tab h10
  subst e10
  clear h10
  obtain ⟨a11, n11, c11, l11, N11, t11, e11, r11, h12⟩ := mixT_tab h11
  subst e11
  clear h11
  obtain ⟨a12, n12, c12, l12, N12, t12, e12, r12, h13⟩ := mixT_tab h12
  subst e12
  clear h12
  obtain ⟨a13, n13, c13, N13, t13, e13, r13, h14⟩ := mixT_row h13
  subst e13
  clear h13
  obtain ⟨a14, n14, c14, N14, t14, e14, r14, h15⟩ := mixT_row h14
  subst e14
  clear h14
  obtain ⟨a15, n15, c15, N15, t15, e15, r15, h16⟩ := mixT_row h15
  subst e15
  clear h15
  obtain ⟨a16, n16, c16, N16, t16, e16, r16, h17⟩ := mixT_row h16
  subst e16
  clear h16
  obtain ⟨x17, t17, e17, h18⟩ := mixT_num h17
  subst e17
  clear h17
  obtain ⟨x18, t18, e18, h19⟩ := mixT_num h18
  subst e18
  clear h18
  obtain ⟨x19, t19, e19, h20⟩ := mixT_num h19
  subst e19
  clear h19
  obtain ⟨x20, t20, e20, h21⟩ := mixT_num h20
  subst e20
  clear h20
  obtain ⟨x21, t21, e21, h22⟩ := mixT_num h21
  subst e21
  clear h21
  obtain ⟨x22, t22, e22, h23⟩ := mixT_num h22
  subst e22
  clear h22
  obtain ⟨x23, t23, e23, h24⟩ := mixT_num h23
  subst e23
  clear h23
  have e24 := mixT_nil h24
  subst e24
  exact ⟨{ nd := n0, nl := n1, ns := n2, nt := n3, nm := n4, ds := N0, lv := N1, sp := N2, ms := N4, lt := l3, tl := N3, P := { nm := nm, em := x6, fu := x7, rf := x17, xt := x18, ce := x19, na := n8, nM := n9, nD := n13, nI := n14, nX := n15, nN := n16, nC := n10, nF := n11, nR := n12, al := N8, ma := N9, dD := N13, dI := N14, dX := N15, dN := N16, lC := l10, lF := l11, lR := l12, tC := N10, tF := N11, tR := N12 }, ix := x20, cc := x21, fi := x22, la := x23 },
    { ds := a0, lv := a1, sp := a2, tl := a3, ms := a4, dsc := c0, lvc := c1, spc := c2, tlc := c3, msc := c4, Q := { al := a8, ma := a9, dD := a13, dI := a14, dX := a15, dN := a16, tC := a10, tF := a11, tR := a12, alc := c8, mac := c9, dDc := c13, dIc := c14, dXc := c15, dNc := c16, tCc := c10, tFc := c11, tRc := c12 } },
    rfl, ⟨r0, r1, r2, r3, r4, ⟨hnm, r8, r9, r13, r14, r15, r16, r10, r11, r12⟩⟩⟩
end Go.Proofs.Ytoeklllahpegfaa
/-
  Plain: the first error of performance tables.
-/
namespace Go.Proofs.Ytoeklllahpegfaa
set_option linter.unusedVariables false
set_option linter.unusedSimpArgs false
open Go.RowKit

namespace Oz
/-- The code of the first test that fails. -/
def fst : List (Bool × Int) → Int
  | [] => 0
  | (b, c) :: t => if b = true then fst t else c
theorem fst_t {b : Bool} {c : Int} {t : List (Bool × Int)} (h : b = true) : fst ((b, c) :: t) = fst t := if_pos h
theorem fst_f {b : Bool} {c : Int} {t : List (Bool × Int)} (h : b = false) : fst ((b, c) :: t) = c := if_neg (by rw [h]; simp)
def pck (P : PD) : Int := fst [(Oz.nmB P.nm 8, 5), (Oz.inB P.em 1 3000000000, 2), (Oz.inB P.fu 1 (3000000000 - P.em), 2), (decide (2 ≤ P.na), 3), (decide (P.na ≤ 12), 3), (decide (2 ≤ P.nM), 3), (decide (P.nM ≤ 6), 3), ((Oz.shT P.nC P.lC P.nM && decide (P.nC = P.na)), 1), ((Oz.shT P.nF P.lF P.nM && decide (P.nF = P.na)), 1), ((Oz.shT P.nR P.lR P.nM && decide (P.nR = P.na)), 1), (decide (P.nD = P.na), 1), (decide (P.nI = P.na), 1), (decide (P.nX = P.na), 1), (decide (P.nN = P.nM), 1), (Oz.asB P.na P.al, 9), (Oz.asB P.nM P.ma, 9), (Oz.alB P.na P.al (-200000) 6000000, 2), (Oz.inB P.ce (-200000) 6000000, 2), (Oz.alB P.nM P.ma 1 3000000000, 2), (Oz.alT P.nC P.lC P.tC 0 10000, 2), (Oz.alB P.nD P.dD 1 10000, 2), (Oz.alT P.nF P.lF P.tF 0 50000, 2), (Oz.alT P.nR P.lR P.tR 0 50000, 2), (Oz.alB P.nI P.dI 0 50000, 2), (Oz.alB P.nX P.dX 1 1000, 2), (Oz.alB P.nN P.dN 1 1000, 2), (Oz.inB P.rf 1 1000, 2), (Oz.inB P.xt 0 100, 2), (Oz.grid (Oz.upN P.tC) P.nC P.nM, 11), (Oz.grid (Oz.ge P.al P.tC) P.na P.nM, 11), (Oz.grid (Oz.up1 P.tF) P.nF P.nM, 11), (Oz.grid (Oz.up1 P.tR) P.nR P.nM, 11), (Oz.lvB P.nD P.dD, 11), (Oz.faB P.nI P.dI, 11), (Oz.faB P.nX P.dX, 11), (Oz.lvB P.nN P.dN, 11)]
section
variable {n na m : Nat} {ln : Nat → Nat} {T : Nat → Nat → Int}
theorem sh_n (h : (shT n ln m && decide (n = na)) = true) : n = na := by rw [Bool.and_eq_true] at h; exact of_decide_eq_true h.2
theorem sh_ln (h : (shT n ln m && decide (n = na)) = true) : ∀ i, i < n → ln i = m := by
  rw [Bool.and_eq_true] at h
  exact fun i hi => of_decide_eq_true ((pre_iff _ _).1 h.1 i hi)
theorem sh_ln' (h : (shT n ln m && decide (n = na)) = true) : ∀ i, i < na → ln i = m := by
  have e := sh_n h
  subst e; exact sh_ln h
theorem al_bd (h : (shT n ln m && decide (n = na)) = true) {lo hi : Int} (h2 : alT n ln T lo hi = true) (hl : -1000000000000 ≤ lo := by omega) (hh : hi ≤ 1000000000000 := by omega) : ∀ i j, i < n → j < m → -1000000000000 ≤ T i j ∧ T i j ≤ 1000000000000 := by
  intro i j hi' hj
  have := alB_iff.1 ((pre_iff _ _).1 h2 i hi') j (by rw [sh_ln h i hi']; exact hj)
  omega
theorem al_bd' (h : (shT n ln m && decide (n = na)) = true) {lo hi : Int} (h2 : alT n ln T lo hi = true) (hl : -1000000000000 ≤ lo := by omega) (hh : hi ≤ 1000000000000 := by omega) : ∀ i j, i < na → j < m → -1000000000000 ≤ T i j ∧ T i j ≤ 1000000000000 := by
  have e := sh_n h
  subst e; exact al_bd h h2 hl hh
theorem l_bd {v : Nat → Int} {lo hi : Int} (h : alB n v lo hi = true) (hl : -1000000000000 ≤ lo := by omega) (hh : hi ≤ 1000000000000 := by omega) : ∀ i, i < n → -1000000000000 ≤ v i ∧ v i ≤ 1000000000000 := by
  intro i hi'
  have := alB_iff.1 h i hi'
  omega
end
end Oz
end Go.Proofs.Ytoeklllahpegfaa
/-
  Plain: the first error of a problem.
-/
namespace Go.Proofs.Ytoeklllahpegfaa
set_option linter.unusedVariables false
set_option linter.unusedSimpArgs false
open Go.RowKit

namespace Oz
def fste : List (Bool × Int) → Int → Int
  | [], e => e
  | (b, c) :: t, e => if b = true then fste t e else c
theorem fste_t {b : Bool} {c e : Int} {t : List (Bool × Int)} (h : b = true) : fste ((b, c) :: t) e = fste t e := if_pos h
theorem fste_f {b : Bool} {c e : Int} {t : List (Bool × Int)} (h : b = false) : fste ((b, c) :: t) e = c := if_neg (by rw [h]; simp)
/-- The shape of a problem but for its rows; the ranges but for its rows. -/
def s0 (Z : ZD) : Bool := (((decide (Z.nt = Z.nd) && decide (Z.nm = Z.nd)) && ixB Z.fi Z.nl) && ixB Z.la Z.nl)
def o0 (Z : ZD) : Bool := (((((alB Z.nd Z.ds 0 8000000 && alB Z.nl Z.lv (-200000) 6000000) && alB Z.ns Z.sp 1 1000) && alB Z.nm Z.ms 1 3000000000) && alB 1 (fun _ => Z.ix) 0 1000) && alB 1 (fun _ => Z.cc) 0 1073741824)
def zck (Z : ZD) : Int := fste [(decide (1 ≤ Z.nd), 3), (decide (Z.nd ≤ 24), 3), (decide (1 ≤ Z.nl), 3), (decide (Z.nl ≤ 8), 3), (decide (1 ≤ Z.ns), 3), (decide (Z.ns ≤ 6), 3), (s0 Z && shT Z.nt Z.lt Z.nl, 1), (asB Z.nl Z.lv, 9), (asB Z.ns Z.sp, 9), (o0 Z && alT Z.nt Z.lt Z.tl (-400) 400, 2)] (pck Z.P)
end Oz
end Go.Proofs.Ytoeklllahpegfaa
/-
  Plain: the value of a list at x; no program in sight.
-/
namespace Go.Proofs.Ytoeklllahpegfaa
set_option linter.unusedVariables false
set_option linter.unusedSimpArgs false
namespace Oz
/-- How many of the first n places lie ahead of x, counted up to the first that does not. -/
def fk (al : Nat → Int) (x : Int) : Nat → Nat
  | 0 => 0
  | m + 1 => if fk al x m = m ∧ al m < x then m + 1 else fk al x m
theorem fk_step {al : Nat → Int} {x : Int} {k : Nat} (h : fk al x k = k) (h2 : al k < x) : fk al x (k + 1) = k + 1 := by rw [fk, if_pos ⟨h, h2⟩]
theorem fk_stop {al : Nat → Int} {x : Int} {k : Nat} (h : fk al x k = k) (h2 : ¬ al k < x) : ∀ c, fk al x (k + 1 + c) = k
  | 0 => by show fk al x (k + 1) = k; rw [fk, if_neg (fun q => h2 q.2), h]
  | c + 1 => by
    have := fk_stop h h2 c
    show fk al x (k + 1 + c + 1) = k
    rw [fk, if_neg (fun q => by omega), this]
theorem fk_at {al : Nat → Int} {x : Int} {k n : Nat} (h : fk al x k = k) (h2 : ¬ al k < x) (hk : k < n) : fk al x n = k := by
  have := fk_stop h h2 (n - (k + 1))
  rwa [show k + 1 + (n - (k + 1)) = n by omega] at this
theorem fk_prev {al : Nat → Int} {x : Int} {j : Nat} (h : fk al x (j + 1) = j + 1) : fk al x j = j ∧ al j < x := by
  rw [fk] at h
  split at h
  · assumption
  · have : ∀ n, fk al x n ≤ n := by
      intro n
      induction n with
      | zero => exact Nat.le_refl _
      | succ m ih => rw [fk]; split <;> omega
    have := this j; omega
theorem fk_le (al : Nat → Int) (x : Int) : ∀ n, fk al x n ≤ n
  | 0 => Nat.le_refl _
  | m + 1 => by
    rw [fk]
    split
    · omega
    · have := fk_le al x m; omega
/-- The value at x: the first one, the last one, or between two. -/
def vW (n : Nat) (al l : Nat → Int) (x : Int) : Int :=
  if fk al x n = 0 then l 0 else if fk al x n = n then l (fk al x n - 1) else
    l (fk al x n - 1) + (l (fk al x n) - l (fk al x n - 1)) * (x - al (fk al x n - 1)) / (al (fk al x n) - al (fk al x n - 1))
section
variable {n : Nat} {al l : Nat → Int} {x : Int}
theorem vW_0 (h : fk al x n = 0) : vW n al l x = l 0 := if_pos h
theorem vW_n {j : Nat} (h : fk al x n = j + 1) (h2 : n = j + 1) : vW n al l x = l j := by
  unfold vW; rw [h, if_neg (by omega), if_pos h2.symm]; rfl
theorem vW_m {j : Nat} (h : fk al x n = j + 1) (h2 : j + 1 ≠ n) : vW n al l x = l j + (l (j + 1) - l j) * (x - al j) / (al (j + 1) - al j) := by
  unfold vW; rw [h, if_neg (by omega), if_neg h2]; rfl
end
end Oz
end Go.Proofs.Ytoeklllahpegfaa
