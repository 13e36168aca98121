/-
  Regions that draw their order, by an invariant: one proof for each operation, not one for each order.
-/
import Derived.Test.YtgkbjkgafiojjaaBlk
namespace Go.Proofs.Ytgkbjkgafiojjaa
set_option linter.unusedVariables false
set_option linter.unusedSimpArgs false
open Go.RowKit

/-- The slots ds of a frame, filled by x. -/
def putAll (x : Nat → Value) : List Nat → Act → Act
  | [], a => a
  | d :: ds, a => putAll x ds (a.put (some d) (x d))
theorem putAll_tmps (x : Nat → Value) (ds : List Nat) : ∀ (a : Act), putAll x ds a = { a with tmps := (putAll x ds a).tmps } ∧ (putAll x ds a).tmps.size = a.tmps.size ∧
    ∀ t, (putAll x ds a).tmps[t]? = if t ∈ ds ∧ t < a.tmps.size then some (x t) else a.tmps[t]? := by
  induction ds with
  | nil => intro a; exact ⟨rfl, rfl, fun t => by simp [putAll]⟩
  | cons d ds ih =>
    intro a
    obtain ⟨h1, h2, h3⟩ := ih (a.put (some d) (x d))
    refine ⟨h1, by rw [putAll, h2]; simp [Act.put], fun t => ?_⟩
    rw [putAll, h3]
    simp only [Act.put, Array.size_setIfInBounds, List.mem_cons]
    by_cases ht : t ∈ ds ∧ t < a.tmps.size
    · rw [if_pos ht, if_pos ⟨.inr ht.1, ht.2⟩]
    · rw [if_neg ht]
      by_cases e : t = d
      · subst e
        by_cases hs : t < a.tmps.size
        · rw [if_pos ⟨.inl rfl, hs⟩]; simp [hs]
        · rw [if_neg (fun q => hs q.2)]; simp [hs]
      · rw [if_neg (fun q => ht ⟨q.1.resolve_left e, q.2⟩), Array.getElem?_setIfInBounds_ne (Ne.symm e)]
section
variable {P : Program} {ops : Array Oper} {Q : Exit → Act → World → Prop} {J : (Nat → Prop) → (Nat → Value) → (Nat → Nat) → World → Prop} {ds : List Nat} {a0 : Act}
/-- Operation i, wherever it comes up, keeps the invariant. -/
def StepOk (P : Program) (ops : Array Oper) (Q : Exit → Act → World → Prop) (J : (Nat → Prop) → (Nat → Value) → (Nat → Nat) → World → Prop) (ds : List Nat) (a0 : Act) (i : Nat) (o : Oper) : Prop :=
  ∀ (L : Nat → Prop) (x : Nat → Value) (G : Nat → Nat) (w : World) (K : Act → World → Prop), ¬ L i → (∀ e ∈ o.after, Region.binds .any e = true → L e.on) → J L x G w →
    (∀ a' G' w', putAll (fun t => a'.tmps.getD t undef) ds a0 = a' → J (fun j => j = i ∨ L j) (fun t => a'.tmps.getD t undef) G' w' → K a' w') →
    if Region.wanted o (yielded ops (putAll x ds a0).tmps) = true then Oper.wp P o (putAll x ds a0) w K Q else K ((putAll x ds a0).put o.dst undef) w
def StepsOk (P : Program) (ops : Array Oper) (Q : Exit → Act → World → Prop) (J : (Nat → Prop) → (Nat → Value) → (Nat → Nat) → World → Prop) (ds : List Nat) (a0 : Act) : Nat → List Oper → Prop
  | _, [] => True
  | i, o :: os => StepOk P ops Q J ds a0 i o ∧ StepsOk P ops Q J ds a0 (i + 1) os
theorem StepsOk.nil {i : Nat} : StepsOk P ops Q J ds a0 i [] := trivial
theorem StepsOk.cons {i : Nat} {o : Oper} {os : List Oper} (hg : o.guard = none)
    (h : ∀ (L : Nat → Prop) (x : Nat → Value) (G : Nat → Nat) (w : World) (K : Act → World → Prop) (Q : Exit → Act → World → Prop), ¬ L i → (∀ e ∈ o.after, Region.binds .any e = true → L e.on) → J L x G w →
      (∀ a' G' w', putAll (fun t => a'.tmps.getD t undef) ds a0 = a' → J (fun j => j = i ∨ L j) (fun t => a'.tmps.getD t undef) G' w' → K a' w') → Oper.wp P o (putAll x ds a0) w K Q)
    (t : StepsOk P ops Q J ds a0 (i + 1) os) : StepsOk P ops Q J ds a0 i (o :: os) :=
  ⟨fun L x G w K h1 h2 h3 h4 => by
    rw [if_pos (by unfold Region.wanted; rw [hg])]
    exact h L x G w K Q h1 h2 h3 h4, t⟩
theorem StepsOk.get : ∀ {os : List Oper} {i0 : Nat}, StepsOk P ops Q J ds a0 i0 os → ∀ k o, os[k]? = some o → StepOk P ops Q J ds a0 (i0 + k) o
  | [], _, _, k, o, h => by simp at h
  | o' :: os, i0, h, 0, o, e => by simp at e; subst e; exact h.1
  | o' :: os, i0, h, k + 1, o, e => by
    have := StepsOk.get h.2 k o (by simpa using e)
    rwa [show i0 + 1 + k = i0 + (k + 1) by omega] at this
/-- Every operation waits for earlier ones alone. -/
def dagB (ops : Array Oper) : Bool := (List.range ops.size).all fun i => match ops[i]? with
  | some o => o.after.toList.all fun e => !Region.binds .any e || decide (e.on < i)
  | none => true
theorem ready_nil_all {listed : Array Bool} (hd : dagB ops = true) (hz : listed.size = ops.size) (hr : Region.ready .any ops listed = []) : ∀ i, i < ops.size → listed.getD i false = true := by
  intro i
  induction i using Nat.strongRecOn with
  | _ i ih =>
    intro hi
    cases hl : listed.getD i false
    case true => rfl
    have ht : listed.getD i true = false := by
      have : i < listed.size := by omega
      simp [this] at hl ⊢; exact hl
    have hm : i ∈ Region.ready .any ops listed := by
      refine mem_ready.2 ⟨ht, ops[i], by simp [hi], fun e he hb => ?_⟩
      have h1 := List.all_eq_true.1 hd i (List.mem_range.2 hi)
      simp only [Array.getElem?_eq_getElem hi] at h1
      have h2 := List.all_eq_true.1 h1 e (Array.mem_toList_iff.2 he)
      rw [hb] at h2
      have h3 : e.on < i := by simpa using h2
      exact ih _ h3 (by omega)
    rw [hr] at hm
    cases hm
theorem wpAny_inv (hd : dagB ops = true) (steps : ∀ i o, ops[i]? = some o → StepOk P ops Q J ds a0 i o)
    (fin : ∀ L x G w, (∀ j, j < ops.size → L j) → J L x G w → Q .normal (putAll x ds a0) w) :
    ∀ (fuel : Nat) (listed : Array Bool) (x : Nat → Value) (G : Nat → Nat) (w : World), listed.size = ops.size → listed.toList.count false ≤ fuel → J (fun j => listed.getD j false = true) x G w →
      wpAny P .any ops Q fuel listed (putAll x ds a0) w := by
  intro fuel
  induction fuel with
  | zero =>
    intro listed x G w hz hc hJ
    have hr : Region.ready .any ops listed = [] := by
      refine List.eq_nil_iff_forall_not_mem.2 fun i hi => ?_
      have h1 := (mem_ready.1 hi).1
      have hm : false ∈ listed.toList := by
        rcases Nat.lt_or_ge i listed.size with h | h
        · have : listed[i] = false := by simpa [h] using h1
          rw [← this]; simp
        · simp [Array.getElem?_eq_none h] at h1
      have := List.count_pos_iff.2 hm
      omega
    exact ⟨hr, fin _ _ _ _ (fun j hj => ready_nil_all hd hz hr j hj) hJ⟩
  | succ fuel ih =>
    intro listed x G w hz hc hJ
    refine ⟨fun hr => fin _ _ _ _ (fun j hj => ready_nil_all hd hz hr j hj) hJ, fun i hi => ?_⟩
    obtain ⟨h0, o, ho, hall⟩ := mem_ready.1 hi
    have hlt : i < listed.size := by rw [hz]; exact (Array.getElem?_eq_some_iff.1 ho).1
    have hf : listed[i] = false := by simpa [hlt] using h0
    refine wpOp_step ho fun K hK => ?_
    refine steps i o ho _ x G w K (by simp [hlt, hf]) hall hJ fun a' G' w' he h => ?_
    rw [← he]
    refine hK _ _ ?_
    refine ih _ _ G' _ (by simp [hz]) ?_ ?_
    · have hcs : (listed.setIfInBounds i true).toList.count false + 1 = listed.toList.count false := by
        rw [Array.toList_setIfInBounds, List.count_set (by simpa using hlt)]
        have hp : 0 < listed.toList.count false := List.count_pos_iff.2 (by rw [← hf]; simp)
        have e1 : listed.toList[i]'(by simpa using hlt) = false := by rw [Array.getElem_toList]; exact hf
        rw [e1, if_pos (by rfl), if_neg (by decide)]
        omega
      omega
    · refine cast (congrArg (fun L => J L _ G' w') (funext fun j => ?_)) h
      by_cases e : j = i
      · subst e; simp [hlt]
      · rw [getD_set_ne false (Ne.symm e)]; simp [e]
theorem wp_region_inv {id : Nat} {w : World} (J : (Nat → Prop) → (Nat → Value) → (Nat → Nat) → World → Prop) (ds : List Nat) (n : Nat) (hm : P.follows .mixedOrders = true) (hd : dagB ops = true) (hn : ops.size = n)
    (h0 : J (fun _ => False) (fun t => a0.tmps.getD t undef) (fun _ => 0) w.drew)
    (steps : StepsOk P ops Q J ds a0 0 ops.toList)
    (fin : ∀ L x G w, (∀ j, j < n → L j) → J L x G w → Q .normal (putAll x ds a0) w) : (Code.region id ops true).wp P Q a0 w := by
  subst hn
  refine wp_region_any hm ?_
  have e : putAll (fun t => a0.tmps.getD t undef) ds a0 = a0 := by
    obtain ⟨h1, h2, h3⟩ := putAll_tmps (fun t => a0.tmps.getD t undef) ds a0
    rw [h1]
    have : (putAll (fun t => a0.tmps.getD t undef) ds a0).tmps = a0.tmps := by
      apply Array.ext_getElem?
      intro t
      rw [h3]
      split
      · rename_i h; simp [h.2]
      · rfl
    rw [this]
  have := wpAny_inv (Q := Q) (J := J) (ds := ds) (a0 := a0) hd
    (fun i o ho => by have := steps.get i o (by simpa using ho); simpa using this) fin ops.size (Array.replicate ops.size false) (fun t => a0.tmps.getD t undef) (fun _ => 0) w.drew (by simp) (by simp)
    (cast (congrArg (fun L => J L _ (fun _ => 0) w.drew) (funext fun j => by
      by_cases h : j < ops.size <;> simp [h])) h0)
  rw [e] at this
  exact this
end
end Go.Proofs.Ytgkbjkgafiojjaa
