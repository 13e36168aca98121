/-
  Regions that draw their order, by an invariant: operations behind a guard.
-/
import Derived.Test.YtnkgoojjnikaeaaInv
namespace Go.Proofs.Ytnkgoojjnikaeaa
set_option linter.unusedVariables false
set_option linter.unusedSimpArgs false
open Go.RowKit
section
variable {P : Program} {ops : Array Oper} {Q : Exit → Act → World → Prop} {J : (Nat → Prop) → (Nat → Value) → (Nat → Nat) → World → Prop} {ds : List Nat} {a0 : Act}
/-- What a guard reads. -/
def gval (v : Value) : Option Bool := match v with
  | .bool b => some b
  | _ => none
theorem yielded_at {ops : Array Oper} {ds : List Nat} {a0 : Act} {x : Nat → Value} {j d : Nat} (hd : (ops[j]?).bind (·.dst) = some d) (hin : (decide (d ∈ ds) && decide (d < a0.tmps.size)) = true) : yielded ops (putAll x ds a0).tmps j = gval (x d) := by
  rw [Bool.and_eq_true, decide_eq_true_iff, decide_eq_true_iff] at hin
  unfold yielded gval
  rw [hd, Option.bind_some, (putAll_tmps x ds a0).2.2 d, if_pos hin]
  cases x d <;> rfl
/-- A guarded operation whose guard holds. -/
theorem StepsOk.consT {i : Nat} {o : Oper} {os : List Oper} (j d : Nat) (want : Bool) (hg : o.guard = some (j, want)) (hd : (ops[j]?).bind (·.dst) = some d) (hin : (decide (d ∈ ds) && decide (d < a0.tmps.size)) = true)
    (hj : ∀ (L : Nat → Prop) (x : Nat → Value) (G : Nat → Nat) (w : World), (∀ e ∈ o.after, Region.binds .any e = true → L e.on) → J L x G w → x d = .bool want)
    (h : ∀ (L : Nat → Prop) (x : Nat → Value) (G : Nat → Nat) (w : World) (K : Act → World → Prop) (Q : Exit → Act → World → Prop), ¬ L i → (∀ e ∈ o.after, Region.binds .any e = true → L e.on) → J L x G w →
      (∀ a' G' w', putAll (fun t => a'.tmps.getD t undef) ds a0 = a' → J (fun j => j = i ∨ L j) (fun t => a'.tmps.getD t undef) G' w' → K a' w') → Oper.wp P o (putAll x ds a0) w K Q)
    (t : StepsOk P ops Q J ds a0 (i + 1) os) : StepsOk P ops Q J ds a0 i (o :: os) :=
  ⟨fun L x G w K h1 h2 h3 h4 => by
    rw [if_pos (by unfold Region.wanted; rw [hg]; show (yielded ops (putAll x ds a0).tmps j == some want) = true; rw [yielded_at hd hin, hj L x G w h2 h3]; cases want <;> rfl)]
    exact h L x G w K Q h1 h2 h3 h4, t⟩
/-- A guarded operation that is passed over. -/
theorem StepsOk.consF {i : Nat} {o : Oper} {os : List Oper} (j d : Nat) (want : Bool) (v : Value) (hg : o.guard = some (j, want)) (hd : (ops[j]?).bind (·.dst) = some d) (hin : (decide (d ∈ ds) && decide (d < a0.tmps.size)) = true)
    (hv : (gval v == some want) = false)
    (hj : ∀ (L : Nat → Prop) (x : Nat → Value) (G : Nat → Nat) (w : World), (∀ e ∈ o.after, Region.binds .any e = true → L e.on) → J L x G w → x d = v)
    (h : ∀ (L : Nat → Prop) (x : Nat → Value) (G : Nat → Nat) (w : World) (K : Act → World → Prop), ¬ L i → (∀ e ∈ o.after, Region.binds .any e = true → L e.on) → J L x G w →
      (∀ a' G' w', putAll (fun t => a'.tmps.getD t undef) ds a0 = a' → J (fun j => j = i ∨ L j) (fun t => a'.tmps.getD t undef) G' w' → K a' w') → K ((putAll x ds a0).put o.dst undef) w)
    (t : StepsOk P ops Q J ds a0 (i + 1) os) : StepsOk P ops Q J ds a0 i (o :: os) :=
  ⟨fun L x G w K h1 h2 h3 h4 => by
    rw [if_neg (by unfold Region.wanted; rw [hg]; show ¬ (yielded ops (putAll x ds a0).tmps j == some want) = true; rw [yielded_at hd hin, hj L x G w h2 h3, hv]; decide)]
    exact h L x G w K h1 h2 h3 h4, t⟩
end
end Go.Proofs.Ytnkgoojjnikaeaa
