/-
  Words for copies of windows; the walk of ConstraintEach.
-/
import Derived.Test.YtpipjpgcnbpllaaW16
namespace Go.Proofs.Ytpipjpgcnbpllaa
set_option linter.unusedVariables false
set_option linter.unusedSimpArgs false
open Go.RowKit

theorem own_empty (w : World) (base : Nat) (e : TypeId) (q : Nat) (V : Nat → Nat → Value) {H : Nat} (hH : w.heap.size = H) (hb : base ≤ w.heap.size) : Own (w.alloc (.cells #[] e)) base e q (some ⟨H, 0, none⟩) 0 0 V := by
  subst hH
  exact ⟨_, World.ownsRow_lit (size := q) w #[] 0 hb (by rw [maxLen_eq]; omega) (by simp), fun i j hi => absurd hi (by omega)⟩
theorem app0 {w : World} {base : Nat} {e : TypeId} {q n c : Nat} {A : Option Addr} {V V2 : Nat → Nat → Value} (h : Own w base e q A (0 + n) c (app 0 V V2)) : Own w base e q A n c V2 := by
  rw [Nat.zero_add] at h
  exact h.congr fun i f hi _ => by unfold app; rw [if_neg (by omega), Nat.sub_zero]
/-- One row of two cells stored. -/
theorem Own.set2 {w : World} {base : Nat} {e : TypeId} {n c g : Nat} {N : Nat → Nat → Int} (h : Own w base e 2 (some ⟨g, 0, none⟩) n c (iv N)) {k : Nat} (hk : k < n) (a b : Int) :
    Own ((w.setCell ⟨g, k * 2, none⟩ (.int .i64 a)).setCell ⟨g, k * 2 + 1, none⟩ (.int .i64 b)) base e 2 (some ⟨g, 0, none⟩) n c (iv (Co.setW N k a b)) := by
  have h1 := h.set (V' := iv (fun i f => if i = k ∧ f = 0 then a else N i f)) hk (show 0 < 2 by omega) (.int .i64 a) (by simp [iv]) (fun i j hi hj hne => by simp only [iv]; rw [if_neg (by omega)])
  have h2 := h1.set (V' := iv (Co.setW N k a b)) hk (show 1 < 2 by omega) (.int .i64 b) (by simp [iv, Co.setW]) (fun i j hi hj hne => by
    unfold iv Co.setW
    by_cases e : i = k
    · obtain rfl : j = 0 := by omega
      simp [e]
    · simp [e])
  rw [Nat.add_zero] at h2
  exact h2
theorem Own.two {w : World} {base : Nat} {e : TypeId} {n c g : Nat} {N : Nat → Nat → Int} (h : Own w base e 2 (some ⟨g, 0, none⟩) n c (iv N)) {k : Nat} (hk : k < n) :
    w.cell? ⟨g, k * 2, none⟩ = some (.int .i64 (N k 0)) ∧ w.cell? ⟨g, k * 2 + 1, none⟩ = some (.int .i64 (N k 1)) ∧ (∀ o, w.frozen? ⟨g, o, none⟩ = false) :=
  ⟨h.cell hk (show 0 < 2 by omega), h.cell hk (show 1 < 2 by omega), h.frozen⟩
/-- An index out of any number. -/
theorem index_of (p : Int) {n : Nat} (hn : 0 < n) : ∃ i : Nat, i < n ∧ (Int.tmod p (n : Int) = (i : Int) ∨ ∃ t : Int, Int.tmod p (n : Int) = t ∧ t < 0 ∧ -(n : Int) < t ∧ t + n = (i : Int)) := by
  have hp : (0 : Int) < (n : Int) := by omega
  by_cases h : 0 ≤ Int.tmod p n
  · have h2 := Int.tmod_lt_of_pos p hp
    exact ⟨(Int.tmod p n).toNat, by omega, .inl (by omega)⟩
  · have h3 : -(n : Int) < Int.tmod p n := by
      have := Int.tmod_lt_of_pos (-p) hp
      rw [Int.neg_tmod] at this; omega
    exact ⟨(Int.tmod p n + n).toNat, by omega, .inr ⟨_, rfl, by omega, h3, by omega⟩⟩

end Go.Proofs.Ytpipjpgcnbpllaa
