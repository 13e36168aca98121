/-
  Contract: the program's All.
-/
import Derived.Test.YtpipjpgcnbpllaaW7
import Derived.Test.YtpipjpgcnbpllaaPlain4
namespace Go.Proofs.Ytpipjpgcnbpllaa
set_option linter.unusedVariables false
set_option linter.unusedSimpArgs false
open Go.RowKit

theorem infoC : (Try.prog.info? 42).map (fun i => (i.zero, i.size, i.bytes)) = some (some (.agg #[.int .i64 0, .int .i64 0]), 2, 16) := by kernel_rfl
/-- What All leaves: a list of conflicts of its own. -/
def AllPost (n : Nat) (N : Nat → Nat → Int) (m : Nat) (S : Nat → Nat → Int) (w : World) (e : Ending) (w' : World) : Prop :=
  ∃ A c, e = .returned (.tuple #[.slice A (Co.cfl n N m S).length c, .int .i64 (Co.ck n N m S)]) ∧ Own w' w.heap.size 42 2 A (Co.cfl n N m S).length c (iv (Co.cf (Co.cfl n N m S))) ∧ Below w.heap.size w w'
/-- Two slices of the call's own do not share a block. -/
def Apart (A B : Option Addr) : Prop := ob A = none ∨ ob A ≠ ob B
/-- The lists that are gathered. -/
structure Two (B0 : Nat) (l1 l2 : List (Nat × Nat)) (v1 v2 : Value) (wr : World) : Prop where
  h : ∃ A1 c1 A2 c2, v1 = .slice A1 l1.length c1 ∧ v2 = .slice A2 l2.length c2 ∧ Own wr B0 42 2 A1 l1.length c1 (iv (Co.cf l1)) ∧ Own wr B0 42 2 A2 l2.length c2 (iv (Co.cf l2)) ∧ Apart A1 A2 ∧ Apart A2 A1
theorem Two.nil (B0 : Nat) (w : World) : Two B0 [] [] (.slice none 0 0) (.slice none 0 0) w := ⟨none, 0, none, 0, rfl, rfl, Own.nil _ _ _ _ _, Own.nil _ _ _ _ _, .inl rfl, .inl rfl⟩
theorem Two.keep {B0 : Nat} {l1 l2 : List (Nat × Nat)} {v1 v2 : Value} {w w' : World} (h : Two B0 l1 l2 v1 v2 w) (hb : Below w.heap.size w w') : Two B0 l1 l2 v1 v2 w' := by
  obtain ⟨A1, c1, A2, c2, e1, e2, o1, o2, a, b⟩ := h.h
  exact ⟨A1, c1, A2, c2, e1, e2, o1.keep hb, o2.keep hb, a, b⟩
theorem own_snoc {w : World} {B0 : Nat} {l : List (Nat × Nat)} {a b : Nat} {A : Option Addr} {c : Nat} (h : Own w B0 42 2 A (l.length + 1) c (app l.length (iv (Co.cf l)) (iv (Co.c1 a b)))) :
    Own w B0 42 2 A (l ++ [(a, b)]).length c (iv (Co.cf (l ++ [(a, b)]))) := by
  rw [List.length_append, List.length_singleton]
  refine h.congr fun i f hi _ => ?_
  rw [app_int]
  unfold iv
  congr 1
  exact Co.cf_snoc l a b hi
theorem own_join {w : World} {B0 : Nat} {l l2 : List (Nat × Nat)} {A : Option Addr} {c : Nat} (h : Own w B0 42 2 A (l.length + l2.length) c (app l.length (iv (Co.cf l)) (iv (Co.cf l2)))) :
    Own w B0 42 2 A (l ++ l2).length c (iv (Co.cf (l ++ l2))) := by
  rw [List.length_append]
  refine h.congr fun i f _ _ => ?_
  rw [app_int]
  unfold iv
  congr 1
  exact Co.cf_app l l2 i f
theorem own_old {w : World} {B0 : Nat} {e : TypeId} {q n c : Nat} {A : Option Addr} {V : Nat → Nat → Value} (h : Own w B0 e q A n c V) : ob A = none ∨ ∃ k, ob A = some k ∧ k < w.heap.size := by
  obtain ⟨_, _, ⟨rfl, _⟩ | ⟨g, rfl, _, hl⟩⟩ := h.form
  · exact .inl rfl
  · exact .inr ⟨g, rfl, hl⟩
theorem Own.base {w : World} {B0 : Nat} {e : TypeId} {q n c : Nat} {A : Option Addr} {V : Nat → Nat → Value} (h : Own w B0 e q A n c V) {g : Nat} (hg : ob A = some g) : B0 ≤ g := by
  obtain ⟨_, _, ⟨rfl, _⟩ | ⟨g', rfl, hb, _⟩⟩ := h.form
  · cases hg
  · have : g' = g := by simpa [ob] using hg
    omega
/-- A slice that has grown is still apart. -/
theorem apart_grow {w : World} {B0 : Nat} {e : TypeId} {q n c : Nat} {A1 A' A2 : Option Addr} {V : Nat → Nat → Value} (o2 : Own w B0 e q A2 n c V) (h : Apart A1 A2) (h2 : Apart A2 A1) (hob : ob A' = ob A1 ∨ ob A' = some w.heap.size) : Apart A' A2 ∧ Apart A2 A' := by
  unfold Apart at *
  rcases hob with hob | hob
  · rw [hob]; exact ⟨h, h2⟩
  · rw [hob]
    rcases own_old o2 with h3 | ⟨k, h3, hk⟩
    · rw [h3]; exact ⟨.inr (by simp), .inl rfl⟩
    · rw [h3]
      have : k ≠ w.heap.size := by omega
      exact ⟨.inr (by simpa using this.symm), .inr (by simpa using this)⟩
/-- One pair in a block of its own. -/
theorem rd_pair (w : World) (t : TypeId) (a b : Int) : Rd (w.alloc (.cells #[.int .i64 a, .int .i64 b] t)) 2 (some ⟨w.heap.size, 0, none⟩) 1 1 (iv (Co.c1 a b)) :=
  Rd.of_blk (Blk.new w t _) (Nat.le_refl _) (by omega) fun i j hi hj => by
    obtain rfl : i = 0 := by omega
    match j, hj with
    | 0, _ => rfl
    | 1, _ => rfl
end Go.Proofs.Ytpipjpgcnbpllaa
