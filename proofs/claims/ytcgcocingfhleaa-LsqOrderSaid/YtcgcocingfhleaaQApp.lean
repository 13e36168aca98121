/-
  Lists of measurements that the laws make: append, row by row.
-/
import Derived.Test.YtcgcocingfhleaaRd6
import Derived.OwnWalk
namespace Go.Proofs.Ytcgcocingfhleaa
set_option linter.unusedVariables false
set_option linter.unusedSimpArgs false
open Go.RowKit
theorem infoM : (Try.prog.info? 43).map (fun i => (i.zero, i.size, i.bytes)) = some (some (.agg #[.int .i64 0, .int .i64 0, .int .i64 0, .int .i64 0, .int .i64 0, .int .i64 0]), 6, 48) := by kernel_rfl
theorem Own.base {w : World} {B0 : Nat} {e : TypeId} {q n c : Nat} {A : Option Addr} {V : Nat → Nat → Value} (h : Own w B0 e q A n c V) {g : Nat} (hg : ob A = some g) : B0 ≤ g := by
  obtain ⟨_, _, ⟨rfl, _⟩ | ⟨g', rfl, hb, _⟩⟩ := h.form
  · cases hg
  · unfold ob at hg; simp at hg; omega
theorem own_empty (w : World) (base : Nat) (e : TypeId) (q : Nat) (V : Nat → Nat → Value) {H : Nat} (hH : w.heap.size = H) (hb : base ≤ w.heap.size) : Own (w.alloc (.cells #[] e)) base e q (some ⟨H, 0, none⟩) 0 0 V := by
  subst hH
  exact ⟨_, World.ownsRow_lit (size := q) w #[] 0 hb (by rw [maxLen_eq]; omega) (by simp), fun i j hi => absurd hi (by omega)⟩
theorem Blk.grown {w w' : World} {g : Nat} {t : TypeId} {cs : Array Value} {row : Option Nat} (h : Blk w g t cs) (hg : w.grownBy w' row) (hne : ∀ k, row = some k → g < k) : Blk w' g t cs := (hg.block g h.lt (fun e => by have := hne g e.symm; omega)).trans h
def row6 (a b c d e f : Int) : Nat → Nat → Int := fun _ j => if j = 0 then a else if j = 1 then b else if j = 2 then c else if j = 3 then d else if j = 4 then e else f
theorem rd_row6 (w : World) (t : TypeId) (a b c d e f : Int) {H : Nat} (hH : w.heap.size = H) : Rd (w.alloc (.cells #[.int .i64 a, .int .i64 b, .int .i64 c, .int .i64 d, .int .i64 e, .int .i64 f] t)) 6 (some ⟨H, 0, none⟩) 1 1 (iv (row6 a b c d e f)) := by
  subst hH
  exact Rd.of_blk (Blk.new w t _) (Nat.le_refl _) (by omega) fun i j hi hj => by
    match i, j, hi, hj with
    | 0, 0, _, _ => rfl
    | 0, 1, _, _ => rfl
    | 0, 2, _, _ => rfl
    | 0, 3, _, _ => rfl
    | 0, 4, _, _ => rfl
    | 0, 5, _, _ => rfl
theorem own_sn6 {w : World} {B0 : Nat} {e : TypeId} {A : Option Addr} {j c : Nat} {F : Nat → Nat → Int} {a0 a1 a2 a3 a4 a5 : Int} (h : Own w B0 e 6 A (j + 1) c (app j (iv F) (iv (row6 a0 a1 a2 a3 a4 a5)))) (G : Nat → Nat → Int) (h1 : ∀ i f, i < j → G i f = F i f)
    (h2 : G j 0 = a0 ∧ G j 1 = a1 ∧ G j 2 = a2 ∧ G j 3 = a3 ∧ G j 4 = a4 ∧ G j 5 = a5) : Own w B0 e 6 A (j + 1) c (iv G) :=
  h.congr fun i f hi hf => by
    rw [app_int]
    unfold iv
    show Value.int .i64 (if i < j then F i f else row6 a0 a1 a2 a3 a4 a5 (i - j) f) = Value.int .i64 (G i f)
    by_cases q : i < j
    · rw [if_pos q, h1 i f q]
    · obtain rfl : i = j := by omega
      rw [if_neg q]
      obtain ⟨g0, g1, g2, g3, g4, g5⟩ := h2
      match f, hf with
      | 0, _ => rw [g0]; rfl
      | 1, _ => rw [g1]; rfl
      | 2, _ => rw [g2]; rfl
      | 3, _ => rw [g3]; rfl
      | 4, _ => rw [g4]; rfl
      | 5, _ => rw [g5]; rfl
end Go.Proofs.Ytcgcocingfhleaa
