/-
  Contracts: Check.
-/
import Derived.Test.YtoebjiocmnonnaaChecked
import Derived.Test.YtoebjiocmnonnaaPlain
import Derived.WalkKit
import Derived.WalkSpells
import Derived.WalkLawsBesides
import Derived.Outline
import Derived.Lib.Hide
import Derived.Lib.SmallJoins
import Derived.Deep.RegionHeld3
import Derived.Deep.RegionWith
import Derived.IntWalk
namespace Go.Proofs.Ytoebjiocmnonnaa
set_option linter.unusedVariables false
open Go.RowKit

theorem bt {w w1 w2 : World} (h : Below w.heap.size w w1) (k : Below w1.heap.size w1 w2) : Below w.heap.size w w2 := h.trans (k.mono h.size)
theorem ba (w : World) (o : Obj) : Below w.heap.size w (w.alloc o) := (Below.refl _ _).alloc (Nat.le_refl _) o
theorem bal {w w1 : World} (h : Below w.heap.size w w1) (o : Obj) : Below w.heap.size w (w1.alloc o) := h.alloc h.size o
theorem bcell {W w1 : World} (hb : Below W.heap.size W w1) : (∀ b o, b < W.heap.size → w1.cell? ⟨b, o, none⟩ = W.cell? ⟨b, o, none⟩) ∧ (∀ b o, b < W.heap.size → w1.frozen? ⟨b, o, none⟩ = W.frozen? ⟨b, o, none⟩) :=
  ⟨fun b o h => hb.cell (p := ⟨b, o, none⟩) h, fun b o h => hb.frozen (p := ⟨b, o, none⟩) h⟩
theorem ret_int {k : IntKind} {a b : Int} (h : a = b) : Ending.returned (.int k a) = .returned (.int k b) := by rw [h]
theorem ret_bool {a b : Bool} (h : a = b) : Ending.returned (.bool a) = .returned (.bool b) := by rw [h]
theorem ret_ints {k l : IntKind} {a b c d : Int} (h : a = b) (h2 : c = d) : Ending.returned (.tuple #[.int k a, .int l c]) = .returned (.tuple #[.int k b, .int l d]) := by rw [h, h2]
theorem ret_acc {a b c d e a' b' c' d' e' : Int} (h1 : a = a') (h2 : b = b') (h3 : c = c') (h4 : d = d') (h5 : e = e') :
    Ending.returned (.tuple #[.agg #[.int .i64 a, .int .i64 b, .int .i64 c, .int .i64 d], .int .i64 e]) = .returned (.tuple #[.agg #[.int .i64 a', .int .i64 b', .int .i64 c', .int .i64 d'], .int .i64 e']) := by rw [h1, h2, h3, h4, h5]
theorem acc_keep {g : Nat} {w W w2 : World} {v0 v1 v2 v3 : Value} (h : W.cell? ⟨g, 0, none⟩ = some v0 ∧ W.cell? ⟨g, 1, none⟩ = some v1 ∧ W.cell? ⟨g, 2, none⟩ = some v2 ∧ W.cell? ⟨g, 3, none⟩ = some v3 ∧ g < W.heap.size ∧ Below w.heap.size w W)
    (hb : Below W.heap.size W w2) : w2.cell? ⟨g, 0, none⟩ = some v0 ∧ w2.cell? ⟨g, 1, none⟩ = some v1 ∧ w2.cell? ⟨g, 2, none⟩ = some v2 ∧ w2.cell? ⟨g, 3, none⟩ = some v3 ∧ g < w2.heap.size ∧ Below w.heap.size w w2 := by
  obtain ⟨a, b, c, d, e, f⟩ := h
  obtain ⟨hc, _⟩ := bcell hb
  have := hb.size
  exact ⟨(hc _ _ e).trans a, (hc _ _ e).trans b, (hc _ _ e).trans c, (hc _ _ e).trans d, by omega, bt f hb⟩
theorem two_cells {w w1 : World} {a0 a1 a2 a3 z0 z1 z2 z3 : Value} {t u : TypeId} (hb : Below ((w.alloc (.cells #[a0, a1, a2, a3] t)).alloc (.cells #[z0, z1, z2, z3] u)).heap.size ((w.alloc (.cells #[a0, a1, a2, a3] t)).alloc (.cells #[z0, z1, z2, z3] u)) w1) :
    w1.cell? ⟨w.heap.size, 0, none⟩ = some a0 ∧ w1.cell? ⟨w.heap.size, 1, none⟩ = some a1 ∧ w1.cell? ⟨w.heap.size, 2, none⟩ = some a2 ∧ w1.cell? ⟨w.heap.size, 3, none⟩ = some a3 ∧
    w1.cell? ⟨w.heap.size + 1, 0, none⟩ = some z0 ∧ w1.cell? ⟨w.heap.size + 1, 1, none⟩ = some z1 ∧ w1.cell? ⟨w.heap.size + 1, 2, none⟩ = some z2 ∧ w1.cell? ⟨w.heap.size + 1, 3, none⟩ = some z3 ∧
    (∀ o, w1.frozen? ⟨w.heap.size, o, none⟩ = false) ∧ (∀ o, w1.frozen? ⟨w.heap.size + 1, o, none⟩ = false) ∧ w.heap.size + 1 < w1.heap.size ∧ Below w.heap.size w w1 := by
  obtain ⟨hc, hf⟩ := bcell hb
  have hz : w.heap.size + 1 < w1.heap.size := by have := hb.size; simp at this; omega
  have s : ((w.alloc (.cells #[a0, a1, a2, a3] t)).alloc (.cells #[z0, z1, z2, z3] u)).heap.size = w.heap.size + 2 := by simp
  refine ⟨(hc _ _ (by omega)).trans ?_, (hc _ _ (by omega)).trans ?_, (hc _ _ (by omega)).trans ?_, (hc _ _ (by omega)).trans ?_, (hc _ _ (by omega)).trans ?_, (hc _ _ (by omega)).trans ?_, (hc _ _ (by omega)).trans ?_, (hc _ _ (by omega)).trans ?_,
    fun o => (hf _ _ (by omega)).trans ?_, fun o => (hf _ _ (by omega)).trans ?_, hz, bt (bal (ba _ _) _) hb⟩ <;> simp [go_sem]
theorem acc_drew {g : Nat} {w W : World} {v0 v1 v2 v3 : Value} (h : W.cell? ⟨g, 0, none⟩ = some v0 ∧ W.cell? ⟨g, 1, none⟩ = some v1 ∧ W.cell? ⟨g, 2, none⟩ = some v2 ∧ W.cell? ⟨g, 3, none⟩ = some v3 ∧ g < W.heap.size ∧ Below w.heap.size w W) :
    W.drew.cell? ⟨g, 0, none⟩ = some v0 ∧ W.drew.cell? ⟨g, 1, none⟩ = some v1 ∧ W.drew.cell? ⟨g, 2, none⟩ = some v2 ∧ W.drew.cell? ⟨g, 3, none⟩ = some v3 ∧ g < W.drew.heap.size ∧ Below w.heap.size w W.drew :=
  ⟨h.1, h.2.1, h.2.2.1, h.2.2.2.1, h.2.2.2.2.1, h.2.2.2.2.2.drew⟩
theorem acc_new (v0 v1 v2 v3 : Value) (t : TypeId) (w : World) : (w.alloc (.cells #[v0, v1, v2, v3] t)).cell? ⟨w.heap.size, 0, none⟩ = some v0 ∧ (w.alloc (.cells #[v0, v1, v2, v3] t)).cell? ⟨w.heap.size, 1, none⟩ = some v1 ∧
    (w.alloc (.cells #[v0, v1, v2, v3] t)).cell? ⟨w.heap.size, 2, none⟩ = some v2 ∧ (w.alloc (.cells #[v0, v1, v2, v3] t)).cell? ⟨w.heap.size, 3, none⟩ = some v3 ∧ w.heap.size < (w.alloc (.cells #[v0, v1, v2, v3] t)).heap.size ∧ Below w.heap.size w (w.alloc (.cells #[v0, v1, v2, v3] t)) :=
  ⟨by simp [go_sem], by simp [go_sem], by simp [go_sem], by simp [go_sem], by simp, ba _ _⟩

set_option maxHeartbeats 1000000 in
theorem check_c (E L R B : Int) (w : World) : Calls Try.prog 24 #[.agg #[.int .i64 E, .int .i64 L, .int .i64 R, .int .i64 B]] w fun e w' => e = .returned (.int .i64 (Fu.ck E L R B)) ∧ Below w.heap.size w w' := by
  by_cases h : Fu.ok E L R B
  · rw [Fu.ck_yes h]
    obtain ⟨h1, h2, h3, h4, h5, h6, h7, h8⟩ := h
    go_enter Try.func24, Try.ntmps24
    go_wp2
    go_ret
    exact ⟨rfl, ba _ _⟩
  · rw [Fu.ck_no h]
    by_cases h1 : 1 ≤ E
    rotate_left
    · clear h
      go_enter Try.func24, Try.ntmps24
      go_wp2
      go_ret
      exact ⟨rfl, ba _ _⟩
    by_cases h2 : E ≤ 3000000000
    rotate_left
    · clear h
      go_enter Try.func24, Try.ntmps24
      go_wp2
      go_ret
      exact ⟨rfl, ba _ _⟩
    by_cases h3 : 0 ≤ L
    rotate_left
    · clear h
      go_enter Try.func24, Try.ntmps24
      go_wp2
      go_ret
      exact ⟨rfl, ba _ _⟩
    by_cases h4 : L ≤ 3000000000 - E
    rotate_left
    · clear h
      go_enter Try.func24, Try.ntmps24
      go_wp2
      go_ret
      exact ⟨rfl, ba _ _⟩
    by_cases h5 : 0 ≤ R
    rotate_left
    · clear h
      go_enter Try.func24, Try.ntmps24
      go_wp2
      go_ret
      exact ⟨rfl, ba _ _⟩
    by_cases h6 : R ≤ L
    rotate_left
    · clear h
      go_enter Try.func24, Try.ntmps24
      go_wp2
      go_ret
      exact ⟨rfl, ba _ _⟩
    by_cases h7 : 0 ≤ B
    rotate_left
    · clear h
      go_enter Try.func24, Try.ntmps24
      go_wp2
      go_ret
      exact ⟨rfl, ba _ _⟩
    by_cases h8 : B ≤ L
    rotate_left
    · clear h
      go_enter Try.func24, Try.ntmps24
      go_wp2
      go_ret
      exact ⟨rfl, ba _ _⟩
    exact absurd ⟨h1, h2, h3, h4, h5, h6, h7, h8⟩ h

set_option maxHeartbeats 1000000 in
theorem rcheck_c (E L R B : Int) (w : World) : Calls Try.prog 25 #[.agg #[.int .i64 E, .int .i64 L, .int .i64 R, .int .i64 B]] w fun e w' => e = .returned (.int .i64 (Fu.ck E L R B)) ∧ Below w.heap.size w w' := by
  by_cases h : Fu.ok E L R B
  · rw [Fu.ck_yes h]
    obtain ⟨h1, h2, h3, h4, h5, h6, h7, h8⟩ := h
    go_enter Try.func25, Try.ntmps25
    go_wp2
    go_ret
    exact ⟨rfl, ba _ _⟩
  · rw [Fu.ck_no h]
    by_cases h1 : 1 ≤ E
    rotate_left
    · clear h
      go_enter Try.func25, Try.ntmps25
      go_wp2
      go_ret
      exact ⟨rfl, ba _ _⟩
    by_cases h2 : E ≤ 3000000000
    rotate_left
    · clear h
      go_enter Try.func25, Try.ntmps25
      go_wp2
      go_ret
      exact ⟨rfl, ba _ _⟩
    by_cases h3 : 0 ≤ L
    rotate_left
    · clear h
      go_enter Try.func25, Try.ntmps25
      go_wp2
      go_ret
      exact ⟨rfl, ba _ _⟩
    by_cases h4 : L ≤ 3000000000 - E
    rotate_left
    · clear h
      go_enter Try.func25, Try.ntmps25
      go_wp2
      go_ret
      exact ⟨rfl, ba _ _⟩
    by_cases h5 : 0 ≤ R
    rotate_left
    · clear h
      go_enter Try.func25, Try.ntmps25
      go_wp2
      go_ret
      exact ⟨rfl, ba _ _⟩
    by_cases h6 : R ≤ L
    rotate_left
    · clear h
      go_enter Try.func25, Try.ntmps25
      go_wp2
      go_ret
      exact ⟨rfl, ba _ _⟩
    by_cases h7 : 0 ≤ B
    rotate_left
    · clear h
      go_enter Try.func25, Try.ntmps25
      go_wp2
      go_ret
      exact ⟨rfl, ba _ _⟩
    by_cases h8 : B ≤ L
    rotate_left
    · clear h
      go_enter Try.func25, Try.ntmps25
      go_wp2
      go_ret
      exact ⟨rfl, ba _ _⟩
    exact absurd ⟨h1, h2, h3, h4, h5, h6, h7, h8⟩ h

end Go.Proofs.Ytoebjiocmnonnaa
