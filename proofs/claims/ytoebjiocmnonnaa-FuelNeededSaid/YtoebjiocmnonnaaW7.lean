/-
  The chapter's examples (awake) return true.
-/
import Derived.Test.YtoebjiocmnonnaaW4
import Derived.Test.YtoebjiocmnonnaaW6
namespace Go.Proofs.Ytoebjiocmnonnaa
set_option linter.unusedVariables false
open Go.RowKit

/-- Four cells of one block, none frozen. -/
def Acc (w : World) (g : Nat) (v0 v1 v2 v3 : Value) : Prop :=
  w.cell? ⟨g, 0, none⟩ = some v0 ∧ w.cell? ⟨g, 1, none⟩ = some v1 ∧ w.cell? ⟨g, 2, none⟩ = some v2 ∧ w.cell? ⟨g, 3, none⟩ = some v3 ∧ (∀ o, w.frozen? ⟨g, o, none⟩ = false) ∧ g < w.heap.size
theorem Acc.keep {w w1 : World} {g : Nat} {v0 v1 v2 v3 : Value} (h : Acc w g v0 v1 v2 v3) (hb : Below w.heap.size w w1) : Acc w1 g v0 v1 v2 v3 := by
  obtain ⟨a, b, c, d, e, f⟩ := h
  obtain ⟨hc, hf⟩ := bcell hb
  have := hb.size
  exact ⟨(hc _ _ f).trans a, (hc _ _ f).trans b, (hc _ _ f).trans c, (hc _ _ f).trans d, fun o => (hf _ _ f).trans (e o), by omega⟩
theorem Acc.new (w : World) (v0 v1 v2 v3 : Value) (t : TypeId) : Acc (w.alloc (.cells #[v0, v1, v2, v3] t)) w.heap.size v0 v1 v2 v3 :=
  ⟨by simp [go_sem], by simp [go_sem], by simp [go_sem], by simp [go_sem], fun o => by simp [go_sem], by simp⟩
theorem Acc.alloc {w : World} {g : Nat} {v0 v1 v2 v3 : Value} (h : Acc w g v0 v1 v2 v3) (o : Obj) : Acc (w.alloc o) g v0 v1 v2 v3 := h.keep (ba w o)

theorem aw1 (w : World) : Calls Try.prog 21 #[.int .i64 1000, .int .i64 600, .int .i64 100] w fun e w' => e = .returned (.tuple #[.agg #[.int .i64 1000, .int .i64 600, .int .i64 100, .int .i64 0], .int .i64 0]) ∧ Below w.heap.size w w' :=
  (new_c 1000 600 100 w).mono fun _ _ ⟨h, hb⟩ => ⟨h.trans (ret_acc (by decide) (by decide) (by decide) rfl (by decide)), hb⟩
theorem aw2 (w : World) : Calls Try.prog 12 #[.agg #[.int .i64 1000, .int .i64 600, .int .i64 100, .int .i64 0], .int .i64 10, .int .i64 50] w fun e w' => e = .returned (.tuple #[.agg #[.int .i64 1000, .int .i64 600, .int .i64 100, .int .i64 500], .int .i64 0]) ∧ Below w.heap.size w w' :=
  (burn_c 1000 600 100 0 10 50 w).mono fun _ _ ⟨h, hb⟩ => ⟨h.trans (ret_acc (by decide) (by decide) (by decide) (by decide) (by decide)), hb⟩
theorem aw3 (w : World) : Calls Try.prog 12 #[.agg #[.int .i64 1000, .int .i64 600, .int .i64 100, .int .i64 500], .int .i64 10, .int .i64 1] w fun e w' => e = .returned (.tuple #[.agg #[.int .i64 1000, .int .i64 600, .int .i64 100, .int .i64 510], .int .i64 0]) ∧ Below w.heap.size w w' :=
  (burn_c 1000 600 100 500 10 1 w).mono fun _ _ ⟨h, hb⟩ => ⟨h.trans (ret_acc (by decide) (by decide) (by decide) (by decide) (by decide)), hb⟩
theorem aw4 (w : World) : Calls Try.prog 14 #[.agg #[.int .i64 1000, .int .i64 600, .int .i64 100, .int .i64 0], .int .i64 7] w fun e w' => e = .returned (.tuple #[.int .i64 71, .int .i64 0]) ∧ Below w.heap.size w w' :=
  (endur_c 1000 600 100 0 7 w).mono fun _ _ ⟨h, hb⟩ => ⟨h.trans (ret_ints (by decide) (by decide)), hb⟩
theorem aw5 (w : World) : Calls Try.prog 22 #[.agg #[.int .i64 1000, .int .i64 600, .int .i64 100, .int .i64 500]] w fun e w' => e = .returned (.int .i64 100) ∧ Below w.heap.size w w' :=
  (left_c 1000 600 100 500 w).mono fun _ _ ⟨h, hb⟩ => ⟨h.trans (ret_int (by decide)), hb⟩
theorem aw6 (w : World) : Calls Try.prog 20 #[.agg #[.int .i64 1000, .int .i64 600, .int .i64 100, .int .i64 500]] w fun e w' => e = .returned (.bool false) ∧ Below w.heap.size w w' :=
  (low_c 1000 600 100 500 w).mono fun _ _ ⟨h, hb⟩ => ⟨h.trans (ret_bool (by decide)), hb⟩
theorem aw7 (w : World) : Calls Try.prog 22 #[.agg #[.int .i64 1000, .int .i64 600, .int .i64 100, .int .i64 510]] w fun e w' => e = .returned (.int .i64 90) ∧ Below w.heap.size w w' :=
  (left_c 1000 600 100 510 w).mono fun _ _ ⟨h, hb⟩ => ⟨h.trans (ret_int (by decide)), hb⟩
theorem aw8 (w : World) : Calls Try.prog 20 #[.agg #[.int .i64 1000, .int .i64 600, .int .i64 100, .int .i64 510]] w fun e w' => e = .returned (.bool true) ∧ Below w.heap.size w w' :=
  (low_c 1000 600 100 510 w).mono fun _ _ ⟨h, hb⟩ => ⟨h.trans (ret_bool (by decide)), hb⟩
theorem aw9 (w : World) : Calls Try.prog 16 #[.agg #[.int .i64 500, .int .i64 600], .agg #[.int .i64 2, .int .i64 3], .agg #[.int .i64 10, .int .i64 20]] w fun e w' => e = .returned (.tuple #[.agg #[.int .i64 440, .int .i64 580], .int .i64 0]) ∧ Below w.heap.size w w' :=
  (burnin_c 500 600 2 3 10 20 w).mono fun _ _ ⟨h, hb⟩ => ⟨h.trans (ret_iv (by decide) (by decide) (by decide)), hb⟩
theorem awN : Fu.ndE [10, 5] [20, 4] 30 = 0 := Fu.nd_4 rfl (by decide) (by
  rintro (h | h | h | h)
  · exact absurd h (by decide)
  · exact absurd h (by decide)
  · exact h (fun k hk => by
      have : k = 0 ∨ k = 1 := by simp at hk; omega
      rcases this with rfl | rfl <;> decide)
  · exact absurd h (by decide))
theorem aw10 (w : World) (a b : Nat) (h0 : w.cell? ⟨a, 0, none⟩ = some (.int .i64 10)) (h1 : w.cell? ⟨a, 1, none⟩ = some (.int .i64 5)) (h2 : w.cell? ⟨b, 0, none⟩ = some (.int .i64 20)) (h3 : w.cell? ⟨b, 1, none⟩ = some (.int .i64 4)) :
    Calls Try.prog 18 #[.slice (some ⟨a, 0, none⟩) 2 2, .slice (some ⟨b, 0, none⟩) 2 2, .int .i64 30] w fun e w' => e = .returned (.tuple #[.int .i64 250, .int .i64 0]) ∧ Below w.heap.size w w' :=
  (needed_c (some ⟨a, 0, none⟩) (some ⟨b, 0, none⟩) 2 2 [10, 5] [20, 4] 30 w
    (Or.inr ⟨a, 0, rfl, fun k hk => by
      have : k = 0 ∨ k = 1 := by simp at hk; omega
      rcases this with rfl | rfl <;> assumption⟩)
    (Or.inr ⟨b, 0, rfl, fun k hk => by
      have : k = 0 ∨ k = 1 := by simp at hk; omega
      rcases this with rfl | rfl <;> assumption⟩) (by decide) (by decide)).mono
    fun _ _ ⟨h, hb⟩ => ⟨h.trans (ret_ints (by unfold Fu.ndV; rw [awN]; decide) awN), hb⟩

set_option maxHeartbeats 2000000 in
theorem awake_c (w : World) : Calls Try.prog 11 #[] w fun e w' => e = .returned (.bool true) ∧ Below w.heap.size w w' := by
  go_enter Try.func11, Try.ntmps11
  go_wp2_with fail
  refine (aw1 _).mono ?_
  rintro e w1 ⟨rfl, hb1⟩
  go_wp2_with fail
  refine (aw2 _).mono ?_
  rintro e w2 ⟨rfl, hb2⟩
  have A2 := (Acc.new w1 _ _ _ _ _).keep hb2
  go_wp2_with fail
  refine (aw3 _).mono ?_
  rintro e w3 ⟨rfl, hb3⟩
  have A3 := (A2.alloc _).keep hb3
  have B3 := (Acc.new w2 _ _ _ _ _).keep hb3
  obtain ⟨a0, a1, a2, a3, a4, a5⟩ := A3.alloc (.cells #[.int .i64 1000, .int .i64 600, .int .i64 100, .int .i64 510] 23)
  go_wp2_with fail
  refine (aw4 _).mono ?_
  rintro e w4 ⟨rfl, hb4⟩
  have B4 := (B3.alloc _).keep hb4
  have C4 := (Acc.new w3 _ _ _ _ _).keep hb4
  clear a0 a1 a2 a3 a4 a5 A3
  obtain ⟨b0, b1, b2, b3, b4, b5⟩ := B4
  go_wp2_with fail
  refine (aw5 _).mono ?_
  rintro e w5 ⟨rfl, hb5⟩
  have B5 := Acc.keep ⟨b0, b1, b2, b3, b4, b5⟩ hb5
  have C5 := C4.keep hb5
  clear b0 b1 b2 b3 b4 b5 C4
  obtain ⟨b0, b1, b2, b3, b4, b5⟩ := B5
  go_wp2_with fail
  refine (aw6 _).mono ?_
  rintro e w6 ⟨rfl, hb6⟩
  have C6 := C5.keep hb6
  clear b0 b1 b2 b3 b4 b5 C5
  obtain ⟨b0, b1, b2, b3, b4, b5⟩ := C6
  go_wp2_with fail
  refine (aw7 _).mono ?_
  rintro e w7 ⟨rfl, hb7⟩
  have C7 := Acc.keep ⟨b0, b1, b2, b3, b4, b5⟩ hb7
  clear b0 b1 b2 b3 b4 b5
  obtain ⟨b0, b1, b2, b3, b4, b5⟩ := C7
  go_wp2_with fail
  refine (aw8 _).mono ?_
  rintro e w8 ⟨rfl, hb8⟩
  clear b0 b1 b2 b3 b4 b5
  go_wp2_with fail
  refine (aw9 _).mono ?_
  rintro e w9 ⟨rfl, hb9⟩
  go_wp2_with fail
  refine (aw10 _ _ _ (by simp [go_sem]) (by simp [go_sem]) (by simp [go_sem]) (by simp [go_sem])).mono ?_
  rintro e w10 ⟨rfl, hb10⟩
  obtain ⟨hc, hf⟩ := bcell hb10
  go_wp2_with fail
  go_ret
  have h4 := bt (bal (bt (bal (bt (bal hb1 _) hb2) _) hb3) _) hb4
  have h9 := bt (bt (bt (bt (bt h4 hb5) hb6) hb7) hb8) hb9
  exact ⟨rfl, bt (bal (bal (bal h9 _) _) _) hb10⟩
end Go.Proofs.Ytoebjiocmnonnaa
