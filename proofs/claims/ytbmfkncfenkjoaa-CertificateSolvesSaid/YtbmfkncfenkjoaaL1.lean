/-
  Contract: better.
-/
import Derived.Test.YtbmfkncfenkjoaaL0
namespace Go.Proofs.Ytbmfkncfenkjoaa
set_option linter.unusedVariables false
set_option linter.unusedSimpArgs false
open Go.RowKit
attribute [local irreducible] World.setCell World.cell?

def Ce.bet (C D c e : Int) : Bool := decide (C < 0 ∨ Ce.lt2 c e C D)
theorem Ce.bet_iff {C D c e : Int} : Ce.bet C D c e = true ↔ C < 0 ∨ Ce.lt2 c e C D := by unfold Ce.bet; exact decide_eq_true_iff
theorem Ce.bet_no {C D c e : Int} : Ce.bet C D c e = false ↔ ¬ (C < 0 ∨ Ce.lt2 c e C D) := by unfold Ce.bet; exact decide_eq_false_iff_not
set_option maxRecDepth 100000 in
set_option maxHeartbeats 4000000 in
theorem better_c (C D c e : Int) (F : Bool) (w : World) : Calls Try.prog 39 #[.agg #[.int .i64 C, .int .i64 D, .bool F], .int .i64 c, .int .i64 e] w fun e_ w' => e_ = .returned (.bool (Ce.bet C D c e)) ∧ Below w.heap.size w w' := by
  by_cases q1 : C < 0
  · have HE := Lib.hid (show Ce.bet C D c e = true from Ce.bet_iff.2 (by unfold Ce.lt2; omega))
    go_enter Try.func39, Try.ntmps39
    have Lb := Blk.new w 70 #[.int .i64 (C), .int .i64 (D), .bool F]
    have hB := ba w (.cells #[.int .i64 (C), .int .i64 (D), .bool F] 70)
    obtain ⟨c00, c01, c02, c03, c04⟩ := Lb.open3
    go_wp2_with fail
    go_returns
    exact ⟨ret_bool HE.out.symm, hB⟩
  by_cases q2 : c < C
  · have HE := Lib.hid (show Ce.bet C D c e = true from Ce.bet_iff.2 (by unfold Ce.lt2; omega))
    go_enter Try.func39, Try.ntmps39
    have Lb := Blk.new w 70 #[.int .i64 (C), .int .i64 (D), .bool F]
    have hB := ba w (.cells #[.int .i64 (C), .int .i64 (D), .bool F] 70)
    obtain ⟨c00, c01, c02, c03, c04⟩ := Lb.open3
    go_wp2_with fail
    go_returns
    exact ⟨ret_bool HE.out.symm, hB⟩
  by_cases q3 : c = C
  rotate_left
  · have HE := Lib.hid (show Ce.bet C D c e = false from Ce.bet_no.2 (by unfold Ce.lt2; omega))
    have q4 : (c == C) = false := by simpa using q3
    have d2 : decide (c < C) = false := decide_eq_false q2
    clear q3
    go_enter Try.func39, Try.ntmps39
    have Lb := Blk.new w 70 #[.int .i64 (C), .int .i64 (D), .bool F]
    have hB := ba w (.cells #[.int .i64 (C), .int .i64 (D), .bool F] 70)
    obtain ⟨c00, c01, c02, c03, c04⟩ := Lb.open3
    go_wp2_with fail
    go_returns
    exact ⟨ret_bool HE.out.symm, hB⟩
  have q4 : (c == C) = true := by simpa using q3
  have d2 : decide (c < C) = false := decide_eq_false q2
  by_cases q5 : e < D
  · have HE := Lib.hid (show Ce.bet C D c e = true from Ce.bet_iff.2 (by unfold Ce.lt2; omega))
    clear q3
    go_enter Try.func39, Try.ntmps39
    have Lb := Blk.new w 70 #[.int .i64 (C), .int .i64 (D), .bool F]
    have hB := ba w (.cells #[.int .i64 (C), .int .i64 (D), .bool F] 70)
    obtain ⟨c00, c01, c02, c03, c04⟩ := Lb.open3
    go_wp2_with fail
    go_returns
    exact ⟨ret_bool HE.out.symm, hB⟩
  · have HE := Lib.hid (show Ce.bet C D c e = false from Ce.bet_no.2 (by unfold Ce.lt2; omega))
    have d5 : decide (e < D) = false := decide_eq_false q5
    clear q3
    go_enter Try.func39, Try.ntmps39
    have Lb := Blk.new w 70 #[.int .i64 (C), .int .i64 (D), .bool F]
    have hB := ba w (.cells #[.int .i64 (C), .int .i64 (D), .bool F] 70)
    obtain ⟨c00, c01, c02, c03, c04⟩ := Lb.open3
    go_wp2_with fail
    go_returns
    exact ⟨ret_bool HE.out.symm, hB⟩
end Go.Proofs.Ytbmfkncfenkjoaa
