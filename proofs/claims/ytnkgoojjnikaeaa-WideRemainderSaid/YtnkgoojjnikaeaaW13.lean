/-
  Contracts: the reference's quotients, rounded.
-/
import Derived.Test.YtnkgoojjnikaeaaW9
import Derived.Test.YtnkgoojjnikaeaaW12
import Derived.Deep.DeepCutAuto
namespace Go.Proofs.Ytnkgoojjnikaeaa
set_option linter.unusedVariables false
set_option linter.unusedSimpArgs false
open Go.RowKit

theorem cm_ne {y : Int} (h : y ≠ 0) : (Wi.cm y 0 == 0) = false := by
  unfold Wi.cm
  by_cases a : y < 0
  · rw [if_pos a]; rfl
  · rw [if_neg a, if_neg h]; rfl
theorem zb_mod {h l m : Int} (H : Wi.Sz h l m) : Wi.zb m = !(h != 0 || l != 0) := by
  have b := H.bd
  unfold Wi.zb
  by_cases a : h = 0
  · by_cases c : l = 0
    · rw [decide_eq_true (by omega), show (h != 0) = false by simp [a], show (l != 0) = false by simp [c]]; rfl
    · rw [decide_eq_false (by omega), show (l != 0) = true by simp [c], Bool.or_true]; rfl
  · rw [decide_eq_false (by omega), show (h != 0) = true by simp [a], Bool.true_or]; rfl
theorem dec_ng {h l x : Int} (H : Wi.Wd h l x) : decide (h < 0) = Wi.ngb x := by
  have b := H.bd
  unfold Wi.ngb
  by_cases a : h < 0
  · rw [decide_eq_true a, decide_eq_true (by omega)]
  · rw [decide_eq_false a, decide_eq_false (by omega)]
set_option maxRecDepth 100000 in
set_option maxHeartbeats 2000000 in
theorem rquot_0 (h l x h' l' way : Int) (w : World) (H : Wi.Wd h l x) (H' : Wi.Wd h' l' 0) : Calls Try.prog 48 #[.agg #[.int .i64 h, .int .u64 l], .agg #[.int .i64 h', .int .u64 l'], .int .i64 way] w fun e w' =>
    e = .returned (.tuple #[.agg #[.int .i64 0, .int .u64 0], .bool false]) ∧ Below w.heap.size w w' := by
  have hc0 : Wi.cm 0 0 = 0 := rfl
  go_enter Try.func48, Try.ntmps48
  go_wp2_with fail
  refine (rsign_c _ _ _ _ H').mono ?_
  rintro e w1 ⟨rfl, hb1⟩
  have X := ((Blk.new w 24 #[.int .i64 h, .int .u64 l]).alloc (.cells #[.int .i64 h', .int .u64 l'] 24)).alloc (.cells #[.int .i64 0, .int .u64 0] 24) |>.keep hb1
  have Y := (Blk.new1 w _ _ _).alloc _ |>.keep hb1
  have R := (Blk.new2 w _ _ _ _).keep hb1
  have hB := bt (bal (bal (ba w _) _) _) hb1
  clear hb1
  obtain ⟨r0, r1, r2, r3⟩ := R.open2
  obtain ⟨x0, x1, x2, x3⟩ := X.open2
  obtain ⟨y0, y1, y2, y3⟩ := Y.open2
  go_wp2_with fail
  refine bodyPost_ret (by simp [results, Try.results48, go_sem, r0, r1, r2, r3]; try rfl) rfl ?_
  exact ⟨rfl, by repeat (first | exact Below.refl _ _ | (with_reducible assumption) | (with_reducible apply bal) | (with_reducible apply bdr) | (with_reducible apply bdnl) | (with_reducible refine bst ?_ (by first | (simp; done) | (simp; omega) | omega) _) | (with_reducible refine bt ?_ (by with_reducible assumption)))⟩
theorem near_gt {x y : Int} (h : Wi.ab y - Wi.ab x % Wi.ab y < Wi.ab x % Wi.ab y) : Wi.awb x y 0 = true := by
  unfold Wi.awb; rw [if_pos rfl, decide_eq_true h]; rfl
theorem near_eq {x y : Int} (h : Wi.ab x % Wi.ab y = Wi.ab y - Wi.ab x % Wi.ab y) : Wi.awb x y 0 = !Wi.ngq x y := by
  unfold Wi.awb; rw [if_pos rfl, decide_eq_true h, decide_eq_false (by omega)]; rfl
theorem near_lt {x y : Int} (h : Wi.ab x % Wi.ab y < Wi.ab y - Wi.ab x % Wi.ab y) : Wi.awb x y 0 = false := by
  unfold Wi.awb; rw [if_pos rfl, decide_eq_false (by omega), decide_eq_false (by omega)]; rfl
end Go.Proofs.Ytnkgoojjnikaeaa
