/-
  The walk of IntervalMakes.
-/
import Derived.Test.YtclohghongpfkaaI15
namespace Go.Proofs.Ytclohghongpfkaa
set_option linter.unusedVariables false
set_option linter.unusedSimpArgs false
open Go.RowKit

set_option maxRecDepth 100000 in
set_option maxHeartbeats 4000000 in
theorem law_makes (l h l' h' u : Int) (w : World) : Calls Try.prog 5 #[.agg #[.int .i64 l, .int .i64 h], .agg #[.int .i64 l', .int .i64 h'], .int .i64 u] w fun e w' => e = .returned (.bool true) ∧ Below w.heap.size w w' := by
  go_enter Try.func5, Try.ntmps5
  have X := Blk.new w 23 #[.int .i64 (l), .int .i64 (h)]
  have hB := ba w (.cells #[.int .i64 (l), .int .i64 (h)] 23)
  have Y := Blk.new1 w (.cells #[.int .i64 (l), .int .i64 (h)] 23) 23 #[.int .i64 (l'), .int .i64 (h')]
  replace X := X.alloc (.cells #[.int .i64 (l'), .int .i64 (h')] 23)
  replace hB := bal hB (.cells #[.int .i64 (l'), .int .i64 (h')] 23)
  go_wp2_with fail
  refine (awake_ci _).mono ?_
  rintro e w1 ⟨rfl, hb⟩
  replace X := X.keep hb
  replace Y := Y.keep hb
  replace hB := bt hB hb
  clear hb
  obtain ⟨c00, c01, c02, c03⟩ := X.open2
  go_wp2_with fail
  refine (make_c _ _ _).mono ?_
  rintro e w2 ⟨rfl, hb⟩
  clear c00 c01 c02 c03
  replace X := X.keep hb
  replace Y := Y.keep hb
  replace hB := bt hB hb
  clear hb
  have hz2 := hB.size
  have l2X := X.lt
  have l2Y := Y.lt
  replace X := X.alloc (.cells #[.int .i64 (Iv.mk l h).lo, .int .i64 (Iv.mk l h).hi] 23)
  replace Y := Y.alloc (.cells #[.int .i64 (Iv.mk l h).lo, .int .i64 (Iv.mk l h).hi] 23)
  replace hB := bal hB (.cells #[.int .i64 (Iv.mk l h).lo, .int .i64 (Iv.mk l h).hi] 23)
  have A := Blk.new w2 23 #[.int .i64 (Iv.mk l h).lo, .int .i64 (Iv.mk l h).hi]
  obtain ⟨c00, c01, c02, c03⟩ := X.open2
  obtain ⟨c10, c11, c12, c13⟩ := A.open2
  go_wp2_with fail
  refine (rmake_c _ _ _).mono ?_
  rintro e w3 ⟨rfl, hb⟩
  clear c00 c01 c02 c03 c10 c11 c12 c13
  replace X := X.keep hb
  replace Y := Y.keep hb
  replace A := A.keep hb
  replace hB := bt hB hb
  clear hb
  have hz3 := hB.size
  have l3X := X.lt
  have l3Y := Y.lt
  have l3A := A.lt
  replace X := X.alloc (.cells #[.int .i64 (Iv.mk l h).lo, .int .i64 (Iv.mk l h).hi] 23)
  replace Y := Y.alloc (.cells #[.int .i64 (Iv.mk l h).lo, .int .i64 (Iv.mk l h).hi] 23)
  replace A := A.alloc (.cells #[.int .i64 (Iv.mk l h).lo, .int .i64 (Iv.mk l h).hi] 23)
  replace hB := bal hB (.cells #[.int .i64 (Iv.mk l h).lo, .int .i64 (Iv.mk l h).hi] 23)
  have B := Blk.new w3 23 #[.int .i64 (Iv.mk l h).lo, .int .i64 (Iv.mk l h).hi]
  go_wp2_with fail
  generalize World.alloc w3 _ = W0 at X Y A B hB ⊢
  have hreg : ∀ w', Below W0.heap.size W0 w' → Below W0.heap.size W0 w' ∧ w'.cell? ⟨w.heap.size, 0, none⟩ = some (.int .i64 (l)) ∧ w'.cell? ⟨w.heap.size, 1, none⟩ = some (.int .i64 (h)) ∧ w'.cell? ⟨w.heap.size + 1, 0, none⟩ = some (.int .i64 (l')) ∧ w'.cell? ⟨w.heap.size + 1, 1, none⟩ = some (.int .i64 (h')) ∧ w'.cell? ⟨w2.heap.size, 0, none⟩ = some (.int .i64 (Iv.mk l h).lo) ∧ w'.cell? ⟨w2.heap.size, 1, none⟩ = some (.int .i64 (Iv.mk l h).hi) ∧ w'.cell? ⟨w3.heap.size, 0, none⟩ = some (.int .i64 (Iv.mk l h).lo) ∧ w'.cell? ⟨w3.heap.size, 1, none⟩ = some (.int .i64 (Iv.mk l h).hi) := fun w' h => ⟨h, (X.keep h).cell 0, (X.keep h).cell 1, (Y.keep h).cell 0, (Y.keep h).cell 1, (A.keep h).cell 0, (A.keep h).cell 1, (B.keep h).cell 0, (B.keep h).cell 1⟩
  go_region_held3 (fun w' => Below W0.heap.size W0 w' ∧ w'.cell? ⟨w.heap.size, 0, none⟩ = some (.int .i64 (l)) ∧ w'.cell? ⟨w.heap.size, 1, none⟩ = some (.int .i64 (h)) ∧ w'.cell? ⟨w.heap.size + 1, 0, none⟩ = some (.int .i64 (l')) ∧ w'.cell? ⟨w.heap.size + 1, 1, none⟩ = some (.int .i64 (h')) ∧ w'.cell? ⟨w2.heap.size, 0, none⟩ = some (.int .i64 (Iv.mk l h).lo) ∧ w'.cell? ⟨w2.heap.size, 1, none⟩ = some (.int .i64 (Iv.mk l h).hi) ∧ w'.cell? ⟨w3.heap.size, 0, none⟩ = some (.int .i64 (Iv.mk l h).lo) ∧ w'.cell? ⟨w3.heap.size, 1, none⟩ = some (.int .i64 (Iv.mk l h).hi)) (first | exact hreg _ (Below.refl _ _).drew | exact keepR hreg hbn (by assumption)) (first | (go_at_call 16; refine (same_ci _ _ _ _).mono ?_; rintro e wn ⟨rfl, hbn⟩) | (go_at_call 25; refine (valid_c _ _ _).mono ?_; rintro e wn ⟨rfl, hbn⟩) | (go_at_call 27; refine (has_c _ _ _ _).mono ?_; rintro e wn ⟨rfl, hbn⟩) | (go_at_call 29; refine (within_c _ _ _ _ _).mono ?_; rintro e wn ⟨rfl, hbn⟩) | (go_at_call 31; refine (width_c _ _ _).mono ?_; rintro e wn ⟨rfl, hbn⟩) | (go_at_call 26; refine (rvalid_c _ _ _).mono ?_; rintro e wn ⟨rfl, hbn⟩) | (go_at_call 28; refine (rhas_c _ _ _ _).mono ?_; rintro e wn ⟨rfl, hbn⟩) | (go_at_call 30; refine (rwithin_c _ _ _ _ _).mono ?_; rintro e wn ⟨rfl, hbn⟩) | (go_at_call 32; refine (rwidth_c _ _ _).mono ?_; rintro e wn ⟨rfl, hbn⟩))
  rename_i hS
  replace X := X.keep hS.1
  replace Y := Y.keep hS.1
  replace A := A.keep hS.1
  replace B := B.keep hS.1
  replace hB := bt hB hS.1
  clear hS hreg
  go_wp2_with fail
  go_returns
  exact ⟨rfl, hB⟩
end Go.Proofs.Ytclohghongpfkaa
