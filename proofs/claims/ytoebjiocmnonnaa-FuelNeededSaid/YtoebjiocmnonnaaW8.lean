/-
  The statements about one account: Burns, Accounts, Splits, Lasts.
-/
import Derived.Test.YtoebjiocmnonnaaBlkf
namespace Go.Proofs.Ytoebjiocmnonnaa
set_option linter.unusedVariables false
open Go.RowKit

set_option maxHeartbeats 2000000 in
theorem law_burns (E L R B f t : Int) (w : World) : Calls Try.prog 3 #[.agg #[.int .i64 E, .int .i64 L, .int .i64 R, .int .i64 B], .int .i64 f, .int .i64 t] w fun e w' => e = .returned (.bool true) ∧ Below w.heap.size w w' := by
  go_enter Try.func3, Try.ntmps3
  go_wp2_with fail
  refine (awake_c _).mono ?_
  rintro e w1 ⟨rfl, hb1⟩
  have A := (Blk.new w _ _).keep hb1
  obtain ⟨a0, a1, a2, a3, a4, a5⟩ := A.open4
  go_wp2_with fail
  refine (burn_c _ _ _ _ _ _ _).mono ?_
  rintro e w2 ⟨rfl, hb2⟩
  clear a0 a1 a2 a3 a4 a5
  replace A := A.keep hb2
  obtain ⟨a0, a1, a2, a3, a4, a5⟩ := A.open4
  go_wp2_with fail
  refine (rburn_c _ _ _ _ _ _ _).mono ?_
  rintro e w3 ⟨rfl, hb3⟩
  have X := (Blk.new w2 _ _).keep hb3
  clear a0 a1 a2 a3 a4 a5
  replace A := (A.alloc _).keep hb3
  obtain ⟨a0, a1, a2, a3, a4, a5⟩ := A.open4
  go_wp2_with fail
  refine (endur_c _ _ _ _ _ _).mono ?_
  rintro e w4 ⟨rfl, hb4⟩
  replace X := (X.alloc _).keep hb4
  have Y := (Blk.new w3 _ _).keep hb4
  clear a0 a1 a2 a3 a4 a5
  replace A := (A.alloc _).keep hb4
  obtain ⟨a0, a1, a2, a3, a4, a5⟩ := A.open4
  go_wp2_with fail
  refine (rendur_c _ _ _ _ _ _).mono ?_
  rintro e w5 ⟨rfl, hb5⟩
  replace X := X.keep hb5
  replace Y := Y.keep hb5
  clear a0 a1 a2 a3 a4 a5
  obtain ⟨x0, x1, x2, x3, x4, x5⟩ := X.open4
  obtain ⟨y0, y1, y2, y3, y4, y5⟩ := Y.open4
  go_wp2_with fail
  go_ret
  exact ⟨rfl, bt (bt (bal (bt (bal (bt (bt (ba _ _) hb1) hb2) _) hb3) _) hb4) hb5⟩

set_option maxHeartbeats 4000000 in
theorem law_accounts (E L R B : Int) (w : World) : Calls Try.prog 9 #[.agg #[.int .i64 E, .int .i64 L, .int .i64 R, .int .i64 B]] w fun e w' => e = .returned (.bool true) ∧ Below w.heap.size w w' := by
  go_enter Try.func9, Try.ntmps9
  go_wp2_with fail
  refine (awake_c _).mono ?_
  rintro e w1 ⟨rfl, hb1⟩
  have A := (Blk.new w _ _).keep hb1
  obtain ⟨a0, a1, a2, a3, a4, a5⟩ := A.open4
  go_wp2_with fail
  refine (new_c _ _ _ _).mono ?_
  rintro e w2 ⟨rfl, hb2⟩
  clear a0 a1 a2 a3 a4 a5
  replace A := A.keep hb2
  obtain ⟨a0, a1, a2, a3, a4, a5⟩ := A.open4
  go_wp2_with fail
  refine (rnew_c _ _ _ _).mono ?_
  rintro e w3 ⟨rfl, hb3⟩
  have X := (Blk.new w2 _ _).keep hb3
  clear a0 a1 a2 a3 a4 a5
  replace A := (A.alloc _).keep hb3
  have Y := Blk.new w3 23 #[.int .i64 (Fu.sel (Fu.ck E L R 0) E), .int .i64 (Fu.sel (Fu.ck E L R 0) L), .int .i64 (Fu.sel (Fu.ck E L R 0) R), .int .i64 0]
  have hB := bal (bt (bal (bt (bt (ba w _) hb1) hb2) _) hb3) (.cells #[.int .i64 (Fu.sel (Fu.ck E L R 0) E), .int .i64 (Fu.sel (Fu.ck E L R 0) L), .int .i64 (Fu.sel (Fu.ck E L R 0) R), .int .i64 0] 23)
  replace A := A.alloc (.cells #[.int .i64 (Fu.sel (Fu.ck E L R 0) E), .int .i64 (Fu.sel (Fu.ck E L R 0) L), .int .i64 (Fu.sel (Fu.ck E L R 0) R), .int .i64 0] 23)
  replace X := X.alloc (.cells #[.int .i64 (Fu.sel (Fu.ck E L R 0) E), .int .i64 (Fu.sel (Fu.ck E L R 0) L), .int .i64 (Fu.sel (Fu.ck E L R 0) R), .int .i64 0] 23)
  go_wp2_with fail
  generalize w3.alloc _ = W0 at A X Y hB ⊢
  have hreg : ∀ w', Below W0.heap.size W0 w' → Below W0.heap.size W0 w' ∧ w'.cell? ⟨w.heap.size, 0, none⟩ = some (.int .i64 E) ∧ w'.cell? ⟨w.heap.size, 1, none⟩ = some (.int .i64 L) ∧ w'.cell? ⟨w.heap.size, 2, none⟩ = some (.int .i64 R) ∧ w'.cell? ⟨w.heap.size, 3, none⟩ = some (.int .i64 B) ∧ w'.cell? ⟨w2.heap.size, 0, none⟩ = some (.int .i64 (Fu.sel (Fu.ck E L R 0) E)) ∧ w'.cell? ⟨w2.heap.size, 1, none⟩ = some (.int .i64 (Fu.sel (Fu.ck E L R 0) L)) ∧ w'.cell? ⟨w2.heap.size, 2, none⟩ = some (.int .i64 (Fu.sel (Fu.ck E L R 0) R)) ∧ w'.cell? ⟨w2.heap.size, 3, none⟩ = some (.int .i64 0) ∧ w'.cell? ⟨w3.heap.size, 0, none⟩ = some (.int .i64 (Fu.sel (Fu.ck E L R 0) E)) ∧ w'.cell? ⟨w3.heap.size, 1, none⟩ = some (.int .i64 (Fu.sel (Fu.ck E L R 0) L)) ∧ w'.cell? ⟨w3.heap.size, 2, none⟩ = some (.int .i64 (Fu.sel (Fu.ck E L R 0) R)) ∧ w'.cell? ⟨w3.heap.size, 3, none⟩ = some (.int .i64 0) := fun w' h => ⟨h, (A.keep h).cell 0, (A.keep h).cell 1, (A.keep h).cell 2, (A.keep h).cell 3, (X.keep h).cell 0, (X.keep h).cell 1, (X.keep h).cell 2, (X.keep h).cell 3, (Y.keep h).cell 0, (Y.keep h).cell 1, (Y.keep h).cell 2, (Y.keep h).cell 3⟩
  go_region_held3 (fun w' => Below W0.heap.size W0 w' ∧ w'.cell? ⟨w.heap.size, 0, none⟩ = some (.int .i64 E) ∧ w'.cell? ⟨w.heap.size, 1, none⟩ = some (.int .i64 L) ∧ w'.cell? ⟨w.heap.size, 2, none⟩ = some (.int .i64 R) ∧ w'.cell? ⟨w.heap.size, 3, none⟩ = some (.int .i64 B) ∧ w'.cell? ⟨w2.heap.size, 0, none⟩ = some (.int .i64 (Fu.sel (Fu.ck E L R 0) E)) ∧ w'.cell? ⟨w2.heap.size, 1, none⟩ = some (.int .i64 (Fu.sel (Fu.ck E L R 0) L)) ∧ w'.cell? ⟨w2.heap.size, 2, none⟩ = some (.int .i64 (Fu.sel (Fu.ck E L R 0) R)) ∧ w'.cell? ⟨w2.heap.size, 3, none⟩ = some (.int .i64 0) ∧ w'.cell? ⟨w3.heap.size, 0, none⟩ = some (.int .i64 (Fu.sel (Fu.ck E L R 0) E)) ∧ w'.cell? ⟨w3.heap.size, 1, none⟩ = some (.int .i64 (Fu.sel (Fu.ck E L R 0) L)) ∧ w'.cell? ⟨w3.heap.size, 2, none⟩ = some (.int .i64 (Fu.sel (Fu.ck E L R 0) R)) ∧ w'.cell? ⟨w3.heap.size, 3, none⟩ = some (.int .i64 0)) (first | exact hreg _ (Below.refl _ _).drew | exact keepR hreg hbn (by assumption)) (first | (go_at_call 24; refine (check_c _ _ _ _ _).mono ?_; rintro e wn ⟨rfl, hbn⟩) | (go_at_call 25; refine (rcheck_c _ _ _ _ _).mono ?_; rintro e wn ⟨rfl, hbn⟩) | (go_at_call 22; refine (left_c _ _ _ _ _).mono ?_; rintro e wn ⟨rfl, hbn⟩) | (go_at_call 26; refine (rleft_c _ _ _ _ _).mono ?_; rintro e wn ⟨rfl, hbn⟩) | (go_at_call 27; refine (mass_c _ _ _ _ _).mono ?_; rintro e wn ⟨rfl, hbn⟩) | (go_at_call 28; refine (rmass_c _ _ _ _ _).mono ?_; rintro e wn ⟨rfl, hbn⟩) | (go_at_call 20; refine (low_c _ _ _ _ _).mono ?_; rintro e wn ⟨rfl, hbn⟩) | (go_at_call 29; refine (rlow_c _ _ _ _ _).mono ?_; rintro e wn ⟨rfl, hbn⟩))
  go_wp2
  go_ret
  rename_i h
  exact ⟨rfl, bt hB h.1⟩

end Go.Proofs.Ytoebjiocmnonnaa
