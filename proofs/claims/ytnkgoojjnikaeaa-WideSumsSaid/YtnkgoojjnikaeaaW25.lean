/-
  The walk of WideSums.
-/
import Derived.Test.YtnkgoojjnikaeaaW23
import Derived.Test.YtnkgoojjnikaeaaBlk
namespace Go.Proofs.Ytnkgoojjnikaeaa
set_option linter.unusedVariables false
set_option linter.unusedSimpArgs false
open Go.RowKit

set_option maxRecDepth 100000 in
set_option maxHeartbeats 4000000 in
theorem law_sums (h l x h' l' y : Int) (w : World) (H : Wi.Wd h l x) (H' : Wi.Wd h' l' y) : Calls Try.prog 7 #[.agg #[.int .i64 h, .int .u64 l], .agg #[.int .i64 h', .int .u64 l']] w fun e w' =>
    e = .returned (.bool true) ∧ Below w.heap.size w w' := by
  go_enter Try.func7, Try.ntmps7
  have X := Blk.new w 24 #[.int .i64 h, .int .u64 l]
  have Y := Blk.new1 w (.cells #[.int .i64 h, .int .u64 l] 24) 24 #[.int .i64 h', .int .u64 l']
  replace X := X.alloc (.cells #[.int .i64 h', .int .u64 l'] 24)
  have hB := bal (ba w (.cells #[.int .i64 h, .int .u64 l] 24)) (.cells #[.int .i64 h', .int .u64 l'] 24)
  go_wp2_with fail
  refine (awake_c _).mono ?_
  rintro e w1 ⟨rfl, hb⟩
  replace X := X.keep hb
  replace Y := Y.keep hb
  replace hB := bt hB hb
  clear hb
  obtain ⟨c00, c01, c02, c03⟩ := X.open2
  obtain ⟨c10, c11, c12, c13⟩ := Y.open2
  go_wp2_with fail
  refine (add_c _ _ _ _ _ _ _ H H').mono ?_
  rintro e w2 ⟨rfl, hb⟩
  clear c00 c01 c02 c03 c10 c11 c12 c13
  replace X := X.keep hb
  replace Y := Y.keep hb
  replace hB := bt hB hb
  clear hb
  have l2X := X.lt
  have l2Y := Y.lt
  replace X := X.alloc (.cells #[.int .i64 (Wi.Hq (Wi.rv (x + y))), .int .u64 (Wi.Lr (Wi.rv (x + y)))] 24)
  replace Y := Y.alloc (.cells #[.int .i64 (Wi.Hq (Wi.rv (x + y))), .int .u64 (Wi.Lr (Wi.rv (x + y)))] 24)
  replace hB := bal hB (.cells #[.int .i64 (Wi.Hq (Wi.rv (x + y))), .int .u64 (Wi.Lr (Wi.rv (x + y)))] 24)
  have P := Blk.new w2 24 #[.int .i64 (Wi.Hq (Wi.rv (x + y))), .int .u64 (Wi.Lr (Wi.rv (x + y)))]
  obtain ⟨c00, c01, c02, c03⟩ := X.open2
  obtain ⟨c10, c11, c12, c13⟩ := Y.open2
  go_wp2_with fail
  refine (radd_c _ _ _ _ _ _ _ H H').mono ?_
  rintro e w3 ⟨rfl, hb⟩
  clear c00 c01 c02 c03 c10 c11 c12 c13
  replace X := X.keep hb
  replace Y := Y.keep hb
  replace P := P.keep hb
  replace hB := bt hB hb
  clear hb
  have l3X := X.lt
  have l3Y := Y.lt
  have l3P := P.lt
  replace X := X.alloc (.cells #[.int .i64 (Wi.Hq (Wi.rv (x + y))), .int .u64 (Wi.Lr (Wi.rv (x + y)))] 24)
  replace Y := Y.alloc (.cells #[.int .i64 (Wi.Hq (Wi.rv (x + y))), .int .u64 (Wi.Lr (Wi.rv (x + y)))] 24)
  replace P := P.alloc (.cells #[.int .i64 (Wi.Hq (Wi.rv (x + y))), .int .u64 (Wi.Lr (Wi.rv (x + y)))] 24)
  replace hB := bal hB (.cells #[.int .i64 (Wi.Hq (Wi.rv (x + y))), .int .u64 (Wi.Lr (Wi.rv (x + y)))] 24)
  have R := Blk.new w3 24 #[.int .i64 (Wi.Hq (Wi.rv (x + y))), .int .u64 (Wi.Lr (Wi.rv (x + y)))]
  obtain ⟨c00, c01, c02, c03⟩ := P.open2
  obtain ⟨c10, c11, c12, c13⟩ := R.open2
  go_wp2_with fail
  refine (same_c _ _ _ _).mono ?_
  rintro e w4 ⟨rfl, hb⟩
  clear c00 c01 c02 c03 c10 c11 c12 c13
  replace X := X.keep hb
  replace Y := Y.keep hb
  replace P := P.keep hb
  replace R := R.keep hb
  replace hB := bt hB hb
  clear hb
  obtain ⟨c00, c01, c02, c03⟩ := X.open2
  obtain ⟨c10, c11, c12, c13⟩ := Y.open2
  go_wp2_with fail
  refine (sub_c _ _ _ _ _ _ _ H H').mono ?_
  rintro e w5 ⟨rfl, hb⟩
  clear c00 c01 c02 c03 c10 c11 c12 c13
  replace X := X.keep hb
  replace Y := Y.keep hb
  replace P := P.keep hb
  replace R := R.keep hb
  replace hB := bt hB hb
  clear hb
  obtain ⟨s0, s1, s2, s3⟩ := P.open2
  replace X := (X.far (p := ⟨w2.heap.size, 0, none⟩) (by first | (simp; done) | (simp; omega) | omega) (.int .i64 (Wi.Hq (Wi.rv (x - y))))).far (p := ⟨w2.heap.size, 1, none⟩) (by first | (simp; done) | (simp; omega) | omega) (.int .u64 (Wi.Lr (Wi.rv (x - y))))
  replace Y := (Y.far (p := ⟨w2.heap.size, 0, none⟩) (by first | (simp; done) | (simp; omega) | omega) (.int .i64 (Wi.Hq (Wi.rv (x - y))))).far (p := ⟨w2.heap.size, 1, none⟩) (by first | (simp; done) | (simp; omega) | omega) (.int .u64 (Wi.Lr (Wi.rv (x - y))))
  replace R := (R.far (p := ⟨w2.heap.size, 0, none⟩) (by first | (simp; done) | (simp; omega) | omega) (.int .i64 (Wi.Hq (Wi.rv (x - y))))).far (p := ⟨w2.heap.size, 1, none⟩) (by first | (simp; done) | (simp; omega) | omega) (.int .u64 (Wi.Lr (Wi.rv (x - y))))
  replace hB := bst (bst hB (p := ⟨w2.heap.size, 0, none⟩) (by first | (simp; done) | (simp; omega) | omega) (.int .i64 (Wi.Hq (Wi.rv (x - y))))) (p := ⟨w2.heap.size, 1, none⟩) (by first | (simp; done) | (simp; omega) | omega) (.int .u64 (Wi.Lr (Wi.rv (x - y))))
  replace P := (P.set_ 0 (.int .i64 (Wi.Hq (Wi.rv (x - y))))).set_ 1 (.int .u64 (Wi.Lr (Wi.rv (x - y))))
  simp only [List.setIfInBounds_toArray, List.set_cons_zero, List.set_cons_succ] at P
  obtain ⟨c00, c01, c02, c03⟩ := X.open2
  obtain ⟨c10, c11, c12, c13⟩ := Y.open2
  go_wp2_with fail
  refine (rsub_c _ _ _ _ _ _ _ H H').mono ?_
  rintro e w6 ⟨rfl, hb⟩
  clear s0 s1 s2 s3
  clear c00 c01 c02 c03 c10 c11 c12 c13
  replace X := X.keep hb
  replace Y := Y.keep hb
  replace P := P.keep hb
  replace R := R.keep hb
  replace hB := bt hB hb
  clear hb
  obtain ⟨s0, s1, s2, s3⟩ := R.open2
  replace X := (X.far (p := ⟨w3.heap.size, 0, none⟩) (by first | (simp; done) | (simp; omega) | omega) (.int .i64 (Wi.Hq (Wi.rv (x - y))))).far (p := ⟨w3.heap.size, 1, none⟩) (by first | (simp; done) | (simp; omega) | omega) (.int .u64 (Wi.Lr (Wi.rv (x - y))))
  replace Y := (Y.far (p := ⟨w3.heap.size, 0, none⟩) (by first | (simp; done) | (simp; omega) | omega) (.int .i64 (Wi.Hq (Wi.rv (x - y))))).far (p := ⟨w3.heap.size, 1, none⟩) (by first | (simp; done) | (simp; omega) | omega) (.int .u64 (Wi.Lr (Wi.rv (x - y))))
  replace P := (P.far (p := ⟨w3.heap.size, 0, none⟩) (by first | (simp; done) | (simp; omega) | omega) (.int .i64 (Wi.Hq (Wi.rv (x - y))))).far (p := ⟨w3.heap.size, 1, none⟩) (by first | (simp; done) | (simp; omega) | omega) (.int .u64 (Wi.Lr (Wi.rv (x - y))))
  replace hB := bst (bst hB (p := ⟨w3.heap.size, 0, none⟩) (by first | (simp; done) | (simp; omega) | omega) (.int .i64 (Wi.Hq (Wi.rv (x - y))))) (p := ⟨w3.heap.size, 1, none⟩) (by first | (simp; done) | (simp; omega) | omega) (.int .u64 (Wi.Lr (Wi.rv (x - y))))
  replace R := (R.set_ 0 (.int .i64 (Wi.Hq (Wi.rv (x - y))))).set_ 1 (.int .u64 (Wi.Lr (Wi.rv (x - y))))
  simp only [List.setIfInBounds_toArray, List.set_cons_zero, List.set_cons_succ] at R
  obtain ⟨c00, c01, c02, c03⟩ := P.open2
  obtain ⟨c10, c11, c12, c13⟩ := R.open2
  go_wp2_with fail
  refine (same_c _ _ _ _).mono ?_
  rintro e w7 ⟨rfl, hb⟩
  clear s0 s1 s2 s3
  clear c00 c01 c02 c03 c10 c11 c12 c13
  replace X := X.keep hb
  replace Y := Y.keep hb
  replace P := P.keep hb
  replace R := R.keep hb
  replace hB := bt hB hb
  clear hb
  obtain ⟨c00, c01, c02, c03⟩ := X.open2
  go_wp2_with fail
  refine (neg_c _ _ _ _ H).mono ?_
  rintro e w8 ⟨rfl, hb⟩
  clear c00 c01 c02 c03
  replace X := X.keep hb
  replace Y := Y.keep hb
  replace P := P.keep hb
  replace R := R.keep hb
  replace hB := bt hB hb
  clear hb
  obtain ⟨s0, s1, s2, s3⟩ := P.open2
  replace X := (X.far (p := ⟨w2.heap.size, 0, none⟩) (by first | (simp; done) | (simp; omega) | omega) (.int .i64 (Wi.Hq (Wi.rv (-x))))).far (p := ⟨w2.heap.size, 1, none⟩) (by first | (simp; done) | (simp; omega) | omega) (.int .u64 (Wi.Lr (Wi.rv (-x))))
  replace Y := (Y.far (p := ⟨w2.heap.size, 0, none⟩) (by first | (simp; done) | (simp; omega) | omega) (.int .i64 (Wi.Hq (Wi.rv (-x))))).far (p := ⟨w2.heap.size, 1, none⟩) (by first | (simp; done) | (simp; omega) | omega) (.int .u64 (Wi.Lr (Wi.rv (-x))))
  replace R := (R.far (p := ⟨w2.heap.size, 0, none⟩) (by first | (simp; done) | (simp; omega) | omega) (.int .i64 (Wi.Hq (Wi.rv (-x))))).far (p := ⟨w2.heap.size, 1, none⟩) (by first | (simp; done) | (simp; omega) | omega) (.int .u64 (Wi.Lr (Wi.rv (-x))))
  replace hB := bst (bst hB (p := ⟨w2.heap.size, 0, none⟩) (by first | (simp; done) | (simp; omega) | omega) (.int .i64 (Wi.Hq (Wi.rv (-x))))) (p := ⟨w2.heap.size, 1, none⟩) (by first | (simp; done) | (simp; omega) | omega) (.int .u64 (Wi.Lr (Wi.rv (-x))))
  replace P := (P.set_ 0 (.int .i64 (Wi.Hq (Wi.rv (-x))))).set_ 1 (.int .u64 (Wi.Lr (Wi.rv (-x))))
  simp only [List.setIfInBounds_toArray, List.set_cons_zero, List.set_cons_succ] at P
  obtain ⟨c00, c01, c02, c03⟩ := X.open2
  go_wp2_with fail
  refine (rneg_c _ _ _ _ H).mono ?_
  rintro e w9 ⟨rfl, hb⟩
  clear s0 s1 s2 s3
  clear c00 c01 c02 c03
  replace X := X.keep hb
  replace Y := Y.keep hb
  replace P := P.keep hb
  replace R := R.keep hb
  replace hB := bt hB hb
  clear hb
  obtain ⟨s0, s1, s2, s3⟩ := R.open2
  replace X := (X.far (p := ⟨w3.heap.size, 0, none⟩) (by first | (simp; done) | (simp; omega) | omega) (.int .i64 (Wi.Hq (Wi.rv (-x))))).far (p := ⟨w3.heap.size, 1, none⟩) (by first | (simp; done) | (simp; omega) | omega) (.int .u64 (Wi.Lr (Wi.rv (-x))))
  replace Y := (Y.far (p := ⟨w3.heap.size, 0, none⟩) (by first | (simp; done) | (simp; omega) | omega) (.int .i64 (Wi.Hq (Wi.rv (-x))))).far (p := ⟨w3.heap.size, 1, none⟩) (by first | (simp; done) | (simp; omega) | omega) (.int .u64 (Wi.Lr (Wi.rv (-x))))
  replace P := (P.far (p := ⟨w3.heap.size, 0, none⟩) (by first | (simp; done) | (simp; omega) | omega) (.int .i64 (Wi.Hq (Wi.rv (-x))))).far (p := ⟨w3.heap.size, 1, none⟩) (by first | (simp; done) | (simp; omega) | omega) (.int .u64 (Wi.Lr (Wi.rv (-x))))
  replace hB := bst (bst hB (p := ⟨w3.heap.size, 0, none⟩) (by first | (simp; done) | (simp; omega) | omega) (.int .i64 (Wi.Hq (Wi.rv (-x))))) (p := ⟨w3.heap.size, 1, none⟩) (by first | (simp; done) | (simp; omega) | omega) (.int .u64 (Wi.Lr (Wi.rv (-x))))
  replace R := (R.set_ 0 (.int .i64 (Wi.Hq (Wi.rv (-x))))).set_ 1 (.int .u64 (Wi.Lr (Wi.rv (-x))))
  simp only [List.setIfInBounds_toArray, List.set_cons_zero, List.set_cons_succ] at R
  obtain ⟨c00, c01, c02, c03⟩ := P.open2
  obtain ⟨c10, c11, c12, c13⟩ := R.open2
  go_wp2_with fail
  refine (same_c _ _ _ _).mono ?_
  rintro e w10 ⟨rfl, hb⟩
  clear s0 s1 s2 s3
  clear c00 c01 c02 c03 c10 c11 c12 c13
  replace X := X.keep hb
  replace Y := Y.keep hb
  replace P := P.keep hb
  replace R := R.keep hb
  replace hB := bt hB hb
  clear hb
  obtain ⟨c00, c01, c02, c03⟩ := X.open2
  go_wp2_with fail
  refine (absw_c _ _ _ _ H).mono ?_
  rintro e w11 ⟨rfl, hb⟩
  clear c00 c01 c02 c03
  replace X := X.keep hb
  replace Y := Y.keep hb
  replace P := P.keep hb
  replace R := R.keep hb
  replace hB := bt hB hb
  clear hb
  obtain ⟨s0, s1, s2, s3⟩ := P.open2
  replace X := (X.far (p := ⟨w2.heap.size, 0, none⟩) (by first | (simp; done) | (simp; omega) | omega) (.int .i64 (Wi.Hq (Wi.rv (Wi.ab x))))).far (p := ⟨w2.heap.size, 1, none⟩) (by first | (simp; done) | (simp; omega) | omega) (.int .u64 (Wi.Lr (Wi.rv (Wi.ab x))))
  replace Y := (Y.far (p := ⟨w2.heap.size, 0, none⟩) (by first | (simp; done) | (simp; omega) | omega) (.int .i64 (Wi.Hq (Wi.rv (Wi.ab x))))).far (p := ⟨w2.heap.size, 1, none⟩) (by first | (simp; done) | (simp; omega) | omega) (.int .u64 (Wi.Lr (Wi.rv (Wi.ab x))))
  replace R := (R.far (p := ⟨w2.heap.size, 0, none⟩) (by first | (simp; done) | (simp; omega) | omega) (.int .i64 (Wi.Hq (Wi.rv (Wi.ab x))))).far (p := ⟨w2.heap.size, 1, none⟩) (by first | (simp; done) | (simp; omega) | omega) (.int .u64 (Wi.Lr (Wi.rv (Wi.ab x))))
  replace hB := bst (bst hB (p := ⟨w2.heap.size, 0, none⟩) (by first | (simp; done) | (simp; omega) | omega) (.int .i64 (Wi.Hq (Wi.rv (Wi.ab x))))) (p := ⟨w2.heap.size, 1, none⟩) (by first | (simp; done) | (simp; omega) | omega) (.int .u64 (Wi.Lr (Wi.rv (Wi.ab x))))
  replace P := (P.set_ 0 (.int .i64 (Wi.Hq (Wi.rv (Wi.ab x))))).set_ 1 (.int .u64 (Wi.Lr (Wi.rv (Wi.ab x))))
  simp only [List.setIfInBounds_toArray, List.set_cons_zero, List.set_cons_succ] at P
  obtain ⟨c00, c01, c02, c03⟩ := X.open2
  go_wp2_with fail
  refine (rabsw_c _ _ _ _ H).mono ?_
  rintro e w12 ⟨rfl, hb⟩
  clear s0 s1 s2 s3
  clear c00 c01 c02 c03
  replace X := X.keep hb
  replace Y := Y.keep hb
  replace P := P.keep hb
  replace R := R.keep hb
  replace hB := bt hB hb
  clear hb
  obtain ⟨s0, s1, s2, s3⟩ := R.open2
  replace X := (X.far (p := ⟨w3.heap.size, 0, none⟩) (by first | (simp; done) | (simp; omega) | omega) (.int .i64 (Wi.Hq (Wi.rv (Wi.ab x))))).far (p := ⟨w3.heap.size, 1, none⟩) (by first | (simp; done) | (simp; omega) | omega) (.int .u64 (Wi.Lr (Wi.rv (Wi.ab x))))
  replace Y := (Y.far (p := ⟨w3.heap.size, 0, none⟩) (by first | (simp; done) | (simp; omega) | omega) (.int .i64 (Wi.Hq (Wi.rv (Wi.ab x))))).far (p := ⟨w3.heap.size, 1, none⟩) (by first | (simp; done) | (simp; omega) | omega) (.int .u64 (Wi.Lr (Wi.rv (Wi.ab x))))
  replace P := (P.far (p := ⟨w3.heap.size, 0, none⟩) (by first | (simp; done) | (simp; omega) | omega) (.int .i64 (Wi.Hq (Wi.rv (Wi.ab x))))).far (p := ⟨w3.heap.size, 1, none⟩) (by first | (simp; done) | (simp; omega) | omega) (.int .u64 (Wi.Lr (Wi.rv (Wi.ab x))))
  replace hB := bst (bst hB (p := ⟨w3.heap.size, 0, none⟩) (by first | (simp; done) | (simp; omega) | omega) (.int .i64 (Wi.Hq (Wi.rv (Wi.ab x))))) (p := ⟨w3.heap.size, 1, none⟩) (by first | (simp; done) | (simp; omega) | omega) (.int .u64 (Wi.Lr (Wi.rv (Wi.ab x))))
  replace R := (R.set_ 0 (.int .i64 (Wi.Hq (Wi.rv (Wi.ab x))))).set_ 1 (.int .u64 (Wi.Lr (Wi.rv (Wi.ab x))))
  simp only [List.setIfInBounds_toArray, List.set_cons_zero, List.set_cons_succ] at R
  go_wp2_with fail
  generalize World.setCell (World.setCell w12 _ _) _ _ = W0 at X Y P R hB ⊢
  have hreg : ∀ w', Below W0.heap.size W0 w' → Below W0.heap.size W0 w' ∧ w'.cell? ⟨w.heap.size, 0, none⟩ = some (.int .i64 h) ∧ w'.cell? ⟨w.heap.size, 1, none⟩ = some (.int .u64 l) ∧ w'.cell? ⟨w.heap.size + 1, 0, none⟩ = some (.int .i64 h') ∧ w'.cell? ⟨w.heap.size + 1, 1, none⟩ = some (.int .u64 l') ∧ w'.cell? ⟨w2.heap.size, 0, none⟩ = some (.int .i64 (Wi.Hq (Wi.rv (Wi.ab x)))) ∧ w'.cell? ⟨w2.heap.size, 1, none⟩ = some (.int .u64 (Wi.Lr (Wi.rv (Wi.ab x)))) ∧ w'.cell? ⟨w3.heap.size, 0, none⟩ = some (.int .i64 (Wi.Hq (Wi.rv (Wi.ab x)))) ∧ w'.cell? ⟨w3.heap.size, 1, none⟩ = some (.int .u64 (Wi.Lr (Wi.rv (Wi.ab x)))) := fun w' h => ⟨h, (X.keep h).cell 0, (X.keep h).cell 1, (Y.keep h).cell 0, (Y.keep h).cell 1, (P.keep h).cell 0, (P.keep h).cell 1, (R.keep h).cell 0, (R.keep h).cell 1⟩
  clear X Y P R
  go_region_held3 (fun w' => Below W0.heap.size W0 w' ∧ w'.cell? ⟨w.heap.size, 0, none⟩ = some (.int .i64 h) ∧ w'.cell? ⟨w.heap.size, 1, none⟩ = some (.int .u64 l) ∧ w'.cell? ⟨w.heap.size + 1, 0, none⟩ = some (.int .i64 h') ∧ w'.cell? ⟨w.heap.size + 1, 1, none⟩ = some (.int .u64 l') ∧ w'.cell? ⟨w2.heap.size, 0, none⟩ = some (.int .i64 (Wi.Hq (Wi.rv (Wi.ab x)))) ∧ w'.cell? ⟨w2.heap.size, 1, none⟩ = some (.int .u64 (Wi.Lr (Wi.rv (Wi.ab x)))) ∧ w'.cell? ⟨w3.heap.size, 0, none⟩ = some (.int .i64 (Wi.Hq (Wi.rv (Wi.ab x)))) ∧ w'.cell? ⟨w3.heap.size, 1, none⟩ = some (.int .u64 (Wi.Lr (Wi.rv (Wi.ab x))))) (first | exact hreg _ (Below.refl _ _).drew | exact keepR hreg hbn (by assumption)) (first | (go_at_call 16; refine (same_c _ _ _ _).mono ?_; rintro e wn ⟨rfl, hbn⟩) | (go_at_call 36; refine (cmp_c _ _ _ _ _ _ _ H H').mono ?_; rintro e wn ⟨rfl, hbn⟩) | (go_at_call 37; refine (rcmp_c _ _ _ _ _ _ _ H H').mono ?_; rintro e wn ⟨rfl, hbn⟩) | (go_at_call 38; refine (sign_c _ _ _ _ H).mono ?_; rintro e wn ⟨rfl, hbn⟩) | (go_at_call 39; refine (rsign_c _ _ _ _ H).mono ?_; rintro e wn ⟨rfl, hbn⟩))
  rename_i hS
  replace hB := bt hB hS.1
  clear hS hreg
  go_wp2_with fail
  go_returns
  exact ⟨rfl, hB⟩
end Go.Proofs.Ytnkgoojjnikaeaa
