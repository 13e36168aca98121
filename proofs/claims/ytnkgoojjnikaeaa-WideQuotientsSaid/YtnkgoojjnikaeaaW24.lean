/-
  The walk of WideQuotients.
-/
import Derived.Test.YtnkgoojjnikaeaaW23
import Derived.Test.YtnkgoojjnikaeaaBlk
namespace Go.Proofs.Ytnkgoojjnikaeaa
set_option linter.unusedVariables false
set_option linter.unusedSimpArgs false
open Go.RowKit

set_option maxRecDepth 100000 in
set_option maxHeartbeats 4000000 in
theorem law_quotients (h l x h' l' y : Int) (w : World) (H : Wi.Wd h l x) (H' : Wi.Wd h' l' y) : Calls Try.prog 3 #[.agg #[.int .i64 h, .int .u64 l], .agg #[.int .i64 h', .int .u64 l']] w fun e w' =>
    e = .returned (.bool true) ∧ Below w.heap.size w w' := by
  go_enter Try.func3, Try.ntmps3
  have X := Blk.new w 24 #[.int .i64 h, .int .u64 l]
  have Y := Blk.new1 w (.cells #[.int .i64 h, .int .u64 l] 24) 24 #[.int .i64 h', .int .u64 l']
  replace X := X.alloc (.cells #[.int .i64 h', .int .u64 l'] 24)
  have hB := bal (ba w (.cells #[.int .i64 h, .int .u64 l] 24)) (.cells #[.int .i64 h', .int .u64 l'] 24)
  go_wp2_with fail
  refine (awake_c _).mono ?_
  rintro e w1 ⟨rfl, hb⟩
  replace X := X.keep hb
  replace Y := Y.keep hb
  replace hB := bt hB hb
  clear hb
  obtain ⟨c00, c01, c02, c03⟩ := X.open2
  obtain ⟨c10, c11, c12, c13⟩ := Y.open2
  go_wp2_with fail
  refine (div_c _ _ _ _ _ _ _ H H').mono ?_
  rintro e w2 ⟨rfl, hb⟩
  clear c00 c01 c02 c03 c10 c11 c12 c13
  replace X := X.keep hb
  replace Y := Y.keep hb
  replace hB := bt hB hb
  clear hb
  have l2X := X.lt
  have l2Y := Y.lt
  replace X := X.alloc (.cells #[.int .i64 (Wi.Hq (Wi.dV x y (-1))), .int .u64 (Wi.Lr (Wi.dV x y (-1)))] 24)
  replace Y := Y.alloc (.cells #[.int .i64 (Wi.Hq (Wi.dV x y (-1))), .int .u64 (Wi.Lr (Wi.dV x y (-1)))] 24)
  replace hB := bal hB (.cells #[.int .i64 (Wi.Hq (Wi.dV x y (-1))), .int .u64 (Wi.Lr (Wi.dV x y (-1)))] 24)
  have P := Blk.new w2 24 #[.int .i64 (Wi.Hq (Wi.dV x y (-1))), .int .u64 (Wi.Lr (Wi.dV x y (-1)))]
  obtain ⟨c00, c01, c02, c03⟩ := X.open2
  obtain ⟨c10, c11, c12, c13⟩ := Y.open2
  go_wp2_with fail
  refine (rdiv_c _ _ _ _ _ _ _ H H').mono ?_
  rintro e w3 ⟨rfl, hb⟩
  clear c00 c01 c02 c03 c10 c11 c12 c13
  replace X := X.keep hb
  replace Y := Y.keep hb
  replace P := P.keep hb
  replace hB := bt hB hb
  clear hb
  have l3X := X.lt
  have l3Y := Y.lt
  have l3P := P.lt
  replace X := X.alloc (.cells #[.int .i64 (Wi.Hq (Wi.dV x y (-1))), .int .u64 (Wi.Lr (Wi.dV x y (-1)))] 24)
  replace Y := Y.alloc (.cells #[.int .i64 (Wi.Hq (Wi.dV x y (-1))), .int .u64 (Wi.Lr (Wi.dV x y (-1)))] 24)
  replace P := P.alloc (.cells #[.int .i64 (Wi.Hq (Wi.dV x y (-1))), .int .u64 (Wi.Lr (Wi.dV x y (-1)))] 24)
  replace hB := bal hB (.cells #[.int .i64 (Wi.Hq (Wi.dV x y (-1))), .int .u64 (Wi.Lr (Wi.dV x y (-1)))] 24)
  have R := Blk.new w3 24 #[.int .i64 (Wi.Hq (Wi.dV x y (-1))), .int .u64 (Wi.Lr (Wi.dV x y (-1)))]
  obtain ⟨c00, c01, c02, c03⟩ := P.open2
  obtain ⟨c10, c11, c12, c13⟩ := R.open2
  go_wp2_with fail
  refine (same_c _ _ _ _).mono ?_
  rintro e w4 ⟨rfl, hb⟩
  clear c00 c01 c02 c03 c10 c11 c12 c13
  replace X := X.keep hb
  replace Y := Y.keep hb
  replace P := P.keep hb
  replace R := R.keep hb
  replace hB := bt hB hb
  clear hb
  obtain ⟨c00, c01, c02, c03⟩ := X.open2
  obtain ⟨c10, c11, c12, c13⟩ := Y.open2
  go_wp2_with fail
  refine (divup_c _ _ _ _ _ _ _ H H').mono ?_
  rintro e w5 ⟨rfl, hb⟩
  clear c00 c01 c02 c03 c10 c11 c12 c13
  replace X := X.keep hb
  replace Y := Y.keep hb
  replace P := P.keep hb
  replace R := R.keep hb
  replace hB := bt hB hb
  clear hb
  obtain ⟨s0, s1, s2, s3⟩ := P.open2
  replace X := (X.far (p := ⟨w2.heap.size, 0, none⟩) (by first | (simp; done) | (simp; omega) | omega) (.int .i64 (Wi.Hq (Wi.dV x y (1))))).far (p := ⟨w2.heap.size, 1, none⟩) (by first | (simp; done) | (simp; omega) | omega) (.int .u64 (Wi.Lr (Wi.dV x y (1))))
  replace Y := (Y.far (p := ⟨w2.heap.size, 0, none⟩) (by first | (simp; done) | (simp; omega) | omega) (.int .i64 (Wi.Hq (Wi.dV x y (1))))).far (p := ⟨w2.heap.size, 1, none⟩) (by first | (simp; done) | (simp; omega) | omega) (.int .u64 (Wi.Lr (Wi.dV x y (1))))
  replace R := (R.far (p := ⟨w2.heap.size, 0, none⟩) (by first | (simp; done) | (simp; omega) | omega) (.int .i64 (Wi.Hq (Wi.dV x y (1))))).far (p := ⟨w2.heap.size, 1, none⟩) (by first | (simp; done) | (simp; omega) | omega) (.int .u64 (Wi.Lr (Wi.dV x y (1))))
  replace hB := bst (bst hB (p := ⟨w2.heap.size, 0, none⟩) (by first | (simp; done) | (simp; omega) | omega) (.int .i64 (Wi.Hq (Wi.dV x y (1))))) (p := ⟨w2.heap.size, 1, none⟩) (by first | (simp; done) | (simp; omega) | omega) (.int .u64 (Wi.Lr (Wi.dV x y (1))))
  replace P := (P.set_ 0 (.int .i64 (Wi.Hq (Wi.dV x y (1))))).set_ 1 (.int .u64 (Wi.Lr (Wi.dV x y (1))))
  simp only [List.setIfInBounds_toArray, List.set_cons_zero, List.set_cons_succ] at P
  obtain ⟨c00, c01, c02, c03⟩ := X.open2
  obtain ⟨c10, c11, c12, c13⟩ := Y.open2
  go_wp2_with fail
  refine (rdivup_c _ _ _ _ _ _ _ H H').mono ?_
  rintro e w6 ⟨rfl, hb⟩
  clear s0 s1 s2 s3
  clear c00 c01 c02 c03 c10 c11 c12 c13
  replace X := X.keep hb
  replace Y := Y.keep hb
  replace P := P.keep hb
  replace R := R.keep hb
  replace hB := bt hB hb
  clear hb
  obtain ⟨s0, s1, s2, s3⟩ := R.open2
  replace X := (X.far (p := ⟨w3.heap.size, 0, none⟩) (by first | (simp; done) | (simp; omega) | omega) (.int .i64 (Wi.Hq (Wi.dV x y (1))))).far (p := ⟨w3.heap.size, 1, none⟩) (by first | (simp; done) | (simp; omega) | omega) (.int .u64 (Wi.Lr (Wi.dV x y (1))))
  replace Y := (Y.far (p := ⟨w3.heap.size, 0, none⟩) (by first | (simp; done) | (simp; omega) | omega) (.int .i64 (Wi.Hq (Wi.dV x y (1))))).far (p := ⟨w3.heap.size, 1, none⟩) (by first | (simp; done) | (simp; omega) | omega) (.int .u64 (Wi.Lr (Wi.dV x y (1))))
  replace P := (P.far (p := ⟨w3.heap.size, 0, none⟩) (by first | (simp; done) | (simp; omega) | omega) (.int .i64 (Wi.Hq (Wi.dV x y (1))))).far (p := ⟨w3.heap.size, 1, none⟩) (by first | (simp; done) | (simp; omega) | omega) (.int .u64 (Wi.Lr (Wi.dV x y (1))))
  replace hB := bst (bst hB (p := ⟨w3.heap.size, 0, none⟩) (by first | (simp; done) | (simp; omega) | omega) (.int .i64 (Wi.Hq (Wi.dV x y (1))))) (p := ⟨w3.heap.size, 1, none⟩) (by first | (simp; done) | (simp; omega) | omega) (.int .u64 (Wi.Lr (Wi.dV x y (1))))
  replace R := (R.set_ 0 (.int .i64 (Wi.Hq (Wi.dV x y (1))))).set_ 1 (.int .u64 (Wi.Lr (Wi.dV x y (1))))
  simp only [List.setIfInBounds_toArray, List.set_cons_zero, List.set_cons_succ] at R
  obtain ⟨c00, c01, c02, c03⟩ := P.open2
  obtain ⟨c10, c11, c12, c13⟩ := R.open2
  go_wp2_with fail
  refine (same_c _ _ _ _).mono ?_
  rintro e w7 ⟨rfl, hb⟩
  clear s0 s1 s2 s3
  clear c00 c01 c02 c03 c10 c11 c12 c13
  replace X := X.keep hb
  replace Y := Y.keep hb
  replace P := P.keep hb
  replace R := R.keep hb
  replace hB := bt hB hb
  clear hb
  obtain ⟨c00, c01, c02, c03⟩ := X.open2
  obtain ⟨c10, c11, c12, c13⟩ := Y.open2
  go_wp2_with fail
  refine (near_c _ _ _ _ _ _ _ H H').mono ?_
  rintro e w8 ⟨rfl, hb⟩
  clear c00 c01 c02 c03 c10 c11 c12 c13
  replace X := X.keep hb
  replace Y := Y.keep hb
  replace P := P.keep hb
  replace R := R.keep hb
  replace hB := bt hB hb
  clear hb
  obtain ⟨s0, s1, s2, s3⟩ := P.open2
  replace X := (X.far (p := ⟨w2.heap.size, 0, none⟩) (by first | (simp; done) | (simp; omega) | omega) (.int .i64 (Wi.Hq (Wi.dV x y (0))))).far (p := ⟨w2.heap.size, 1, none⟩) (by first | (simp; done) | (simp; omega) | omega) (.int .u64 (Wi.Lr (Wi.dV x y (0))))
  replace Y := (Y.far (p := ⟨w2.heap.size, 0, none⟩) (by first | (simp; done) | (simp; omega) | omega) (.int .i64 (Wi.Hq (Wi.dV x y (0))))).far (p := ⟨w2.heap.size, 1, none⟩) (by first | (simp; done) | (simp; omega) | omega) (.int .u64 (Wi.Lr (Wi.dV x y (0))))
  replace R := (R.far (p := ⟨w2.heap.size, 0, none⟩) (by first | (simp; done) | (simp; omega) | omega) (.int .i64 (Wi.Hq (Wi.dV x y (0))))).far (p := ⟨w2.heap.size, 1, none⟩) (by first | (simp; done) | (simp; omega) | omega) (.int .u64 (Wi.Lr (Wi.dV x y (0))))
  replace hB := bst (bst hB (p := ⟨w2.heap.size, 0, none⟩) (by first | (simp; done) | (simp; omega) | omega) (.int .i64 (Wi.Hq (Wi.dV x y (0))))) (p := ⟨w2.heap.size, 1, none⟩) (by first | (simp; done) | (simp; omega) | omega) (.int .u64 (Wi.Lr (Wi.dV x y (0))))
  replace P := (P.set_ 0 (.int .i64 (Wi.Hq (Wi.dV x y (0))))).set_ 1 (.int .u64 (Wi.Lr (Wi.dV x y (0))))
  simp only [List.setIfInBounds_toArray, List.set_cons_zero, List.set_cons_succ] at P
  obtain ⟨c00, c01, c02, c03⟩ := X.open2
  obtain ⟨c10, c11, c12, c13⟩ := Y.open2
  go_wp2_with fail
  refine (rnear_c _ _ _ _ _ _ _ H H').mono ?_
  rintro e w9 ⟨rfl, hb⟩
  clear s0 s1 s2 s3
  clear c00 c01 c02 c03 c10 c11 c12 c13
  replace X := X.keep hb
  replace Y := Y.keep hb
  replace P := P.keep hb
  replace R := R.keep hb
  replace hB := bt hB hb
  clear hb
  obtain ⟨s0, s1, s2, s3⟩ := R.open2
  replace X := (X.far (p := ⟨w3.heap.size, 0, none⟩) (by first | (simp; done) | (simp; omega) | omega) (.int .i64 (Wi.Hq (Wi.dV x y (0))))).far (p := ⟨w3.heap.size, 1, none⟩) (by first | (simp; done) | (simp; omega) | omega) (.int .u64 (Wi.Lr (Wi.dV x y (0))))
  replace Y := (Y.far (p := ⟨w3.heap.size, 0, none⟩) (by first | (simp; done) | (simp; omega) | omega) (.int .i64 (Wi.Hq (Wi.dV x y (0))))).far (p := ⟨w3.heap.size, 1, none⟩) (by first | (simp; done) | (simp; omega) | omega) (.int .u64 (Wi.Lr (Wi.dV x y (0))))
  replace P := (P.far (p := ⟨w3.heap.size, 0, none⟩) (by first | (simp; done) | (simp; omega) | omega) (.int .i64 (Wi.Hq (Wi.dV x y (0))))).far (p := ⟨w3.heap.size, 1, none⟩) (by first | (simp; done) | (simp; omega) | omega) (.int .u64 (Wi.Lr (Wi.dV x y (0))))
  replace hB := bst (bst hB (p := ⟨w3.heap.size, 0, none⟩) (by first | (simp; done) | (simp; omega) | omega) (.int .i64 (Wi.Hq (Wi.dV x y (0))))) (p := ⟨w3.heap.size, 1, none⟩) (by first | (simp; done) | (simp; omega) | omega) (.int .u64 (Wi.Lr (Wi.dV x y (0))))
  replace R := (R.set_ 0 (.int .i64 (Wi.Hq (Wi.dV x y (0))))).set_ 1 (.int .u64 (Wi.Lr (Wi.dV x y (0))))
  simp only [List.setIfInBounds_toArray, List.set_cons_zero, List.set_cons_succ] at R
  obtain ⟨c00, c01, c02, c03⟩ := P.open2
  obtain ⟨c10, c11, c12, c13⟩ := R.open2
  go_wp2_with fail
  refine (same_c _ _ _ _).mono ?_
  rintro e w10 ⟨rfl, hb⟩
  clear s0 s1 s2 s3
  clear c00 c01 c02 c03 c10 c11 c12 c13
  replace X := X.keep hb
  replace Y := Y.keep hb
  replace P := P.keep hb
  replace R := R.keep hb
  replace hB := bt hB hb
  clear hb
  go_wp2_with fail
  go_returns
  exact ⟨rfl, hB⟩
end Go.Proofs.Ytnkgoojjnikaeaa
