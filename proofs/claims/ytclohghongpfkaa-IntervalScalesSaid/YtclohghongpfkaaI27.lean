/-
  The walk of IntervalScales.
-/
import Derived.Test.YtclohghongpfkaaI15
import Derived.Test.YtclohghongpfkaaI25
namespace Go.Proofs.Ytclohghongpfkaa
set_option linter.unusedVariables false
set_option linter.unusedSimpArgs false
open Go.RowKit

set_option maxRecDepth 100000 in
set_option maxHeartbeats 4000000 in
theorem law_scales (l h n d : Int) (w : World) (n1 : -9223372036854775808 ≤ n) (n2 : n ≤ 9223372036854775807) (d1 : -9223372036854775808 ≤ d) (d2 : d ≤ 9223372036854775807) : Calls Try.prog 4 #[.agg #[.int .i64 l, .int .i64 h], .int .i64 n, .int .i64 d] w fun e w' => e = .returned (.bool true) ∧ Below w.heap.size w w' := by
  go_enter Try.func4, Try.ntmps4
  have X := Blk.new w 23 #[.int .i64 (l), .int .i64 (h)]
  have hB := ba w (.cells #[.int .i64 (l), .int .i64 (h)] 23)
  go_wp2_with fail
  refine (awake_ci _).mono ?_
  rintro e w1 ⟨rfl, hb⟩
  replace X := X.keep hb
  replace hB := bt hB hb
  clear hb
  obtain ⟨c00, c01, c02, c03⟩ := X.open2
  go_wp2_with fail
  refine (scale_ci _ _ _ _ _ n1 n2 d1 d2).mono ?_
  rintro e w2 ⟨rfl, hb⟩
  clear c00 c01 c02 c03
  replace X := X.keep hb
  replace hB := bt hB hb
  clear hb
  have hz2 := hB.size
  have l2X := X.lt
  replace X := X.alloc (.cells #[.int .i64 (Iv.scale l h n d).lo, .int .i64 (Iv.scale l h n d).hi] 23)
  replace hB := bal hB (.cells #[.int .i64 (Iv.scale l h n d).lo, .int .i64 (Iv.scale l h n d).hi] 23)
  have A := Blk.new w2 23 #[.int .i64 (Iv.scale l h n d).lo, .int .i64 (Iv.scale l h n d).hi]
  obtain ⟨c00, c01, c02, c03⟩ := X.open2
  obtain ⟨c10, c11, c12, c13⟩ := A.open2
  go_wp2_with fail
  refine (rscale_ci _ _ _ _ _ n1 n2 d1 d2).mono ?_
  rintro e w3 ⟨rfl, hb⟩
  clear c00 c01 c02 c03 c10 c11 c12 c13
  replace X := X.keep hb
  replace A := A.keep hb
  replace hB := bt hB hb
  clear hb
  have hz3 := hB.size
  have l3X := X.lt
  have l3A := A.lt
  replace X := X.alloc (.cells #[.int .i64 (Iv.scale l h n d).lo, .int .i64 (Iv.scale l h n d).hi] 23)
  replace A := A.alloc (.cells #[.int .i64 (Iv.scale l h n d).lo, .int .i64 (Iv.scale l h n d).hi] 23)
  replace hB := bal hB (.cells #[.int .i64 (Iv.scale l h n d).lo, .int .i64 (Iv.scale l h n d).hi] 23)
  have B := Blk.new w3 23 #[.int .i64 (Iv.scale l h n d).lo, .int .i64 (Iv.scale l h n d).hi]
  obtain ⟨c00, c01, c02, c03⟩ := A.open2
  obtain ⟨c10, c11, c12, c13⟩ := B.open2
  obtain ⟨c20, c21, c22, c23⟩ := X.open2
  go_wp2_with fail
  refine (same_ci _ _ _ _).mono ?_
  rintro e w4 ⟨rfl, hb⟩
  clear c00 c01 c02 c03 c10 c11 c12 c13 c20 c21 c22 c23
  replace X := X.keep hb
  replace A := A.keep hb
  replace B := B.keep hb
  replace hB := bt hB hb
  clear hb
  obtain ⟨c00, c01, c02, c03⟩ := X.open2
  go_wp2_with fail
  refine (sqrt_ci _ _ _).mono ?_
  rintro e w5 ⟨rfl, hb⟩
  clear c00 c01 c02 c03
  replace X := X.keep hb
  replace A := A.keep hb
  replace B := B.keep hb
  replace hB := bt hB hb
  clear hb
  obtain ⟨s0, s1, s2, s3⟩ := A.open2
  replace X := ((X.far (p := ⟨w2.heap.size, 0, none⟩) (by first | (simp; done) | (simp; omega) | omega) (.int .i64 (Iv.sqrt l h).lo)).far (p := ⟨w2.heap.size, 1, none⟩) (by first | (simp; done) | (simp; omega) | omega) (.int .i64 (Iv.sqrt l h).hi))
  replace B := ((B.far (p := ⟨w2.heap.size, 0, none⟩) (by first | (simp; done) | (simp; omega) | omega) (.int .i64 (Iv.sqrt l h).lo)).far (p := ⟨w2.heap.size, 1, none⟩) (by first | (simp; done) | (simp; omega) | omega) (.int .i64 (Iv.sqrt l h).hi))
  replace hB := (bst (bst hB (p := ⟨w2.heap.size, 0, none⟩) (by first | (simp; done) | (simp; omega) | omega) (.int .i64 (Iv.sqrt l h).lo)) (p := ⟨w2.heap.size, 1, none⟩) (by first | (simp; done) | (simp; omega) | omega) (.int .i64 (Iv.sqrt l h).hi))
  replace A := ((A.set_ 0 (.int .i64 (Iv.sqrt l h).lo)).set_ 1 (.int .i64 (Iv.sqrt l h).hi))
  simp only [List.setIfInBounds_toArray, List.set_cons_zero, List.set_cons_succ] at A
  obtain ⟨c00, c01, c02, c03⟩ := X.open2
  obtain ⟨c10, c11, c12, c13⟩ := A.open2
  go_wp2_with fail
  refine (rsqrt_ci _ _ _).mono ?_
  rintro e w6 ⟨rfl, hb⟩
  clear s0 s1 s2 s3
  clear c00 c01 c02 c03 c10 c11 c12 c13
  replace X := X.keep hb
  replace A := A.keep hb
  replace B := B.keep hb
  replace hB := bt hB hb
  clear hb
  obtain ⟨s0, s1, s2, s3⟩ := B.open2
  replace X := ((X.far (p := ⟨w3.heap.size, 0, none⟩) (by first | (simp; done) | (simp; omega) | omega) (.int .i64 (Iv.sqrt l h).lo)).far (p := ⟨w3.heap.size, 1, none⟩) (by first | (simp; done) | (simp; omega) | omega) (.int .i64 (Iv.sqrt l h).hi))
  replace A := ((A.far (p := ⟨w3.heap.size, 0, none⟩) (by first | (simp; done) | (simp; omega) | omega) (.int .i64 (Iv.sqrt l h).lo)).far (p := ⟨w3.heap.size, 1, none⟩) (by first | (simp; done) | (simp; omega) | omega) (.int .i64 (Iv.sqrt l h).hi))
  replace hB := (bst (bst hB (p := ⟨w3.heap.size, 0, none⟩) (by first | (simp; done) | (simp; omega) | omega) (.int .i64 (Iv.sqrt l h).lo)) (p := ⟨w3.heap.size, 1, none⟩) (by first | (simp; done) | (simp; omega) | omega) (.int .i64 (Iv.sqrt l h).hi))
  replace B := ((B.set_ 0 (.int .i64 (Iv.sqrt l h).lo)).set_ 1 (.int .i64 (Iv.sqrt l h).hi))
  simp only [List.setIfInBounds_toArray, List.set_cons_zero, List.set_cons_succ] at B
  obtain ⟨c00, c01, c02, c03⟩ := A.open2
  obtain ⟨c10, c11, c12, c13⟩ := B.open2
  obtain ⟨c20, c21, c22, c23⟩ := X.open2
  go_wp2_with fail
  refine (same_ci _ _ _ _).mono ?_
  rintro e w7 ⟨rfl, hb⟩
  clear s0 s1 s2 s3
  clear c00 c01 c02 c03 c10 c11 c12 c13 c20 c21 c22 c23
  replace X := X.keep hb
  replace A := A.keep hb
  replace B := B.keep hb
  replace hB := bt hB hb
  clear hb
  go_wp2_with fail
  go_returns
  exact ⟨rfl, hB⟩
end Go.Proofs.Ytclohghongpfkaa
