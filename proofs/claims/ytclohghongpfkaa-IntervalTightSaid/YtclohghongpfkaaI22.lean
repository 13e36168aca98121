/-
  The walk of IntervalTight.
-/
import Derived.Test.YtclohghongpfkaaI22a
import Derived.Test.YtclohghongpfkaaI22b
namespace Go.Proofs.Ytclohghongpfkaa
set_option linter.unusedVariables false
set_option linter.unusedSimpArgs false
open Go.RowKit

set_option maxRecDepth 100000 in
set_option maxHeartbeats 4000000 in
theorem law_tight (l h l' h' : Int) (w : World) : Calls Try.prog 6 #[.agg #[.int .i64 l, .int .i64 h], .agg #[.int .i64 l', .int .i64 h']] w fun e w' => e = .returned (.bool true) ∧ Below w.heap.size w w' := by
  by_cases c0 : (Iv.add l h l' h').er = 0 <;> rcases Iv.er_mul l h l' h' with c1 | c1 | c1
  · exact tight_a l h l' h' w c0 c1
  · have e1 := Lib.hid c1
    clear c1
    have A0 := Iv.add_ok c0
    have s1 := IntWalk.i64_in (l + l') (by have := A0.2.2.1; unfold Iv.Vd at this; omega)
    have s2 := IntWalk.i64_in (h + h') (by have := A0.2.2.1; unfold Iv.Vd at this; omega)
    have A1 := Lib.hid A0.2.2.2
    clear A0 c0
    go_enter Try.func6, Try.ntmps6
    have X := Blk.new w 23 #[.int .i64 (l), .int .i64 (h)]
    have hB := ba w (.cells #[.int .i64 (l), .int .i64 (h)] 23)
    have Y := Blk.new1 w (.cells #[.int .i64 (l), .int .i64 (h)] 23) 23 #[.int .i64 (l'), .int .i64 (h')]
    replace X := X.alloc (.cells #[.int .i64 (l'), .int .i64 (h')] 23)
    replace hB := bal hB (.cells #[.int .i64 (l'), .int .i64 (h')] 23)
    go_wp2_with fail
    refine (awake_ci _).mono ?_
    rintro e w1 ⟨rfl, hb⟩
    replace X := X.keep hb
    replace Y := Y.keep hb
    replace hB := bt hB hb
    clear hb
    obtain ⟨c00, c01, c02, c03⟩ := X.open2
    obtain ⟨c10, c11, c12, c13⟩ := Y.open2
    go_wp2_with fail
    refine (add_ci _ _ _ _ _).mono ?_
    rw [A1.out]
    rintro e w2 ⟨rfl, hb⟩
    clear c00 c01 c02 c03 c10 c11 c12 c13
    replace X := X.keep hb
    replace Y := Y.keep hb
    replace hB := bt hB hb
    clear hb
    have hz2 := hB.size
    have l2X := X.lt
    have l2Y := Y.lt
    replace X := X.alloc (.cells #[.int .i64 (l + l'), .int .i64 (h + h')] 23)
    replace Y := Y.alloc (.cells #[.int .i64 (l + l'), .int .i64 (h + h')] 23)
    replace hB := bal hB (.cells #[.int .i64 (l + l'), .int .i64 (h + h')] 23)
    have A := Blk.new w2 23 #[.int .i64 (l + l'), .int .i64 (h + h')]
    obtain ⟨c00, c01, c02, c03⟩ := X.open2
    obtain ⟨c10, c11, c12, c13⟩ := Y.open2
    obtain ⟨c20, c21, c22, c23⟩ := A.open2
    go_wp2_with fail
    refine (mul_ci _ _ _ _ _).mono ?_
    rw [e1.out]
    rintro e w3 ⟨rfl, hb⟩
    clear c00 c01 c02 c03 c10 c11 c12 c13 c20 c21 c22 c23
    replace X := X.keep hb
    replace Y := Y.keep hb
    replace A := A.keep hb
    replace hB := bt hB hb
    clear hb
    have hz3 := hB.size
    have l3X := X.lt
    have l3Y := Y.lt
    have l3A := A.lt
    replace X := X.alloc (.cells #[.int .i64 (Iv.mul l h l' h').lo, .int .i64 (Iv.mul l h l' h').hi] 23)
    replace Y := Y.alloc (.cells #[.int .i64 (Iv.mul l h l' h').lo, .int .i64 (Iv.mul l h l' h').hi] 23)
    replace A := A.alloc (.cells #[.int .i64 (Iv.mul l h l' h').lo, .int .i64 (Iv.mul l h l' h').hi] 23)
    replace hB := bal hB (.cells #[.int .i64 (Iv.mul l h l' h').lo, .int .i64 (Iv.mul l h l' h').hi] 23)
    have C := Blk.new w3 23 #[.int .i64 (Iv.mul l h l' h').lo, .int .i64 (Iv.mul l h l' h').hi]
    obtain ⟨c00, c01, c02, c03⟩ := A.open2
    obtain ⟨c10, c11, c12, c13⟩ := X.open2
    obtain ⟨c20, c21, c22, c23⟩ := Y.open2
    go_wp2_with fail
    go_returns
    exact ⟨rfl, hB⟩
  · have e1 := Lib.hid c1
    clear c1
    have A0 := Iv.add_ok c0
    have s1 := IntWalk.i64_in (l + l') (by have := A0.2.2.1; unfold Iv.Vd at this; omega)
    have s2 := IntWalk.i64_in (h + h') (by have := A0.2.2.1; unfold Iv.Vd at this; omega)
    have A1 := Lib.hid A0.2.2.2
    clear A0 c0
    go_enter Try.func6, Try.ntmps6
    have X := Blk.new w 23 #[.int .i64 (l), .int .i64 (h)]
    have hB := ba w (.cells #[.int .i64 (l), .int .i64 (h)] 23)
    have Y := Blk.new1 w (.cells #[.int .i64 (l), .int .i64 (h)] 23) 23 #[.int .i64 (l'), .int .i64 (h')]
    replace X := X.alloc (.cells #[.int .i64 (l'), .int .i64 (h')] 23)
    replace hB := bal hB (.cells #[.int .i64 (l'), .int .i64 (h')] 23)
    go_wp2_with fail
    refine (awake_ci _).mono ?_
    rintro e w1 ⟨rfl, hb⟩
    replace X := X.keep hb
    replace Y := Y.keep hb
    replace hB := bt hB hb
    clear hb
    obtain ⟨c00, c01, c02, c03⟩ := X.open2
    obtain ⟨c10, c11, c12, c13⟩ := Y.open2
    go_wp2_with fail
    refine (add_ci _ _ _ _ _).mono ?_
    rw [A1.out]
    rintro e w2 ⟨rfl, hb⟩
    clear c00 c01 c02 c03 c10 c11 c12 c13
    replace X := X.keep hb
    replace Y := Y.keep hb
    replace hB := bt hB hb
    clear hb
    have hz2 := hB.size
    have l2X := X.lt
    have l2Y := Y.lt
    replace X := X.alloc (.cells #[.int .i64 (l + l'), .int .i64 (h + h')] 23)
    replace Y := Y.alloc (.cells #[.int .i64 (l + l'), .int .i64 (h + h')] 23)
    replace hB := bal hB (.cells #[.int .i64 (l + l'), .int .i64 (h + h')] 23)
    have A := Blk.new w2 23 #[.int .i64 (l + l'), .int .i64 (h + h')]
    obtain ⟨c00, c01, c02, c03⟩ := X.open2
    obtain ⟨c10, c11, c12, c13⟩ := Y.open2
    obtain ⟨c20, c21, c22, c23⟩ := A.open2
    go_wp2_with fail
    refine (mul_ci _ _ _ _ _).mono ?_
    rw [e1.out]
    rintro e w3 ⟨rfl, hb⟩
    clear c00 c01 c02 c03 c10 c11 c12 c13 c20 c21 c22 c23
    replace X := X.keep hb
    replace Y := Y.keep hb
    replace A := A.keep hb
    replace hB := bt hB hb
    clear hb
    have hz3 := hB.size
    have l3X := X.lt
    have l3Y := Y.lt
    have l3A := A.lt
    replace X := X.alloc (.cells #[.int .i64 (Iv.mul l h l' h').lo, .int .i64 (Iv.mul l h l' h').hi] 23)
    replace Y := Y.alloc (.cells #[.int .i64 (Iv.mul l h l' h').lo, .int .i64 (Iv.mul l h l' h').hi] 23)
    replace A := A.alloc (.cells #[.int .i64 (Iv.mul l h l' h').lo, .int .i64 (Iv.mul l h l' h').hi] 23)
    replace hB := bal hB (.cells #[.int .i64 (Iv.mul l h l' h').lo, .int .i64 (Iv.mul l h l' h').hi] 23)
    have C := Blk.new w3 23 #[.int .i64 (Iv.mul l h l' h').lo, .int .i64 (Iv.mul l h l' h').hi]
    obtain ⟨c00, c01, c02, c03⟩ := A.open2
    obtain ⟨c10, c11, c12, c13⟩ := X.open2
    obtain ⟨c20, c21, c22, c23⟩ := Y.open2
    go_wp2_with fail
    go_returns
    exact ⟨rfl, hB⟩
  · exact tight_b l h l' h' w c0 c1
  · have e1 := Lib.hid c1
    clear c1
    obtain ⟨m0, hm0⟩ : ∃ m, Hid ((Iv.add l h l' h').er = m) := ⟨_, Lib.hid rfl⟩
    rw [hm0.out] at c0
    have k0_ : (m0 == 0) = false := by simpa using c0
    clear c0
    go_enter Try.func6, Try.ntmps6
    have X := Blk.new w 23 #[.int .i64 (l), .int .i64 (h)]
    have hB := ba w (.cells #[.int .i64 (l), .int .i64 (h)] 23)
    have Y := Blk.new1 w (.cells #[.int .i64 (l), .int .i64 (h)] 23) 23 #[.int .i64 (l'), .int .i64 (h')]
    replace X := X.alloc (.cells #[.int .i64 (l'), .int .i64 (h')] 23)
    replace hB := bal hB (.cells #[.int .i64 (l'), .int .i64 (h')] 23)
    go_wp2_with fail
    refine (awake_ci _).mono ?_
    rintro e w1 ⟨rfl, hb⟩
    replace X := X.keep hb
    replace Y := Y.keep hb
    replace hB := bt hB hb
    clear hb
    obtain ⟨c00, c01, c02, c03⟩ := X.open2
    obtain ⟨c10, c11, c12, c13⟩ := Y.open2
    go_wp2_with fail
    refine (add_ci _ _ _ _ _).mono ?_
    rw [hm0.out]
    rintro e w2 ⟨rfl, hb⟩
    clear c00 c01 c02 c03 c10 c11 c12 c13
    replace X := X.keep hb
    replace Y := Y.keep hb
    replace hB := bt hB hb
    clear hb
    have hz2 := hB.size
    have l2X := X.lt
    have l2Y := Y.lt
    replace X := X.alloc (.cells #[.int .i64 (Iv.add l h l' h').lo, .int .i64 (Iv.add l h l' h').hi] 23)
    replace Y := Y.alloc (.cells #[.int .i64 (Iv.add l h l' h').lo, .int .i64 (Iv.add l h l' h').hi] 23)
    replace hB := bal hB (.cells #[.int .i64 (Iv.add l h l' h').lo, .int .i64 (Iv.add l h l' h').hi] 23)
    have A := Blk.new w2 23 #[.int .i64 (Iv.add l h l' h').lo, .int .i64 (Iv.add l h l' h').hi]
    obtain ⟨c00, c01, c02, c03⟩ := X.open2
    obtain ⟨c10, c11, c12, c13⟩ := Y.open2
    obtain ⟨c20, c21, c22, c23⟩ := A.open2
    go_wp2_with fail
    refine (mul_ci _ _ _ _ _).mono ?_
    rw [e1.out]
    rintro e w3 ⟨rfl, hb⟩
    clear c00 c01 c02 c03 c10 c11 c12 c13 c20 c21 c22 c23
    replace X := X.keep hb
    replace Y := Y.keep hb
    replace A := A.keep hb
    replace hB := bt hB hb
    clear hb
    have hz3 := hB.size
    have l3X := X.lt
    have l3Y := Y.lt
    have l3A := A.lt
    replace X := X.alloc (.cells #[.int .i64 (Iv.mul l h l' h').lo, .int .i64 (Iv.mul l h l' h').hi] 23)
    replace Y := Y.alloc (.cells #[.int .i64 (Iv.mul l h l' h').lo, .int .i64 (Iv.mul l h l' h').hi] 23)
    replace A := A.alloc (.cells #[.int .i64 (Iv.mul l h l' h').lo, .int .i64 (Iv.mul l h l' h').hi] 23)
    replace hB := bal hB (.cells #[.int .i64 (Iv.mul l h l' h').lo, .int .i64 (Iv.mul l h l' h').hi] 23)
    have C := Blk.new w3 23 #[.int .i64 (Iv.mul l h l' h').lo, .int .i64 (Iv.mul l h l' h').hi]
    obtain ⟨c00, c01, c02, c03⟩ := A.open2
    obtain ⟨c10, c11, c12, c13⟩ := X.open2
    obtain ⟨c20, c21, c22, c23⟩ := Y.open2
    go_wp2_with fail
    go_returns
    exact ⟨rfl, hB⟩
  · have e1 := Lib.hid c1
    clear c1
    obtain ⟨m0, hm0⟩ : ∃ m, Hid ((Iv.add l h l' h').er = m) := ⟨_, Lib.hid rfl⟩
    rw [hm0.out] at c0
    have k0_ : (m0 == 0) = false := by simpa using c0
    clear c0
    go_enter Try.func6, Try.ntmps6
    have X := Blk.new w 23 #[.int .i64 (l), .int .i64 (h)]
    have hB := ba w (.cells #[.int .i64 (l), .int .i64 (h)] 23)
    have Y := Blk.new1 w (.cells #[.int .i64 (l), .int .i64 (h)] 23) 23 #[.int .i64 (l'), .int .i64 (h')]
    replace X := X.alloc (.cells #[.int .i64 (l'), .int .i64 (h')] 23)
    replace hB := bal hB (.cells #[.int .i64 (l'), .int .i64 (h')] 23)
    go_wp2_with fail
    refine (awake_ci _).mono ?_
    rintro e w1 ⟨rfl, hb⟩
    replace X := X.keep hb
    replace Y := Y.keep hb
    replace hB := bt hB hb
    clear hb
    obtain ⟨c00, c01, c02, c03⟩ := X.open2
    obtain ⟨c10, c11, c12, c13⟩ := Y.open2
    go_wp2_with fail
    refine (add_ci _ _ _ _ _).mono ?_
    rw [hm0.out]
    rintro e w2 ⟨rfl, hb⟩
    clear c00 c01 c02 c03 c10 c11 c12 c13
    replace X := X.keep hb
    replace Y := Y.keep hb
    replace hB := bt hB hb
    clear hb
    have hz2 := hB.size
    have l2X := X.lt
    have l2Y := Y.lt
    replace X := X.alloc (.cells #[.int .i64 (Iv.add l h l' h').lo, .int .i64 (Iv.add l h l' h').hi] 23)
    replace Y := Y.alloc (.cells #[.int .i64 (Iv.add l h l' h').lo, .int .i64 (Iv.add l h l' h').hi] 23)
    replace hB := bal hB (.cells #[.int .i64 (Iv.add l h l' h').lo, .int .i64 (Iv.add l h l' h').hi] 23)
    have A := Blk.new w2 23 #[.int .i64 (Iv.add l h l' h').lo, .int .i64 (Iv.add l h l' h').hi]
    obtain ⟨c00, c01, c02, c03⟩ := X.open2
    obtain ⟨c10, c11, c12, c13⟩ := Y.open2
    obtain ⟨c20, c21, c22, c23⟩ := A.open2
    go_wp2_with fail
    refine (mul_ci _ _ _ _ _).mono ?_
    rw [e1.out]
    rintro e w3 ⟨rfl, hb⟩
    clear c00 c01 c02 c03 c10 c11 c12 c13 c20 c21 c22 c23
    replace X := X.keep hb
    replace Y := Y.keep hb
    replace A := A.keep hb
    replace hB := bt hB hb
    clear hb
    have hz3 := hB.size
    have l3X := X.lt
    have l3Y := Y.lt
    have l3A := A.lt
    replace X := X.alloc (.cells #[.int .i64 (Iv.mul l h l' h').lo, .int .i64 (Iv.mul l h l' h').hi] 23)
    replace Y := Y.alloc (.cells #[.int .i64 (Iv.mul l h l' h').lo, .int .i64 (Iv.mul l h l' h').hi] 23)
    replace A := A.alloc (.cells #[.int .i64 (Iv.mul l h l' h').lo, .int .i64 (Iv.mul l h l' h').hi] 23)
    replace hB := bal hB (.cells #[.int .i64 (Iv.mul l h l' h').lo, .int .i64 (Iv.mul l h l' h').hi] 23)
    have C := Blk.new w3 23 #[.int .i64 (Iv.mul l h l' h').lo, .int .i64 (Iv.mul l h l' h').hi]
    obtain ⟨c00, c01, c02, c03⟩ := A.open2
    obtain ⟨c10, c11, c12, c13⟩ := X.open2
    obtain ⟨c20, c21, c22, c23⟩ := Y.open2
    go_wp2_with fail
    go_returns
    exact ⟨rfl, hB⟩
end Go.Proofs.Ytclohghongpfkaa
