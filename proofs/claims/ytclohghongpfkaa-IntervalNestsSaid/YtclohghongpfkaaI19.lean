/-
  The walk of IntervalNests.
-/
import Derived.Test.YtclohghongpfkaaI15
import Derived.Test.YtclohghongpfkaaI3
import Derived.Test.YtclohghongpfkaaIPlain3
namespace Go.Proofs.Ytclohghongpfkaa
set_option linter.unusedVariables false
set_option linter.unusedSimpArgs false
open Go.RowKit

set_option maxRecDepth 100000 in
set_option maxHeartbeats 4000000 in
theorem law_nests (l h l' h' p q : Int) (w : World) : Calls Try.prog 7 #[.agg #[.int .i64 l, .int .i64 h], .agg #[.int .i64 l', .int .i64 h'], .agg #[.int .i64 p, .int .i64 q]] w fun e w' => e = .returned (.bool true) ∧ Below w.heap.size w w' := by
  by_cases v : Iv.Vd l h ∧ Iv.Vd p q
  rotate_left
  · have hm := Lib.hid (show (Iv.meet l h p q).lo = 0 ∧ (Iv.meet l h p q).hi = 0 ∧ (Iv.meet l h p q).er = 1 from by unfold Iv.meet; rw [if_neg v]; exact ⟨rfl, rfl, rfl⟩)
    clear v
    go_enter Try.func7, Try.ntmps7
    have X := Blk.new w 23 #[.int .i64 (l), .int .i64 (h)]
    have hB := ba w (.cells #[.int .i64 (l), .int .i64 (h)] 23)
    have Y := Blk.new1 w (.cells #[.int .i64 (l), .int .i64 (h)] 23) 23 #[.int .i64 (l'), .int .i64 (h')]
    replace X := X.alloc (.cells #[.int .i64 (l'), .int .i64 (h')] 23)
    replace hB := bal hB (.cells #[.int .i64 (l'), .int .i64 (h')] 23)
    have Z := Blk.new2 w (.cells #[.int .i64 (l), .int .i64 (h)] 23) (.cells #[.int .i64 (l'), .int .i64 (h')] 23) 23 #[.int .i64 (p), .int .i64 (q)]
    replace X := X.alloc (.cells #[.int .i64 (p), .int .i64 (q)] 23)
    replace Y := Y.alloc (.cells #[.int .i64 (p), .int .i64 (q)] 23)
    replace hB := bal hB (.cells #[.int .i64 (p), .int .i64 (q)] 23)
    go_wp2_with fail
    refine (awake_ci _).mono ?_
    rintro e w1 ⟨rfl, hb⟩
    replace X := X.keep hb
    replace Y := Y.keep hb
    replace Z := Z.keep hb
    replace hB := bt hB hb
    clear hb
    obtain ⟨c00, c01, c02, c03⟩ := X.open2
    obtain ⟨c10, c11, c12, c13⟩ := Z.open2
    go_wp2_with fail
    refine (meet_ci _ _ _ _ _).mono ?_
    rw [hm.out.1, hm.out.2.1, hm.out.2.2]
    rintro e w2 ⟨rfl, hb⟩
    clear c00 c01 c02 c03 c10 c11 c12 c13
    replace X := X.keep hb
    replace Y := Y.keep hb
    replace Z := Z.keep hb
    replace hB := bt hB hb
    clear hb
    have hz2 := hB.size
    have l2X := X.lt
    have l2Y := Y.lt
    have l2Z := Z.lt
    replace X := X.alloc (.cells #[.int .i64 0, .int .i64 0] 23)
    replace Y := Y.alloc (.cells #[.int .i64 0, .int .i64 0] 23)
    replace Z := Z.alloc (.cells #[.int .i64 0, .int .i64 0] 23)
    replace hB := bal hB (.cells #[.int .i64 0, .int .i64 0] 23)
    have M := Blk.new w2 23 #[.int .i64 0, .int .i64 0]
    go_wp2_with fail
    go_returns
    exact ⟨rfl, hB⟩
  by_cases c : min h q < max l p
  · have hm := Lib.hid (show (Iv.meet l h p q).lo = 0 ∧ (Iv.meet l h p q).hi = 0 ∧ (Iv.meet l h p q).er = 6 from by unfold Iv.meet; rw [if_pos v, if_pos c]; exact ⟨rfl, rfl, rfl⟩)
    clear v c
    go_enter Try.func7, Try.ntmps7
    have X := Blk.new w 23 #[.int .i64 (l), .int .i64 (h)]
    have hB := ba w (.cells #[.int .i64 (l), .int .i64 (h)] 23)
    have Y := Blk.new1 w (.cells #[.int .i64 (l), .int .i64 (h)] 23) 23 #[.int .i64 (l'), .int .i64 (h')]
    replace X := X.alloc (.cells #[.int .i64 (l'), .int .i64 (h')] 23)
    replace hB := bal hB (.cells #[.int .i64 (l'), .int .i64 (h')] 23)
    have Z := Blk.new2 w (.cells #[.int .i64 (l), .int .i64 (h)] 23) (.cells #[.int .i64 (l'), .int .i64 (h')] 23) 23 #[.int .i64 (p), .int .i64 (q)]
    replace X := X.alloc (.cells #[.int .i64 (p), .int .i64 (q)] 23)
    replace Y := Y.alloc (.cells #[.int .i64 (p), .int .i64 (q)] 23)
    replace hB := bal hB (.cells #[.int .i64 (p), .int .i64 (q)] 23)
    go_wp2_with fail
    refine (awake_ci _).mono ?_
    rintro e w1 ⟨rfl, hb⟩
    replace X := X.keep hb
    replace Y := Y.keep hb
    replace Z := Z.keep hb
    replace hB := bt hB hb
    clear hb
    obtain ⟨c00, c01, c02, c03⟩ := X.open2
    obtain ⟨c10, c11, c12, c13⟩ := Z.open2
    go_wp2_with fail
    refine (meet_ci _ _ _ _ _).mono ?_
    rw [hm.out.1, hm.out.2.1, hm.out.2.2]
    rintro e w2 ⟨rfl, hb⟩
    clear c00 c01 c02 c03 c10 c11 c12 c13
    replace X := X.keep hb
    replace Y := Y.keep hb
    replace Z := Z.keep hb
    replace hB := bt hB hb
    clear hb
    have hz2 := hB.size
    have l2X := X.lt
    have l2Y := Y.lt
    have l2Z := Z.lt
    replace X := X.alloc (.cells #[.int .i64 0, .int .i64 0] 23)
    replace Y := Y.alloc (.cells #[.int .i64 0, .int .i64 0] 23)
    replace Z := Z.alloc (.cells #[.int .i64 0, .int .i64 0] 23)
    replace hB := bal hB (.cells #[.int .i64 0, .int .i64 0] 23)
    have M := Blk.new w2 23 #[.int .i64 0, .int .i64 0]
    go_wp2_with fail
    go_returns
    exact ⟨rfl, hB⟩
  have hm := Lib.hid (show (Iv.meet l h p q).lo = max l p ∧ (Iv.meet l h p q).hi = min h q ∧ (Iv.meet l h p q).er = 0 from by unfold Iv.meet; rw [if_pos v, if_neg c]; exact ⟨rfl, rfl, rfl⟩)
  obtain ⟨v1, v2⟩ := v
  have vw : Iv.Vd (max l p) (min h q) := by unfold Iv.Vd at *; omega
  have a1 : l ≤ max l p := by omega
  have a2 : min h q ≤ h := by omega
  have a3 : p ≤ max l p := by omega
  have a4 : min h q ≤ q := by omega
  clear c
  generalize max l p = a at *
  generalize min h q = b at *
  have y1 := Lib.hid (Iv.wi_yes vw v1 a1 a2)
  have y2 := Lib.hid (Iv.wi_yes vw v2 a3 a4)
  clear v1 v2
  by_cases e0 : (Iv.mul l h l' h').er = 0 <;> by_cases e1 : (Iv.quo l h l' h').er = 0 <;> by_cases e2 : (Iv.sub l' h' l h).er = 0
  · have N0 := Lib.hid (Iv.nest_mul vw a1 a2 e0)
    replace e0 := Lib.hid e0
    have N1 := Lib.hid (Iv.nest_quo vw a1 a2 e1)
    replace e1 := Lib.hid e1
    have N2 := Lib.hid (Iv.nest_sub vw a1 a2 e2)
    replace e2 := Lib.hid e2
    clear vw a1 a2 a3 a4
    go_enter Try.func7, Try.ntmps7
    have X := Blk.new w 23 #[.int .i64 (l), .int .i64 (h)]
    have hB := ba w (.cells #[.int .i64 (l), .int .i64 (h)] 23)
    have Y := Blk.new1 w (.cells #[.int .i64 (l), .int .i64 (h)] 23) 23 #[.int .i64 (l'), .int .i64 (h')]
    replace X := X.alloc (.cells #[.int .i64 (l'), .int .i64 (h')] 23)
    replace hB := bal hB (.cells #[.int .i64 (l'), .int .i64 (h')] 23)
    have Z := Blk.new2 w (.cells #[.int .i64 (l), .int .i64 (h)] 23) (.cells #[.int .i64 (l'), .int .i64 (h')] 23) 23 #[.int .i64 (p), .int .i64 (q)]
    replace X := X.alloc (.cells #[.int .i64 (p), .int .i64 (q)] 23)
    replace Y := Y.alloc (.cells #[.int .i64 (p), .int .i64 (q)] 23)
    replace hB := bal hB (.cells #[.int .i64 (p), .int .i64 (q)] 23)
    go_wp2_with fail
    refine (awake_ci _).mono ?_
    rintro e w1 ⟨rfl, hb⟩
    replace X := X.keep hb
    replace Y := Y.keep hb
    replace Z := Z.keep hb
    replace hB := bt hB hb
    clear hb
    obtain ⟨c00, c01, c02, c03⟩ := X.open2
    obtain ⟨c10, c11, c12, c13⟩ := Z.open2
    go_wp2_with fail
    refine (meet_ci _ _ _ _ _).mono ?_
    rw [hm.out.1, hm.out.2.1, hm.out.2.2]
    rintro e w2 ⟨rfl, hb⟩
    clear c00 c01 c02 c03 c10 c11 c12 c13
    replace X := X.keep hb
    replace Y := Y.keep hb
    replace Z := Z.keep hb
    replace hB := bt hB hb
    clear hb
    have hz2 := hB.size
    have l2X := X.lt
    have l2Y := Y.lt
    have l2Z := Z.lt
    replace X := X.alloc (.cells #[.int .i64 a, .int .i64 b] 23)
    replace Y := Y.alloc (.cells #[.int .i64 a, .int .i64 b] 23)
    replace Z := Z.alloc (.cells #[.int .i64 a, .int .i64 b] 23)
    replace hB := bal hB (.cells #[.int .i64 a, .int .i64 b] 23)
    have M := Blk.new w2 23 #[.int .i64 a, .int .i64 b]
    obtain ⟨c00, c01, c02, c03⟩ := M.open2
    obtain ⟨c10, c11, c12, c13⟩ := X.open2
    go_wp2_with fail
    refine (within_c _ _ _ _ _).mono ?_
    rw [y1.out]
    rintro e w3 ⟨rfl, hb⟩
    clear c00 c01 c02 c03 c10 c11 c12 c13
    replace X := X.keep hb
    replace Y := Y.keep hb
    replace Z := Z.keep hb
    replace M := M.keep hb
    replace hB := bt hB hb
    clear hb
    obtain ⟨c00, c01, c02, c03⟩ := M.open2
    obtain ⟨c10, c11, c12, c13⟩ := Z.open2
    go_wp2_with fail
    refine (within_c _ _ _ _ _).mono ?_
    rw [y2.out]
    rintro e w4 ⟨rfl, hb⟩
    clear c00 c01 c02 c03 c10 c11 c12 c13
    replace X := X.keep hb
    replace Y := Y.keep hb
    replace Z := Z.keep hb
    replace M := M.keep hb
    replace hB := bt hB hb
    clear hb
    obtain ⟨c00, c01, c02, c03⟩ := M.open2
    obtain ⟨c10, c11, c12, c13⟩ := Y.open2
    go_wp2_with fail
    refine (mul_ci _ _ _ _ _).mono ?_
    rw [N0.out.1]
    rintro e w5 ⟨rfl, hb⟩
    clear c00 c01 c02 c03 c10 c11 c12 c13
    replace X := X.keep hb
    replace Y := Y.keep hb
    replace Z := Z.keep hb
    replace M := M.keep hb
    replace hB := bt hB hb
    clear hb
    have hz5 := hB.size
    have l5X := X.lt
    have l5Y := Y.lt
    have l5Z := Z.lt
    have l5M := M.lt
    replace X := X.alloc (.cells #[.int .i64 (Iv.mul a b l' h').lo, .int .i64 (Iv.mul a b l' h').hi] 23)
    replace Y := Y.alloc (.cells #[.int .i64 (Iv.mul a b l' h').lo, .int .i64 (Iv.mul a b l' h').hi] 23)
    replace Z := Z.alloc (.cells #[.int .i64 (Iv.mul a b l' h').lo, .int .i64 (Iv.mul a b l' h').hi] 23)
    replace M := M.alloc (.cells #[.int .i64 (Iv.mul a b l' h').lo, .int .i64 (Iv.mul a b l' h').hi] 23)
    replace hB := bal hB (.cells #[.int .i64 (Iv.mul a b l' h').lo, .int .i64 (Iv.mul a b l' h').hi] 23)
    have A := Blk.new w5 23 #[.int .i64 (Iv.mul a b l' h').lo, .int .i64 (Iv.mul a b l' h').hi]
    obtain ⟨c00, c01, c02, c03⟩ := X.open2
    obtain ⟨c10, c11, c12, c13⟩ := Y.open2
    obtain ⟨c20, c21, c22, c23⟩ := A.open2
    go_wp2_with fail
    refine (mul_ci _ _ _ _ _).mono ?_
    rw [e0.out]
    rintro e w6 ⟨rfl, hb⟩
    clear c00 c01 c02 c03 c10 c11 c12 c13 c20 c21 c22 c23
    replace X := X.keep hb
    replace Y := Y.keep hb
    replace Z := Z.keep hb
    replace M := M.keep hb
    replace A := A.keep hb
    replace hB := bt hB hb
    clear hb
    have hz6 := hB.size
    have l6X := X.lt
    have l6Y := Y.lt
    have l6Z := Z.lt
    have l6M := M.lt
    have l6A := A.lt
    replace X := X.alloc (.cells #[.int .i64 (Iv.mul l h l' h').lo, .int .i64 (Iv.mul l h l' h').hi] 23)
    replace Y := Y.alloc (.cells #[.int .i64 (Iv.mul l h l' h').lo, .int .i64 (Iv.mul l h l' h').hi] 23)
    replace Z := Z.alloc (.cells #[.int .i64 (Iv.mul l h l' h').lo, .int .i64 (Iv.mul l h l' h').hi] 23)
    replace M := M.alloc (.cells #[.int .i64 (Iv.mul l h l' h').lo, .int .i64 (Iv.mul l h l' h').hi] 23)
    replace A := A.alloc (.cells #[.int .i64 (Iv.mul l h l' h').lo, .int .i64 (Iv.mul l h l' h').hi] 23)
    replace hB := bal hB (.cells #[.int .i64 (Iv.mul l h l' h').lo, .int .i64 (Iv.mul l h l' h').hi] 23)
    have B := Blk.new w6 23 #[.int .i64 (Iv.mul l h l' h').lo, .int .i64 (Iv.mul l h l' h').hi]
    obtain ⟨c00, c01, c02, c03⟩ := A.open2
    obtain ⟨c10, c11, c12, c13⟩ := B.open2
    go_wp2_with fail
    refine (within_c _ _ _ _ _).mono ?_
    rw [N0.out.2]
    rintro e w7 ⟨rfl, hb⟩
    clear c00 c01 c02 c03 c10 c11 c12 c13
    replace X := X.keep hb
    replace Y := Y.keep hb
    replace Z := Z.keep hb
    replace M := M.keep hb
    replace A := A.keep hb
    replace B := B.keep hb
    replace hB := bt hB hb
    clear hb
    obtain ⟨c00, c01, c02, c03⟩ := M.open2
    obtain ⟨c10, c11, c12, c13⟩ := Y.open2
    obtain ⟨c20, c21, c22, c23⟩ := A.open2
    obtain ⟨c30, c31, c32, c33⟩ := B.open2
    go_wp2_with fail
    refine (quo_ci _ _ _ _ _).mono ?_
    rw [N1.out.1]
    rintro e w8 ⟨rfl, hb⟩
    clear c00 c01 c02 c03 c10 c11 c12 c13 c20 c21 c22 c23 c30 c31 c32 c33
    replace X := X.keep hb
    replace Y := Y.keep hb
    replace Z := Z.keep hb
    replace M := M.keep hb
    replace A := A.keep hb
    replace B := B.keep hb
    replace hB := bt hB hb
    clear hb
    obtain ⟨s0, s1, s2, s3⟩ := A.open2
    replace X := ((X.far (p := ⟨w5.heap.size, 0, none⟩) (by first | (simp; done) | (simp; omega) | omega) (.int .i64 (Iv.quo a b l' h').lo)).far (p := ⟨w5.heap.size, 1, none⟩) (by first | (simp; done) | (simp; omega) | omega) (.int .i64 (Iv.quo a b l' h').hi))
    replace Y := ((Y.far (p := ⟨w5.heap.size, 0, none⟩) (by first | (simp; done) | (simp; omega) | omega) (.int .i64 (Iv.quo a b l' h').lo)).far (p := ⟨w5.heap.size, 1, none⟩) (by first | (simp; done) | (simp; omega) | omega) (.int .i64 (Iv.quo a b l' h').hi))
    replace Z := ((Z.far (p := ⟨w5.heap.size, 0, none⟩) (by first | (simp; done) | (simp; omega) | omega) (.int .i64 (Iv.quo a b l' h').lo)).far (p := ⟨w5.heap.size, 1, none⟩) (by first | (simp; done) | (simp; omega) | omega) (.int .i64 (Iv.quo a b l' h').hi))
    replace M := ((M.far (p := ⟨w5.heap.size, 0, none⟩) (by first | (simp; done) | (simp; omega) | omega) (.int .i64 (Iv.quo a b l' h').lo)).far (p := ⟨w5.heap.size, 1, none⟩) (by first | (simp; done) | (simp; omega) | omega) (.int .i64 (Iv.quo a b l' h').hi))
    replace B := ((B.far (p := ⟨w5.heap.size, 0, none⟩) (by first | (simp; done) | (simp; omega) | omega) (.int .i64 (Iv.quo a b l' h').lo)).far (p := ⟨w5.heap.size, 1, none⟩) (by first | (simp; done) | (simp; omega) | omega) (.int .i64 (Iv.quo a b l' h').hi))
    replace hB := (bst (bst hB (p := ⟨w5.heap.size, 0, none⟩) (by first | (simp; done) | (simp; omega) | omega) (.int .i64 (Iv.quo a b l' h').lo)) (p := ⟨w5.heap.size, 1, none⟩) (by first | (simp; done) | (simp; omega) | omega) (.int .i64 (Iv.quo a b l' h').hi))
    replace A := ((A.set_ 0 (.int .i64 (Iv.quo a b l' h').lo)).set_ 1 (.int .i64 (Iv.quo a b l' h').hi))
    simp only [List.setIfInBounds_toArray, List.set_cons_zero, List.set_cons_succ] at A
    obtain ⟨c00, c01, c02, c03⟩ := X.open2
    obtain ⟨c10, c11, c12, c13⟩ := Y.open2
    obtain ⟨c20, c21, c22, c23⟩ := B.open2
    go_wp2_with fail
    refine (quo_ci _ _ _ _ _).mono ?_
    rw [e1.out]
    rintro e w9 ⟨rfl, hb⟩
    clear s0 s1 s2 s3
    clear c00 c01 c02 c03 c10 c11 c12 c13 c20 c21 c22 c23
    replace X := X.keep hb
    replace Y := Y.keep hb
    replace Z := Z.keep hb
    replace M := M.keep hb
    replace A := A.keep hb
    replace B := B.keep hb
    replace hB := bt hB hb
    clear hb
    obtain ⟨s0, s1, s2, s3⟩ := B.open2
    replace X := ((X.far (p := ⟨w6.heap.size, 0, none⟩) (by first | (simp; done) | (simp; omega) | omega) (.int .i64 (Iv.quo l h l' h').lo)).far (p := ⟨w6.heap.size, 1, none⟩) (by first | (simp; done) | (simp; omega) | omega) (.int .i64 (Iv.quo l h l' h').hi))
    replace Y := ((Y.far (p := ⟨w6.heap.size, 0, none⟩) (by first | (simp; done) | (simp; omega) | omega) (.int .i64 (Iv.quo l h l' h').lo)).far (p := ⟨w6.heap.size, 1, none⟩) (by first | (simp; done) | (simp; omega) | omega) (.int .i64 (Iv.quo l h l' h').hi))
    replace Z := ((Z.far (p := ⟨w6.heap.size, 0, none⟩) (by first | (simp; done) | (simp; omega) | omega) (.int .i64 (Iv.quo l h l' h').lo)).far (p := ⟨w6.heap.size, 1, none⟩) (by first | (simp; done) | (simp; omega) | omega) (.int .i64 (Iv.quo l h l' h').hi))
    replace M := ((M.far (p := ⟨w6.heap.size, 0, none⟩) (by first | (simp; done) | (simp; omega) | omega) (.int .i64 (Iv.quo l h l' h').lo)).far (p := ⟨w6.heap.size, 1, none⟩) (by first | (simp; done) | (simp; omega) | omega) (.int .i64 (Iv.quo l h l' h').hi))
    replace A := ((A.far (p := ⟨w6.heap.size, 0, none⟩) (by first | (simp; done) | (simp; omega) | omega) (.int .i64 (Iv.quo l h l' h').lo)).far (p := ⟨w6.heap.size, 1, none⟩) (by first | (simp; done) | (simp; omega) | omega) (.int .i64 (Iv.quo l h l' h').hi))
    replace hB := (bst (bst hB (p := ⟨w6.heap.size, 0, none⟩) (by first | (simp; done) | (simp; omega) | omega) (.int .i64 (Iv.quo l h l' h').lo)) (p := ⟨w6.heap.size, 1, none⟩) (by first | (simp; done) | (simp; omega) | omega) (.int .i64 (Iv.quo l h l' h').hi))
    replace B := ((B.set_ 0 (.int .i64 (Iv.quo l h l' h').lo)).set_ 1 (.int .i64 (Iv.quo l h l' h').hi))
    simp only [List.setIfInBounds_toArray, List.set_cons_zero, List.set_cons_succ] at B
    obtain ⟨c00, c01, c02, c03⟩ := A.open2
    obtain ⟨c10, c11, c12, c13⟩ := B.open2
    go_wp2_with fail
    refine (within_c _ _ _ _ _).mono ?_
    rw [N1.out.2]
    rintro e w10 ⟨rfl, hb⟩
    clear s0 s1 s2 s3
    clear c00 c01 c02 c03 c10 c11 c12 c13
    replace X := X.keep hb
    replace Y := Y.keep hb
    replace Z := Z.keep hb
    replace M := M.keep hb
    replace A := A.keep hb
    replace B := B.keep hb
    replace hB := bt hB hb
    clear hb
    obtain ⟨c00, c01, c02, c03⟩ := Y.open2
    obtain ⟨c10, c11, c12, c13⟩ := M.open2
    obtain ⟨c20, c21, c22, c23⟩ := A.open2
    obtain ⟨c30, c31, c32, c33⟩ := B.open2
    go_wp2_with fail
    refine (sub_ci _ _ _ _ _).mono ?_
    rw [N2.out.1]
    rintro e w11 ⟨rfl, hb⟩
    clear c00 c01 c02 c03 c10 c11 c12 c13 c20 c21 c22 c23 c30 c31 c32 c33
    replace X := X.keep hb
    replace Y := Y.keep hb
    replace Z := Z.keep hb
    replace M := M.keep hb
    replace A := A.keep hb
    replace B := B.keep hb
    replace hB := bt hB hb
    clear hb
    obtain ⟨s0, s1, s2, s3⟩ := A.open2
    replace X := ((X.far (p := ⟨w5.heap.size, 0, none⟩) (by first | (simp; done) | (simp; omega) | omega) (.int .i64 (Iv.sub l' h' a b).lo)).far (p := ⟨w5.heap.size, 1, none⟩) (by first | (simp; done) | (simp; omega) | omega) (.int .i64 (Iv.sub l' h' a b).hi))
    replace Y := ((Y.far (p := ⟨w5.heap.size, 0, none⟩) (by first | (simp; done) | (simp; omega) | omega) (.int .i64 (Iv.sub l' h' a b).lo)).far (p := ⟨w5.heap.size, 1, none⟩) (by first | (simp; done) | (simp; omega) | omega) (.int .i64 (Iv.sub l' h' a b).hi))
    replace Z := ((Z.far (p := ⟨w5.heap.size, 0, none⟩) (by first | (simp; done) | (simp; omega) | omega) (.int .i64 (Iv.sub l' h' a b).lo)).far (p := ⟨w5.heap.size, 1, none⟩) (by first | (simp; done) | (simp; omega) | omega) (.int .i64 (Iv.sub l' h' a b).hi))
    replace M := ((M.far (p := ⟨w5.heap.size, 0, none⟩) (by first | (simp; done) | (simp; omega) | omega) (.int .i64 (Iv.sub l' h' a b).lo)).far (p := ⟨w5.heap.size, 1, none⟩) (by first | (simp; done) | (simp; omega) | omega) (.int .i64 (Iv.sub l' h' a b).hi))
    replace B := ((B.far (p := ⟨w5.heap.size, 0, none⟩) (by first | (simp; done) | (simp; omega) | omega) (.int .i64 (Iv.sub l' h' a b).lo)).far (p := ⟨w5.heap.size, 1, none⟩) (by first | (simp; done) | (simp; omega) | omega) (.int .i64 (Iv.sub l' h' a b).hi))
    replace hB := (bst (bst hB (p := ⟨w5.heap.size, 0, none⟩) (by first | (simp; done) | (simp; omega) | omega) (.int .i64 (Iv.sub l' h' a b).lo)) (p := ⟨w5.heap.size, 1, none⟩) (by first | (simp; done) | (simp; omega) | omega) (.int .i64 (Iv.sub l' h' a b).hi))
    replace A := ((A.set_ 0 (.int .i64 (Iv.sub l' h' a b).lo)).set_ 1 (.int .i64 (Iv.sub l' h' a b).hi))
    simp only [List.setIfInBounds_toArray, List.set_cons_zero, List.set_cons_succ] at A
    obtain ⟨c00, c01, c02, c03⟩ := Y.open2
    obtain ⟨c10, c11, c12, c13⟩ := X.open2
    obtain ⟨c20, c21, c22, c23⟩ := B.open2
    go_wp2_with fail
    refine (sub_ci _ _ _ _ _).mono ?_
    rw [e2.out]
    rintro e w12 ⟨rfl, hb⟩
    clear s0 s1 s2 s3
    clear c00 c01 c02 c03 c10 c11 c12 c13 c20 c21 c22 c23
    replace X := X.keep hb
    replace Y := Y.keep hb
    replace Z := Z.keep hb
    replace M := M.keep hb
    replace A := A.keep hb
    replace B := B.keep hb
    replace hB := bt hB hb
    clear hb
    obtain ⟨s0, s1, s2, s3⟩ := B.open2
    replace X := ((X.far (p := ⟨w6.heap.size, 0, none⟩) (by first | (simp; done) | (simp; omega) | omega) (.int .i64 (Iv.sub l' h' l h).lo)).far (p := ⟨w6.heap.size, 1, none⟩) (by first | (simp; done) | (simp; omega) | omega) (.int .i64 (Iv.sub l' h' l h).hi))
    replace Y := ((Y.far (p := ⟨w6.heap.size, 0, none⟩) (by first | (simp; done) | (simp; omega) | omega) (.int .i64 (Iv.sub l' h' l h).lo)).far (p := ⟨w6.heap.size, 1, none⟩) (by first | (simp; done) | (simp; omega) | omega) (.int .i64 (Iv.sub l' h' l h).hi))
    replace Z := ((Z.far (p := ⟨w6.heap.size, 0, none⟩) (by first | (simp; done) | (simp; omega) | omega) (.int .i64 (Iv.sub l' h' l h).lo)).far (p := ⟨w6.heap.size, 1, none⟩) (by first | (simp; done) | (simp; omega) | omega) (.int .i64 (Iv.sub l' h' l h).hi))
    replace M := ((M.far (p := ⟨w6.heap.size, 0, none⟩) (by first | (simp; done) | (simp; omega) | omega) (.int .i64 (Iv.sub l' h' l h).lo)).far (p := ⟨w6.heap.size, 1, none⟩) (by first | (simp; done) | (simp; omega) | omega) (.int .i64 (Iv.sub l' h' l h).hi))
    replace A := ((A.far (p := ⟨w6.heap.size, 0, none⟩) (by first | (simp; done) | (simp; omega) | omega) (.int .i64 (Iv.sub l' h' l h).lo)).far (p := ⟨w6.heap.size, 1, none⟩) (by first | (simp; done) | (simp; omega) | omega) (.int .i64 (Iv.sub l' h' l h).hi))
    replace hB := (bst (bst hB (p := ⟨w6.heap.size, 0, none⟩) (by first | (simp; done) | (simp; omega) | omega) (.int .i64 (Iv.sub l' h' l h).lo)) (p := ⟨w6.heap.size, 1, none⟩) (by first | (simp; done) | (simp; omega) | omega) (.int .i64 (Iv.sub l' h' l h).hi))
    replace B := ((B.set_ 0 (.int .i64 (Iv.sub l' h' l h).lo)).set_ 1 (.int .i64 (Iv.sub l' h' l h).hi))
    simp only [List.setIfInBounds_toArray, List.set_cons_zero, List.set_cons_succ] at B
    obtain ⟨c00, c01, c02, c03⟩ := A.open2
    obtain ⟨c10, c11, c12, c13⟩ := B.open2
    go_wp2_with fail
    refine (within_c _ _ _ _ _).mono ?_
    rw [N2.out.2]
    rintro e w13 ⟨rfl, hb⟩
    clear s0 s1 s2 s3
    clear c00 c01 c02 c03 c10 c11 c12 c13
    replace X := X.keep hb
    replace Y := Y.keep hb
    replace Z := Z.keep hb
    replace M := M.keep hb
    replace A := A.keep hb
    replace B := B.keep hb
    replace hB := bt hB hb
    clear hb
    go_wp2_with fail
    go_returns
    exact ⟨rfl, hB⟩
  · have N0 := Lib.hid (Iv.nest_mul vw a1 a2 e0)
    replace e0 := Lib.hid e0
    have N1 := Lib.hid (Iv.nest_quo vw a1 a2 e1)
    replace e1 := Lib.hid e1
    obtain ⟨m2, hm2⟩ : ∃ m, Hid ((Iv.sub l' h' l h).er = m) := ⟨_, Lib.hid rfl⟩
    rw [hm2.out] at e2
    have k2 : (m2 == 0) = false := by simpa using e2
    have kk2 : (m2 != 0) = true := by simpa using e2
    clear e2
    clear vw a1 a2 a3 a4
    go_enter Try.func7, Try.ntmps7
    have X := Blk.new w 23 #[.int .i64 (l), .int .i64 (h)]
    have hB := ba w (.cells #[.int .i64 (l), .int .i64 (h)] 23)
    have Y := Blk.new1 w (.cells #[.int .i64 (l), .int .i64 (h)] 23) 23 #[.int .i64 (l'), .int .i64 (h')]
    replace X := X.alloc (.cells #[.int .i64 (l'), .int .i64 (h')] 23)
    replace hB := bal hB (.cells #[.int .i64 (l'), .int .i64 (h')] 23)
    have Z := Blk.new2 w (.cells #[.int .i64 (l), .int .i64 (h)] 23) (.cells #[.int .i64 (l'), .int .i64 (h')] 23) 23 #[.int .i64 (p), .int .i64 (q)]
    replace X := X.alloc (.cells #[.int .i64 (p), .int .i64 (q)] 23)
    replace Y := Y.alloc (.cells #[.int .i64 (p), .int .i64 (q)] 23)
    replace hB := bal hB (.cells #[.int .i64 (p), .int .i64 (q)] 23)
    go_wp2_with fail
    refine (awake_ci _).mono ?_
    rintro e w1 ⟨rfl, hb⟩
    replace X := X.keep hb
    replace Y := Y.keep hb
    replace Z := Z.keep hb
    replace hB := bt hB hb
    clear hb
    obtain ⟨c00, c01, c02, c03⟩ := X.open2
    obtain ⟨c10, c11, c12, c13⟩ := Z.open2
    go_wp2_with fail
    refine (meet_ci _ _ _ _ _).mono ?_
    rw [hm.out.1, hm.out.2.1, hm.out.2.2]
    rintro e w2 ⟨rfl, hb⟩
    clear c00 c01 c02 c03 c10 c11 c12 c13
    replace X := X.keep hb
    replace Y := Y.keep hb
    replace Z := Z.keep hb
    replace hB := bt hB hb
    clear hb
    have hz2 := hB.size
    have l2X := X.lt
    have l2Y := Y.lt
    have l2Z := Z.lt
    replace X := X.alloc (.cells #[.int .i64 a, .int .i64 b] 23)
    replace Y := Y.alloc (.cells #[.int .i64 a, .int .i64 b] 23)
    replace Z := Z.alloc (.cells #[.int .i64 a, .int .i64 b] 23)
    replace hB := bal hB (.cells #[.int .i64 a, .int .i64 b] 23)
    have M := Blk.new w2 23 #[.int .i64 a, .int .i64 b]
    obtain ⟨c00, c01, c02, c03⟩ := M.open2
    obtain ⟨c10, c11, c12, c13⟩ := X.open2
    go_wp2_with fail
    refine (within_c _ _ _ _ _).mono ?_
    rw [y1.out]
    rintro e w3 ⟨rfl, hb⟩
    clear c00 c01 c02 c03 c10 c11 c12 c13
    replace X := X.keep hb
    replace Y := Y.keep hb
    replace Z := Z.keep hb
    replace M := M.keep hb
    replace hB := bt hB hb
    clear hb
    obtain ⟨c00, c01, c02, c03⟩ := M.open2
    obtain ⟨c10, c11, c12, c13⟩ := Z.open2
    go_wp2_with fail
    refine (within_c _ _ _ _ _).mono ?_
    rw [y2.out]
    rintro e w4 ⟨rfl, hb⟩
    clear c00 c01 c02 c03 c10 c11 c12 c13
    replace X := X.keep hb
    replace Y := Y.keep hb
    replace Z := Z.keep hb
    replace M := M.keep hb
    replace hB := bt hB hb
    clear hb
    obtain ⟨c00, c01, c02, c03⟩ := M.open2
    obtain ⟨c10, c11, c12, c13⟩ := Y.open2
    go_wp2_with fail
    refine (mul_ci _ _ _ _ _).mono ?_
    rw [N0.out.1]
    rintro e w5 ⟨rfl, hb⟩
    clear c00 c01 c02 c03 c10 c11 c12 c13
    replace X := X.keep hb
    replace Y := Y.keep hb
    replace Z := Z.keep hb
    replace M := M.keep hb
    replace hB := bt hB hb
    clear hb
    have hz5 := hB.size
    have l5X := X.lt
    have l5Y := Y.lt
    have l5Z := Z.lt
    have l5M := M.lt
    replace X := X.alloc (.cells #[.int .i64 (Iv.mul a b l' h').lo, .int .i64 (Iv.mul a b l' h').hi] 23)
    replace Y := Y.alloc (.cells #[.int .i64 (Iv.mul a b l' h').lo, .int .i64 (Iv.mul a b l' h').hi] 23)
    replace Z := Z.alloc (.cells #[.int .i64 (Iv.mul a b l' h').lo, .int .i64 (Iv.mul a b l' h').hi] 23)
    replace M := M.alloc (.cells #[.int .i64 (Iv.mul a b l' h').lo, .int .i64 (Iv.mul a b l' h').hi] 23)
    replace hB := bal hB (.cells #[.int .i64 (Iv.mul a b l' h').lo, .int .i64 (Iv.mul a b l' h').hi] 23)
    have A := Blk.new w5 23 #[.int .i64 (Iv.mul a b l' h').lo, .int .i64 (Iv.mul a b l' h').hi]
    obtain ⟨c00, c01, c02, c03⟩ := X.open2
    obtain ⟨c10, c11, c12, c13⟩ := Y.open2
    obtain ⟨c20, c21, c22, c23⟩ := A.open2
    go_wp2_with fail
    refine (mul_ci _ _ _ _ _).mono ?_
    rw [e0.out]
    rintro e w6 ⟨rfl, hb⟩
    clear c00 c01 c02 c03 c10 c11 c12 c13 c20 c21 c22 c23
    replace X := X.keep hb
    replace Y := Y.keep hb
    replace Z := Z.keep hb
    replace M := M.keep hb
    replace A := A.keep hb
    replace hB := bt hB hb
    clear hb
    have hz6 := hB.size
    have l6X := X.lt
    have l6Y := Y.lt
    have l6Z := Z.lt
    have l6M := M.lt
    have l6A := A.lt
    replace X := X.alloc (.cells #[.int .i64 (Iv.mul l h l' h').lo, .int .i64 (Iv.mul l h l' h').hi] 23)
    replace Y := Y.alloc (.cells #[.int .i64 (Iv.mul l h l' h').lo, .int .i64 (Iv.mul l h l' h').hi] 23)
    replace Z := Z.alloc (.cells #[.int .i64 (Iv.mul l h l' h').lo, .int .i64 (Iv.mul l h l' h').hi] 23)
    replace M := M.alloc (.cells #[.int .i64 (Iv.mul l h l' h').lo, .int .i64 (Iv.mul l h l' h').hi] 23)
    replace A := A.alloc (.cells #[.int .i64 (Iv.mul l h l' h').lo, .int .i64 (Iv.mul l h l' h').hi] 23)
    replace hB := bal hB (.cells #[.int .i64 (Iv.mul l h l' h').lo, .int .i64 (Iv.mul l h l' h').hi] 23)
    have B := Blk.new w6 23 #[.int .i64 (Iv.mul l h l' h').lo, .int .i64 (Iv.mul l h l' h').hi]
    obtain ⟨c00, c01, c02, c03⟩ := A.open2
    obtain ⟨c10, c11, c12, c13⟩ := B.open2
    go_wp2_with fail
    refine (within_c _ _ _ _ _).mono ?_
    rw [N0.out.2]
    rintro e w7 ⟨rfl, hb⟩
    clear c00 c01 c02 c03 c10 c11 c12 c13
    replace X := X.keep hb
    replace Y := Y.keep hb
    replace Z := Z.keep hb
    replace M := M.keep hb
    replace A := A.keep hb
    replace B := B.keep hb
    replace hB := bt hB hb
    clear hb
    obtain ⟨c00, c01, c02, c03⟩ := M.open2
    obtain ⟨c10, c11, c12, c13⟩ := Y.open2
    obtain ⟨c20, c21, c22, c23⟩ := A.open2
    obtain ⟨c30, c31, c32, c33⟩ := B.open2
    go_wp2_with fail
    refine (quo_ci _ _ _ _ _).mono ?_
    rw [N1.out.1]
    rintro e w8 ⟨rfl, hb⟩
    clear c00 c01 c02 c03 c10 c11 c12 c13 c20 c21 c22 c23 c30 c31 c32 c33
    replace X := X.keep hb
    replace Y := Y.keep hb
    replace Z := Z.keep hb
    replace M := M.keep hb
    replace A := A.keep hb
    replace B := B.keep hb
    replace hB := bt hB hb
    clear hb
    obtain ⟨s0, s1, s2, s3⟩ := A.open2
    replace X := ((X.far (p := ⟨w5.heap.size, 0, none⟩) (by first | (simp; done) | (simp; omega) | omega) (.int .i64 (Iv.quo a b l' h').lo)).far (p := ⟨w5.heap.size, 1, none⟩) (by first | (simp; done) | (simp; omega) | omega) (.int .i64 (Iv.quo a b l' h').hi))
    replace Y := ((Y.far (p := ⟨w5.heap.size, 0, none⟩) (by first | (simp; done) | (simp; omega) | omega) (.int .i64 (Iv.quo a b l' h').lo)).far (p := ⟨w5.heap.size, 1, none⟩) (by first | (simp; done) | (simp; omega) | omega) (.int .i64 (Iv.quo a b l' h').hi))
    replace Z := ((Z.far (p := ⟨w5.heap.size, 0, none⟩) (by first | (simp; done) | (simp; omega) | omega) (.int .i64 (Iv.quo a b l' h').lo)).far (p := ⟨w5.heap.size, 1, none⟩) (by first | (simp; done) | (simp; omega) | omega) (.int .i64 (Iv.quo a b l' h').hi))
    replace M := ((M.far (p := ⟨w5.heap.size, 0, none⟩) (by first | (simp; done) | (simp; omega) | omega) (.int .i64 (Iv.quo a b l' h').lo)).far (p := ⟨w5.heap.size, 1, none⟩) (by first | (simp; done) | (simp; omega) | omega) (.int .i64 (Iv.quo a b l' h').hi))
    replace B := ((B.far (p := ⟨w5.heap.size, 0, none⟩) (by first | (simp; done) | (simp; omega) | omega) (.int .i64 (Iv.quo a b l' h').lo)).far (p := ⟨w5.heap.size, 1, none⟩) (by first | (simp; done) | (simp; omega) | omega) (.int .i64 (Iv.quo a b l' h').hi))
    replace hB := (bst (bst hB (p := ⟨w5.heap.size, 0, none⟩) (by first | (simp; done) | (simp; omega) | omega) (.int .i64 (Iv.quo a b l' h').lo)) (p := ⟨w5.heap.size, 1, none⟩) (by first | (simp; done) | (simp; omega) | omega) (.int .i64 (Iv.quo a b l' h').hi))
    replace A := ((A.set_ 0 (.int .i64 (Iv.quo a b l' h').lo)).set_ 1 (.int .i64 (Iv.quo a b l' h').hi))
    simp only [List.setIfInBounds_toArray, List.set_cons_zero, List.set_cons_succ] at A
    obtain ⟨c00, c01, c02, c03⟩ := X.open2
    obtain ⟨c10, c11, c12, c13⟩ := Y.open2
    obtain ⟨c20, c21, c22, c23⟩ := B.open2
    go_wp2_with fail
    refine (quo_ci _ _ _ _ _).mono ?_
    rw [e1.out]
    rintro e w9 ⟨rfl, hb⟩
    clear s0 s1 s2 s3
    clear c00 c01 c02 c03 c10 c11 c12 c13 c20 c21 c22 c23
    replace X := X.keep hb
    replace Y := Y.keep hb
    replace Z := Z.keep hb
    replace M := M.keep hb
    replace A := A.keep hb
    replace B := B.keep hb
    replace hB := bt hB hb
    clear hb
    obtain ⟨s0, s1, s2, s3⟩ := B.open2
    replace X := ((X.far (p := ⟨w6.heap.size, 0, none⟩) (by first | (simp; done) | (simp; omega) | omega) (.int .i64 (Iv.quo l h l' h').lo)).far (p := ⟨w6.heap.size, 1, none⟩) (by first | (simp; done) | (simp; omega) | omega) (.int .i64 (Iv.quo l h l' h').hi))
    replace Y := ((Y.far (p := ⟨w6.heap.size, 0, none⟩) (by first | (simp; done) | (simp; omega) | omega) (.int .i64 (Iv.quo l h l' h').lo)).far (p := ⟨w6.heap.size, 1, none⟩) (by first | (simp; done) | (simp; omega) | omega) (.int .i64 (Iv.quo l h l' h').hi))
    replace Z := ((Z.far (p := ⟨w6.heap.size, 0, none⟩) (by first | (simp; done) | (simp; omega) | omega) (.int .i64 (Iv.quo l h l' h').lo)).far (p := ⟨w6.heap.size, 1, none⟩) (by first | (simp; done) | (simp; omega) | omega) (.int .i64 (Iv.quo l h l' h').hi))
    replace M := ((M.far (p := ⟨w6.heap.size, 0, none⟩) (by first | (simp; done) | (simp; omega) | omega) (.int .i64 (Iv.quo l h l' h').lo)).far (p := ⟨w6.heap.size, 1, none⟩) (by first | (simp; done) | (simp; omega) | omega) (.int .i64 (Iv.quo l h l' h').hi))
    replace A := ((A.far (p := ⟨w6.heap.size, 0, none⟩) (by first | (simp; done) | (simp; omega) | omega) (.int .i64 (Iv.quo l h l' h').lo)).far (p := ⟨w6.heap.size, 1, none⟩) (by first | (simp; done) | (simp; omega) | omega) (.int .i64 (Iv.quo l h l' h').hi))
    replace hB := (bst (bst hB (p := ⟨w6.heap.size, 0, none⟩) (by first | (simp; done) | (simp; omega) | omega) (.int .i64 (Iv.quo l h l' h').lo)) (p := ⟨w6.heap.size, 1, none⟩) (by first | (simp; done) | (simp; omega) | omega) (.int .i64 (Iv.quo l h l' h').hi))
    replace B := ((B.set_ 0 (.int .i64 (Iv.quo l h l' h').lo)).set_ 1 (.int .i64 (Iv.quo l h l' h').hi))
    simp only [List.setIfInBounds_toArray, List.set_cons_zero, List.set_cons_succ] at B
    obtain ⟨c00, c01, c02, c03⟩ := A.open2
    obtain ⟨c10, c11, c12, c13⟩ := B.open2
    go_wp2_with fail
    refine (within_c _ _ _ _ _).mono ?_
    rw [N1.out.2]
    rintro e w10 ⟨rfl, hb⟩
    clear s0 s1 s2 s3
    clear c00 c01 c02 c03 c10 c11 c12 c13
    replace X := X.keep hb
    replace Y := Y.keep hb
    replace Z := Z.keep hb
    replace M := M.keep hb
    replace A := A.keep hb
    replace B := B.keep hb
    replace hB := bt hB hb
    clear hb
    obtain ⟨c00, c01, c02, c03⟩ := Y.open2
    obtain ⟨c10, c11, c12, c13⟩ := M.open2
    obtain ⟨c20, c21, c22, c23⟩ := A.open2
    obtain ⟨c30, c31, c32, c33⟩ := B.open2
    go_wp2_with fail
    refine (sub_ci _ _ _ _ _).mono ?_
    rintro e w11 ⟨rfl, hb⟩
    clear c00 c01 c02 c03 c10 c11 c12 c13 c20 c21 c22 c23 c30 c31 c32 c33
    replace X := X.keep hb
    replace Y := Y.keep hb
    replace Z := Z.keep hb
    replace M := M.keep hb
    replace A := A.keep hb
    replace B := B.keep hb
    replace hB := bt hB hb
    clear hb
    obtain ⟨s0, s1, s2, s3⟩ := A.open2
    replace X := ((X.far (p := ⟨w5.heap.size, 0, none⟩) (by first | (simp; done) | (simp; omega) | omega) (.int .i64 (Iv.sub l' h' a b).lo)).far (p := ⟨w5.heap.size, 1, none⟩) (by first | (simp; done) | (simp; omega) | omega) (.int .i64 (Iv.sub l' h' a b).hi))
    replace Y := ((Y.far (p := ⟨w5.heap.size, 0, none⟩) (by first | (simp; done) | (simp; omega) | omega) (.int .i64 (Iv.sub l' h' a b).lo)).far (p := ⟨w5.heap.size, 1, none⟩) (by first | (simp; done) | (simp; omega) | omega) (.int .i64 (Iv.sub l' h' a b).hi))
    replace Z := ((Z.far (p := ⟨w5.heap.size, 0, none⟩) (by first | (simp; done) | (simp; omega) | omega) (.int .i64 (Iv.sub l' h' a b).lo)).far (p := ⟨w5.heap.size, 1, none⟩) (by first | (simp; done) | (simp; omega) | omega) (.int .i64 (Iv.sub l' h' a b).hi))
    replace M := ((M.far (p := ⟨w5.heap.size, 0, none⟩) (by first | (simp; done) | (simp; omega) | omega) (.int .i64 (Iv.sub l' h' a b).lo)).far (p := ⟨w5.heap.size, 1, none⟩) (by first | (simp; done) | (simp; omega) | omega) (.int .i64 (Iv.sub l' h' a b).hi))
    replace B := ((B.far (p := ⟨w5.heap.size, 0, none⟩) (by first | (simp; done) | (simp; omega) | omega) (.int .i64 (Iv.sub l' h' a b).lo)).far (p := ⟨w5.heap.size, 1, none⟩) (by first | (simp; done) | (simp; omega) | omega) (.int .i64 (Iv.sub l' h' a b).hi))
    replace hB := (bst (bst hB (p := ⟨w5.heap.size, 0, none⟩) (by first | (simp; done) | (simp; omega) | omega) (.int .i64 (Iv.sub l' h' a b).lo)) (p := ⟨w5.heap.size, 1, none⟩) (by first | (simp; done) | (simp; omega) | omega) (.int .i64 (Iv.sub l' h' a b).hi))
    replace A := ((A.set_ 0 (.int .i64 (Iv.sub l' h' a b).lo)).set_ 1 (.int .i64 (Iv.sub l' h' a b).hi))
    simp only [List.setIfInBounds_toArray, List.set_cons_zero, List.set_cons_succ] at A
    obtain ⟨c00, c01, c02, c03⟩ := Y.open2
    obtain ⟨c10, c11, c12, c13⟩ := X.open2
    obtain ⟨c20, c21, c22, c23⟩ := B.open2
    go_wp2_with fail
    refine (sub_ci _ _ _ _ _).mono ?_
    rw [hm2.out]
    rintro e w12 ⟨rfl, hb⟩
    clear s0 s1 s2 s3
    clear c00 c01 c02 c03 c10 c11 c12 c13 c20 c21 c22 c23
    replace X := X.keep hb
    replace Y := Y.keep hb
    replace Z := Z.keep hb
    replace M := M.keep hb
    replace A := A.keep hb
    replace B := B.keep hb
    replace hB := bt hB hb
    clear hb
    obtain ⟨s0, s1, s2, s3⟩ := B.open2
    replace X := ((X.far (p := ⟨w6.heap.size, 0, none⟩) (by first | (simp; done) | (simp; omega) | omega) (.int .i64 (Iv.sub l' h' l h).lo)).far (p := ⟨w6.heap.size, 1, none⟩) (by first | (simp; done) | (simp; omega) | omega) (.int .i64 (Iv.sub l' h' l h).hi))
    replace Y := ((Y.far (p := ⟨w6.heap.size, 0, none⟩) (by first | (simp; done) | (simp; omega) | omega) (.int .i64 (Iv.sub l' h' l h).lo)).far (p := ⟨w6.heap.size, 1, none⟩) (by first | (simp; done) | (simp; omega) | omega) (.int .i64 (Iv.sub l' h' l h).hi))
    replace Z := ((Z.far (p := ⟨w6.heap.size, 0, none⟩) (by first | (simp; done) | (simp; omega) | omega) (.int .i64 (Iv.sub l' h' l h).lo)).far (p := ⟨w6.heap.size, 1, none⟩) (by first | (simp; done) | (simp; omega) | omega) (.int .i64 (Iv.sub l' h' l h).hi))
    replace M := ((M.far (p := ⟨w6.heap.size, 0, none⟩) (by first | (simp; done) | (simp; omega) | omega) (.int .i64 (Iv.sub l' h' l h).lo)).far (p := ⟨w6.heap.size, 1, none⟩) (by first | (simp; done) | (simp; omega) | omega) (.int .i64 (Iv.sub l' h' l h).hi))
    replace A := ((A.far (p := ⟨w6.heap.size, 0, none⟩) (by first | (simp; done) | (simp; omega) | omega) (.int .i64 (Iv.sub l' h' l h).lo)).far (p := ⟨w6.heap.size, 1, none⟩) (by first | (simp; done) | (simp; omega) | omega) (.int .i64 (Iv.sub l' h' l h).hi))
    replace hB := (bst (bst hB (p := ⟨w6.heap.size, 0, none⟩) (by first | (simp; done) | (simp; omega) | omega) (.int .i64 (Iv.sub l' h' l h).lo)) (p := ⟨w6.heap.size, 1, none⟩) (by first | (simp; done) | (simp; omega) | omega) (.int .i64 (Iv.sub l' h' l h).hi))
    replace B := ((B.set_ 0 (.int .i64 (Iv.sub l' h' l h).lo)).set_ 1 (.int .i64 (Iv.sub l' h' l h).hi))
    simp only [List.setIfInBounds_toArray, List.set_cons_zero, List.set_cons_succ] at B
    go_wp2_with fail
    go_returns
    exact ⟨rfl, hB⟩
  · have N0 := Lib.hid (Iv.nest_mul vw a1 a2 e0)
    replace e0 := Lib.hid e0
    obtain ⟨m1, hm1⟩ : ∃ m, Hid ((Iv.quo l h l' h').er = m) := ⟨_, Lib.hid rfl⟩
    rw [hm1.out] at e1
    have k1 : (m1 == 0) = false := by simpa using e1
    have kk1 : (m1 != 0) = true := by simpa using e1
    clear e1
    have N2 := Lib.hid (Iv.nest_sub vw a1 a2 e2)
    replace e2 := Lib.hid e2
    clear vw a1 a2 a3 a4
    go_enter Try.func7, Try.ntmps7
    have X := Blk.new w 23 #[.int .i64 (l), .int .i64 (h)]
    have hB := ba w (.cells #[.int .i64 (l), .int .i64 (h)] 23)
    have Y := Blk.new1 w (.cells #[.int .i64 (l), .int .i64 (h)] 23) 23 #[.int .i64 (l'), .int .i64 (h')]
    replace X := X.alloc (.cells #[.int .i64 (l'), .int .i64 (h')] 23)
    replace hB := bal hB (.cells #[.int .i64 (l'), .int .i64 (h')] 23)
    have Z := Blk.new2 w (.cells #[.int .i64 (l), .int .i64 (h)] 23) (.cells #[.int .i64 (l'), .int .i64 (h')] 23) 23 #[.int .i64 (p), .int .i64 (q)]
    replace X := X.alloc (.cells #[.int .i64 (p), .int .i64 (q)] 23)
    replace Y := Y.alloc (.cells #[.int .i64 (p), .int .i64 (q)] 23)
    replace hB := bal hB (.cells #[.int .i64 (p), .int .i64 (q)] 23)
    go_wp2_with fail
    refine (awake_ci _).mono ?_
    rintro e w1 ⟨rfl, hb⟩
    replace X := X.keep hb
    replace Y := Y.keep hb
    replace Z := Z.keep hb
    replace hB := bt hB hb
    clear hb
    obtain ⟨c00, c01, c02, c03⟩ := X.open2
    obtain ⟨c10, c11, c12, c13⟩ := Z.open2
    go_wp2_with fail
    refine (meet_ci _ _ _ _ _).mono ?_
    rw [hm.out.1, hm.out.2.1, hm.out.2.2]
    rintro e w2 ⟨rfl, hb⟩
    clear c00 c01 c02 c03 c10 c11 c12 c13
    replace X := X.keep hb
    replace Y := Y.keep hb
    replace Z := Z.keep hb
    replace hB := bt hB hb
    clear hb
    have hz2 := hB.size
    have l2X := X.lt
    have l2Y := Y.lt
    have l2Z := Z.lt
    replace X := X.alloc (.cells #[.int .i64 a, .int .i64 b] 23)
    replace Y := Y.alloc (.cells #[.int .i64 a, .int .i64 b] 23)
    replace Z := Z.alloc (.cells #[.int .i64 a, .int .i64 b] 23)
    replace hB := bal hB (.cells #[.int .i64 a, .int .i64 b] 23)
    have M := Blk.new w2 23 #[.int .i64 a, .int .i64 b]
    obtain ⟨c00, c01, c02, c03⟩ := M.open2
    obtain ⟨c10, c11, c12, c13⟩ := X.open2
    go_wp2_with fail
    refine (within_c _ _ _ _ _).mono ?_
    rw [y1.out]
    rintro e w3 ⟨rfl, hb⟩
    clear c00 c01 c02 c03 c10 c11 c12 c13
    replace X := X.keep hb
    replace Y := Y.keep hb
    replace Z := Z.keep hb
    replace M := M.keep hb
    replace hB := bt hB hb
    clear hb
    obtain ⟨c00, c01, c02, c03⟩ := M.open2
    obtain ⟨c10, c11, c12, c13⟩ := Z.open2
    go_wp2_with fail
    refine (within_c _ _ _ _ _).mono ?_
    rw [y2.out]
    rintro e w4 ⟨rfl, hb⟩
    clear c00 c01 c02 c03 c10 c11 c12 c13
    replace X := X.keep hb
    replace Y := Y.keep hb
    replace Z := Z.keep hb
    replace M := M.keep hb
    replace hB := bt hB hb
    clear hb
    obtain ⟨c00, c01, c02, c03⟩ := M.open2
    obtain ⟨c10, c11, c12, c13⟩ := Y.open2
    go_wp2_with fail
    refine (mul_ci _ _ _ _ _).mono ?_
    rw [N0.out.1]
    rintro e w5 ⟨rfl, hb⟩
    clear c00 c01 c02 c03 c10 c11 c12 c13
    replace X := X.keep hb
    replace Y := Y.keep hb
    replace Z := Z.keep hb
    replace M := M.keep hb
    replace hB := bt hB hb
    clear hb
    have hz5 := hB.size
    have l5X := X.lt
    have l5Y := Y.lt
    have l5Z := Z.lt
    have l5M := M.lt
    replace X := X.alloc (.cells #[.int .i64 (Iv.mul a b l' h').lo, .int .i64 (Iv.mul a b l' h').hi] 23)
    replace Y := Y.alloc (.cells #[.int .i64 (Iv.mul a b l' h').lo, .int .i64 (Iv.mul a b l' h').hi] 23)
    replace Z := Z.alloc (.cells #[.int .i64 (Iv.mul a b l' h').lo, .int .i64 (Iv.mul a b l' h').hi] 23)
    replace M := M.alloc (.cells #[.int .i64 (Iv.mul a b l' h').lo, .int .i64 (Iv.mul a b l' h').hi] 23)
    replace hB := bal hB (.cells #[.int .i64 (Iv.mul a b l' h').lo, .int .i64 (Iv.mul a b l' h').hi] 23)
    have A := Blk.new w5 23 #[.int .i64 (Iv.mul a b l' h').lo, .int .i64 (Iv.mul a b l' h').hi]
    obtain ⟨c00, c01, c02, c03⟩ := X.open2
    obtain ⟨c10, c11, c12, c13⟩ := Y.open2
    obtain ⟨c20, c21, c22, c23⟩ := A.open2
    go_wp2_with fail
    refine (mul_ci _ _ _ _ _).mono ?_
    rw [e0.out]
    rintro e w6 ⟨rfl, hb⟩
    clear c00 c01 c02 c03 c10 c11 c12 c13 c20 c21 c22 c23
    replace X := X.keep hb
    replace Y := Y.keep hb
    replace Z := Z.keep hb
    replace M := M.keep hb
    replace A := A.keep hb
    replace hB := bt hB hb
    clear hb
    have hz6 := hB.size
    have l6X := X.lt
    have l6Y := Y.lt
    have l6Z := Z.lt
    have l6M := M.lt
    have l6A := A.lt
    replace X := X.alloc (.cells #[.int .i64 (Iv.mul l h l' h').lo, .int .i64 (Iv.mul l h l' h').hi] 23)
    replace Y := Y.alloc (.cells #[.int .i64 (Iv.mul l h l' h').lo, .int .i64 (Iv.mul l h l' h').hi] 23)
    replace Z := Z.alloc (.cells #[.int .i64 (Iv.mul l h l' h').lo, .int .i64 (Iv.mul l h l' h').hi] 23)
    replace M := M.alloc (.cells #[.int .i64 (Iv.mul l h l' h').lo, .int .i64 (Iv.mul l h l' h').hi] 23)
    replace A := A.alloc (.cells #[.int .i64 (Iv.mul l h l' h').lo, .int .i64 (Iv.mul l h l' h').hi] 23)
    replace hB := bal hB (.cells #[.int .i64 (Iv.mul l h l' h').lo, .int .i64 (Iv.mul l h l' h').hi] 23)
    have B := Blk.new w6 23 #[.int .i64 (Iv.mul l h l' h').lo, .int .i64 (Iv.mul l h l' h').hi]
    obtain ⟨c00, c01, c02, c03⟩ := A.open2
    obtain ⟨c10, c11, c12, c13⟩ := B.open2
    go_wp2_with fail
    refine (within_c _ _ _ _ _).mono ?_
    rw [N0.out.2]
    rintro e w7 ⟨rfl, hb⟩
    clear c00 c01 c02 c03 c10 c11 c12 c13
    replace X := X.keep hb
    replace Y := Y.keep hb
    replace Z := Z.keep hb
    replace M := M.keep hb
    replace A := A.keep hb
    replace B := B.keep hb
    replace hB := bt hB hb
    clear hb
    obtain ⟨c00, c01, c02, c03⟩ := M.open2
    obtain ⟨c10, c11, c12, c13⟩ := Y.open2
    obtain ⟨c20, c21, c22, c23⟩ := A.open2
    obtain ⟨c30, c31, c32, c33⟩ := B.open2
    go_wp2_with fail
    refine (quo_ci _ _ _ _ _).mono ?_
    rintro e w8 ⟨rfl, hb⟩
    clear c00 c01 c02 c03 c10 c11 c12 c13 c20 c21 c22 c23 c30 c31 c32 c33
    replace X := X.keep hb
    replace Y := Y.keep hb
    replace Z := Z.keep hb
    replace M := M.keep hb
    replace A := A.keep hb
    replace B := B.keep hb
    replace hB := bt hB hb
    clear hb
    obtain ⟨s0, s1, s2, s3⟩ := A.open2
    replace X := ((X.far (p := ⟨w5.heap.size, 0, none⟩) (by first | (simp; done) | (simp; omega) | omega) (.int .i64 (Iv.quo a b l' h').lo)).far (p := ⟨w5.heap.size, 1, none⟩) (by first | (simp; done) | (simp; omega) | omega) (.int .i64 (Iv.quo a b l' h').hi))
    replace Y := ((Y.far (p := ⟨w5.heap.size, 0, none⟩) (by first | (simp; done) | (simp; omega) | omega) (.int .i64 (Iv.quo a b l' h').lo)).far (p := ⟨w5.heap.size, 1, none⟩) (by first | (simp; done) | (simp; omega) | omega) (.int .i64 (Iv.quo a b l' h').hi))
    replace Z := ((Z.far (p := ⟨w5.heap.size, 0, none⟩) (by first | (simp; done) | (simp; omega) | omega) (.int .i64 (Iv.quo a b l' h').lo)).far (p := ⟨w5.heap.size, 1, none⟩) (by first | (simp; done) | (simp; omega) | omega) (.int .i64 (Iv.quo a b l' h').hi))
    replace M := ((M.far (p := ⟨w5.heap.size, 0, none⟩) (by first | (simp; done) | (simp; omega) | omega) (.int .i64 (Iv.quo a b l' h').lo)).far (p := ⟨w5.heap.size, 1, none⟩) (by first | (simp; done) | (simp; omega) | omega) (.int .i64 (Iv.quo a b l' h').hi))
    replace B := ((B.far (p := ⟨w5.heap.size, 0, none⟩) (by first | (simp; done) | (simp; omega) | omega) (.int .i64 (Iv.quo a b l' h').lo)).far (p := ⟨w5.heap.size, 1, none⟩) (by first | (simp; done) | (simp; omega) | omega) (.int .i64 (Iv.quo a b l' h').hi))
    replace hB := (bst (bst hB (p := ⟨w5.heap.size, 0, none⟩) (by first | (simp; done) | (simp; omega) | omega) (.int .i64 (Iv.quo a b l' h').lo)) (p := ⟨w5.heap.size, 1, none⟩) (by first | (simp; done) | (simp; omega) | omega) (.int .i64 (Iv.quo a b l' h').hi))
    replace A := ((A.set_ 0 (.int .i64 (Iv.quo a b l' h').lo)).set_ 1 (.int .i64 (Iv.quo a b l' h').hi))
    simp only [List.setIfInBounds_toArray, List.set_cons_zero, List.set_cons_succ] at A
    obtain ⟨c00, c01, c02, c03⟩ := X.open2
    obtain ⟨c10, c11, c12, c13⟩ := Y.open2
    obtain ⟨c20, c21, c22, c23⟩ := B.open2
    go_wp2_with fail
    refine (quo_ci _ _ _ _ _).mono ?_
    rw [hm1.out]
    rintro e w9 ⟨rfl, hb⟩
    clear s0 s1 s2 s3
    clear c00 c01 c02 c03 c10 c11 c12 c13 c20 c21 c22 c23
    replace X := X.keep hb
    replace Y := Y.keep hb
    replace Z := Z.keep hb
    replace M := M.keep hb
    replace A := A.keep hb
    replace B := B.keep hb
    replace hB := bt hB hb
    clear hb
    obtain ⟨s0, s1, s2, s3⟩ := B.open2
    replace X := ((X.far (p := ⟨w6.heap.size, 0, none⟩) (by first | (simp; done) | (simp; omega) | omega) (.int .i64 (Iv.quo l h l' h').lo)).far (p := ⟨w6.heap.size, 1, none⟩) (by first | (simp; done) | (simp; omega) | omega) (.int .i64 (Iv.quo l h l' h').hi))
    replace Y := ((Y.far (p := ⟨w6.heap.size, 0, none⟩) (by first | (simp; done) | (simp; omega) | omega) (.int .i64 (Iv.quo l h l' h').lo)).far (p := ⟨w6.heap.size, 1, none⟩) (by first | (simp; done) | (simp; omega) | omega) (.int .i64 (Iv.quo l h l' h').hi))
    replace Z := ((Z.far (p := ⟨w6.heap.size, 0, none⟩) (by first | (simp; done) | (simp; omega) | omega) (.int .i64 (Iv.quo l h l' h').lo)).far (p := ⟨w6.heap.size, 1, none⟩) (by first | (simp; done) | (simp; omega) | omega) (.int .i64 (Iv.quo l h l' h').hi))
    replace M := ((M.far (p := ⟨w6.heap.size, 0, none⟩) (by first | (simp; done) | (simp; omega) | omega) (.int .i64 (Iv.quo l h l' h').lo)).far (p := ⟨w6.heap.size, 1, none⟩) (by first | (simp; done) | (simp; omega) | omega) (.int .i64 (Iv.quo l h l' h').hi))
    replace A := ((A.far (p := ⟨w6.heap.size, 0, none⟩) (by first | (simp; done) | (simp; omega) | omega) (.int .i64 (Iv.quo l h l' h').lo)).far (p := ⟨w6.heap.size, 1, none⟩) (by first | (simp; done) | (simp; omega) | omega) (.int .i64 (Iv.quo l h l' h').hi))
    replace hB := (bst (bst hB (p := ⟨w6.heap.size, 0, none⟩) (by first | (simp; done) | (simp; omega) | omega) (.int .i64 (Iv.quo l h l' h').lo)) (p := ⟨w6.heap.size, 1, none⟩) (by first | (simp; done) | (simp; omega) | omega) (.int .i64 (Iv.quo l h l' h').hi))
    replace B := ((B.set_ 0 (.int .i64 (Iv.quo l h l' h').lo)).set_ 1 (.int .i64 (Iv.quo l h l' h').hi))
    simp only [List.setIfInBounds_toArray, List.set_cons_zero, List.set_cons_succ] at B
    obtain ⟨c00, c01, c02, c03⟩ := Y.open2
    obtain ⟨c10, c11, c12, c13⟩ := M.open2
    obtain ⟨c20, c21, c22, c23⟩ := A.open2
    obtain ⟨c30, c31, c32, c33⟩ := B.open2
    go_wp2_with fail
    refine (sub_ci _ _ _ _ _).mono ?_
    rw [N2.out.1]
    rintro e w10 ⟨rfl, hb⟩
    clear s0 s1 s2 s3
    clear c00 c01 c02 c03 c10 c11 c12 c13 c20 c21 c22 c23 c30 c31 c32 c33
    replace X := X.keep hb
    replace Y := Y.keep hb
    replace Z := Z.keep hb
    replace M := M.keep hb
    replace A := A.keep hb
    replace B := B.keep hb
    replace hB := bt hB hb
    clear hb
    obtain ⟨s0, s1, s2, s3⟩ := A.open2
    replace X := ((X.far (p := ⟨w5.heap.size, 0, none⟩) (by first | (simp; done) | (simp; omega) | omega) (.int .i64 (Iv.sub l' h' a b).lo)).far (p := ⟨w5.heap.size, 1, none⟩) (by first | (simp; done) | (simp; omega) | omega) (.int .i64 (Iv.sub l' h' a b).hi))
    replace Y := ((Y.far (p := ⟨w5.heap.size, 0, none⟩) (by first | (simp; done) | (simp; omega) | omega) (.int .i64 (Iv.sub l' h' a b).lo)).far (p := ⟨w5.heap.size, 1, none⟩) (by first | (simp; done) | (simp; omega) | omega) (.int .i64 (Iv.sub l' h' a b).hi))
    replace Z := ((Z.far (p := ⟨w5.heap.size, 0, none⟩) (by first | (simp; done) | (simp; omega) | omega) (.int .i64 (Iv.sub l' h' a b).lo)).far (p := ⟨w5.heap.size, 1, none⟩) (by first | (simp; done) | (simp; omega) | omega) (.int .i64 (Iv.sub l' h' a b).hi))
    replace M := ((M.far (p := ⟨w5.heap.size, 0, none⟩) (by first | (simp; done) | (simp; omega) | omega) (.int .i64 (Iv.sub l' h' a b).lo)).far (p := ⟨w5.heap.size, 1, none⟩) (by first | (simp; done) | (simp; omega) | omega) (.int .i64 (Iv.sub l' h' a b).hi))
    replace B := ((B.far (p := ⟨w5.heap.size, 0, none⟩) (by first | (simp; done) | (simp; omega) | omega) (.int .i64 (Iv.sub l' h' a b).lo)).far (p := ⟨w5.heap.size, 1, none⟩) (by first | (simp; done) | (simp; omega) | omega) (.int .i64 (Iv.sub l' h' a b).hi))
    replace hB := (bst (bst hB (p := ⟨w5.heap.size, 0, none⟩) (by first | (simp; done) | (simp; omega) | omega) (.int .i64 (Iv.sub l' h' a b).lo)) (p := ⟨w5.heap.size, 1, none⟩) (by first | (simp; done) | (simp; omega) | omega) (.int .i64 (Iv.sub l' h' a b).hi))
    replace A := ((A.set_ 0 (.int .i64 (Iv.sub l' h' a b).lo)).set_ 1 (.int .i64 (Iv.sub l' h' a b).hi))
    simp only [List.setIfInBounds_toArray, List.set_cons_zero, List.set_cons_succ] at A
    obtain ⟨c00, c01, c02, c03⟩ := Y.open2
    obtain ⟨c10, c11, c12, c13⟩ := X.open2
    obtain ⟨c20, c21, c22, c23⟩ := B.open2
    go_wp2_with fail
    refine (sub_ci _ _ _ _ _).mono ?_
    rw [e2.out]
    rintro e w11 ⟨rfl, hb⟩
    clear s0 s1 s2 s3
    clear c00 c01 c02 c03 c10 c11 c12 c13 c20 c21 c22 c23
    replace X := X.keep hb
    replace Y := Y.keep hb
    replace Z := Z.keep hb
    replace M := M.keep hb
    replace A := A.keep hb
    replace B := B.keep hb
    replace hB := bt hB hb
    clear hb
    obtain ⟨s0, s1, s2, s3⟩ := B.open2
    replace X := ((X.far (p := ⟨w6.heap.size, 0, none⟩) (by first | (simp; done) | (simp; omega) | omega) (.int .i64 (Iv.sub l' h' l h).lo)).far (p := ⟨w6.heap.size, 1, none⟩) (by first | (simp; done) | (simp; omega) | omega) (.int .i64 (Iv.sub l' h' l h).hi))
    replace Y := ((Y.far (p := ⟨w6.heap.size, 0, none⟩) (by first | (simp; done) | (simp; omega) | omega) (.int .i64 (Iv.sub l' h' l h).lo)).far (p := ⟨w6.heap.size, 1, none⟩) (by first | (simp; done) | (simp; omega) | omega) (.int .i64 (Iv.sub l' h' l h).hi))
    replace Z := ((Z.far (p := ⟨w6.heap.size, 0, none⟩) (by first | (simp; done) | (simp; omega) | omega) (.int .i64 (Iv.sub l' h' l h).lo)).far (p := ⟨w6.heap.size, 1, none⟩) (by first | (simp; done) | (simp; omega) | omega) (.int .i64 (Iv.sub l' h' l h).hi))
    replace M := ((M.far (p := ⟨w6.heap.size, 0, none⟩) (by first | (simp; done) | (simp; omega) | omega) (.int .i64 (Iv.sub l' h' l h).lo)).far (p := ⟨w6.heap.size, 1, none⟩) (by first | (simp; done) | (simp; omega) | omega) (.int .i64 (Iv.sub l' h' l h).hi))
    replace A := ((A.far (p := ⟨w6.heap.size, 0, none⟩) (by first | (simp; done) | (simp; omega) | omega) (.int .i64 (Iv.sub l' h' l h).lo)).far (p := ⟨w6.heap.size, 1, none⟩) (by first | (simp; done) | (simp; omega) | omega) (.int .i64 (Iv.sub l' h' l h).hi))
    replace hB := (bst (bst hB (p := ⟨w6.heap.size, 0, none⟩) (by first | (simp; done) | (simp; omega) | omega) (.int .i64 (Iv.sub l' h' l h).lo)) (p := ⟨w6.heap.size, 1, none⟩) (by first | (simp; done) | (simp; omega) | omega) (.int .i64 (Iv.sub l' h' l h).hi))
    replace B := ((B.set_ 0 (.int .i64 (Iv.sub l' h' l h).lo)).set_ 1 (.int .i64 (Iv.sub l' h' l h).hi))
    simp only [List.setIfInBounds_toArray, List.set_cons_zero, List.set_cons_succ] at B
    obtain ⟨c00, c01, c02, c03⟩ := A.open2
    obtain ⟨c10, c11, c12, c13⟩ := B.open2
    go_wp2_with fail
    refine (within_c _ _ _ _ _).mono ?_
    rw [N2.out.2]
    rintro e w12 ⟨rfl, hb⟩
    clear s0 s1 s2 s3
    clear c00 c01 c02 c03 c10 c11 c12 c13
    replace X := X.keep hb
    replace Y := Y.keep hb
    replace Z := Z.keep hb
    replace M := M.keep hb
    replace A := A.keep hb
    replace B := B.keep hb
    replace hB := bt hB hb
    clear hb
    go_wp2_with fail
    go_returns
    exact ⟨rfl, hB⟩
  · have N0 := Lib.hid (Iv.nest_mul vw a1 a2 e0)
    replace e0 := Lib.hid e0
    obtain ⟨m1, hm1⟩ : ∃ m, Hid ((Iv.quo l h l' h').er = m) := ⟨_, Lib.hid rfl⟩
    rw [hm1.out] at e1
    have k1 : (m1 == 0) = false := by simpa using e1
    have kk1 : (m1 != 0) = true := by simpa using e1
    clear e1
    obtain ⟨m2, hm2⟩ : ∃ m, Hid ((Iv.sub l' h' l h).er = m) := ⟨_, Lib.hid rfl⟩
    rw [hm2.out] at e2
    have k2 : (m2 == 0) = false := by simpa using e2
    have kk2 : (m2 != 0) = true := by simpa using e2
    clear e2
    clear vw a1 a2 a3 a4
    go_enter Try.func7, Try.ntmps7
    have X := Blk.new w 23 #[.int .i64 (l), .int .i64 (h)]
    have hB := ba w (.cells #[.int .i64 (l), .int .i64 (h)] 23)
    have Y := Blk.new1 w (.cells #[.int .i64 (l), .int .i64 (h)] 23) 23 #[.int .i64 (l'), .int .i64 (h')]
    replace X := X.alloc (.cells #[.int .i64 (l'), .int .i64 (h')] 23)
    replace hB := bal hB (.cells #[.int .i64 (l'), .int .i64 (h')] 23)
    have Z := Blk.new2 w (.cells #[.int .i64 (l), .int .i64 (h)] 23) (.cells #[.int .i64 (l'), .int .i64 (h')] 23) 23 #[.int .i64 (p), .int .i64 (q)]
    replace X := X.alloc (.cells #[.int .i64 (p), .int .i64 (q)] 23)
    replace Y := Y.alloc (.cells #[.int .i64 (p), .int .i64 (q)] 23)
    replace hB := bal hB (.cells #[.int .i64 (p), .int .i64 (q)] 23)
    go_wp2_with fail
    refine (awake_ci _).mono ?_
    rintro e w1 ⟨rfl, hb⟩
    replace X := X.keep hb
    replace Y := Y.keep hb
    replace Z := Z.keep hb
    replace hB := bt hB hb
    clear hb
    obtain ⟨c00, c01, c02, c03⟩ := X.open2
    obtain ⟨c10, c11, c12, c13⟩ := Z.open2
    go_wp2_with fail
    refine (meet_ci _ _ _ _ _).mono ?_
    rw [hm.out.1, hm.out.2.1, hm.out.2.2]
    rintro e w2 ⟨rfl, hb⟩
    clear c00 c01 c02 c03 c10 c11 c12 c13
    replace X := X.keep hb
    replace Y := Y.keep hb
    replace Z := Z.keep hb
    replace hB := bt hB hb
    clear hb
    have hz2 := hB.size
    have l2X := X.lt
    have l2Y := Y.lt
    have l2Z := Z.lt
    replace X := X.alloc (.cells #[.int .i64 a, .int .i64 b] 23)
    replace Y := Y.alloc (.cells #[.int .i64 a, .int .i64 b] 23)
    replace Z := Z.alloc (.cells #[.int .i64 a, .int .i64 b] 23)
    replace hB := bal hB (.cells #[.int .i64 a, .int .i64 b] 23)
    have M := Blk.new w2 23 #[.int .i64 a, .int .i64 b]
    obtain ⟨c00, c01, c02, c03⟩ := M.open2
    obtain ⟨c10, c11, c12, c13⟩ := X.open2
    go_wp2_with fail
    refine (within_c _ _ _ _ _).mono ?_
    rw [y1.out]
    rintro e w3 ⟨rfl, hb⟩
    clear c00 c01 c02 c03 c10 c11 c12 c13
    replace X := X.keep hb
    replace Y := Y.keep hb
    replace Z := Z.keep hb
    replace M := M.keep hb
    replace hB := bt hB hb
    clear hb
    obtain ⟨c00, c01, c02, c03⟩ := M.open2
    obtain ⟨c10, c11, c12, c13⟩ := Z.open2
    go_wp2_with fail
    refine (within_c _ _ _ _ _).mono ?_
    rw [y2.out]
    rintro e w4 ⟨rfl, hb⟩
    clear c00 c01 c02 c03 c10 c11 c12 c13
    replace X := X.keep hb
    replace Y := Y.keep hb
    replace Z := Z.keep hb
    replace M := M.keep hb
    replace hB := bt hB hb
    clear hb
    obtain ⟨c00, c01, c02, c03⟩ := M.open2
    obtain ⟨c10, c11, c12, c13⟩ := Y.open2
    go_wp2_with fail
    refine (mul_ci _ _ _ _ _).mono ?_
    rw [N0.out.1]
    rintro e w5 ⟨rfl, hb⟩
    clear c00 c01 c02 c03 c10 c11 c12 c13
    replace X := X.keep hb
    replace Y := Y.keep hb
    replace Z := Z.keep hb
    replace M := M.keep hb
    replace hB := bt hB hb
    clear hb
    have hz5 := hB.size
    have l5X := X.lt
    have l5Y := Y.lt
    have l5Z := Z.lt
    have l5M := M.lt
    replace X := X.alloc (.cells #[.int .i64 (Iv.mul a b l' h').lo, .int .i64 (Iv.mul a b l' h').hi] 23)
    replace Y := Y.alloc (.cells #[.int .i64 (Iv.mul a b l' h').lo, .int .i64 (Iv.mul a b l' h').hi] 23)
    replace Z := Z.alloc (.cells #[.int .i64 (Iv.mul a b l' h').lo, .int .i64 (Iv.mul a b l' h').hi] 23)
    replace M := M.alloc (.cells #[.int .i64 (Iv.mul a b l' h').lo, .int .i64 (Iv.mul a b l' h').hi] 23)
    replace hB := bal hB (.cells #[.int .i64 (Iv.mul a b l' h').lo, .int .i64 (Iv.mul a b l' h').hi] 23)
    have A := Blk.new w5 23 #[.int .i64 (Iv.mul a b l' h').lo, .int .i64 (Iv.mul a b l' h').hi]
    obtain ⟨c00, c01, c02, c03⟩ := X.open2
    obtain ⟨c10, c11, c12, c13⟩ := Y.open2
    obtain ⟨c20, c21, c22, c23⟩ := A.open2
    go_wp2_with fail
    refine (mul_ci _ _ _ _ _).mono ?_
    rw [e0.out]
    rintro e w6 ⟨rfl, hb⟩
    clear c00 c01 c02 c03 c10 c11 c12 c13 c20 c21 c22 c23
    replace X := X.keep hb
    replace Y := Y.keep hb
    replace Z := Z.keep hb
    replace M := M.keep hb
    replace A := A.keep hb
    replace hB := bt hB hb
    clear hb
    have hz6 := hB.size
    have l6X := X.lt
    have l6Y := Y.lt
    have l6Z := Z.lt
    have l6M := M.lt
    have l6A := A.lt
    replace X := X.alloc (.cells #[.int .i64 (Iv.mul l h l' h').lo, .int .i64 (Iv.mul l h l' h').hi] 23)
    replace Y := Y.alloc (.cells #[.int .i64 (Iv.mul l h l' h').lo, .int .i64 (Iv.mul l h l' h').hi] 23)
    replace Z := Z.alloc (.cells #[.int .i64 (Iv.mul l h l' h').lo, .int .i64 (Iv.mul l h l' h').hi] 23)
    replace M := M.alloc (.cells #[.int .i64 (Iv.mul l h l' h').lo, .int .i64 (Iv.mul l h l' h').hi] 23)
    replace A := A.alloc (.cells #[.int .i64 (Iv.mul l h l' h').lo, .int .i64 (Iv.mul l h l' h').hi] 23)
    replace hB := bal hB (.cells #[.int .i64 (Iv.mul l h l' h').lo, .int .i64 (Iv.mul l h l' h').hi] 23)
    have B := Blk.new w6 23 #[.int .i64 (Iv.mul l h l' h').lo, .int .i64 (Iv.mul l h l' h').hi]
    obtain ⟨c00, c01, c02, c03⟩ := A.open2
    obtain ⟨c10, c11, c12, c13⟩ := B.open2
    go_wp2_with fail
    refine (within_c _ _ _ _ _).mono ?_
    rw [N0.out.2]
    rintro e w7 ⟨rfl, hb⟩
    clear c00 c01 c02 c03 c10 c11 c12 c13
    replace X := X.keep hb
    replace Y := Y.keep hb
    replace Z := Z.keep hb
    replace M := M.keep hb
    replace A := A.keep hb
    replace B := B.keep hb
    replace hB := bt hB hb
    clear hb
    obtain ⟨c00, c01, c02, c03⟩ := M.open2
    obtain ⟨c10, c11, c12, c13⟩ := Y.open2
    obtain ⟨c20, c21, c22, c23⟩ := A.open2
    obtain ⟨c30, c31, c32, c33⟩ := B.open2
    go_wp2_with fail
    refine (quo_ci _ _ _ _ _).mono ?_
    rintro e w8 ⟨rfl, hb⟩
    clear c00 c01 c02 c03 c10 c11 c12 c13 c20 c21 c22 c23 c30 c31 c32 c33
    replace X := X.keep hb
    replace Y := Y.keep hb
    replace Z := Z.keep hb
    replace M := M.keep hb
    replace A := A.keep hb
    replace B := B.keep hb
    replace hB := bt hB hb
    clear hb
    obtain ⟨s0, s1, s2, s3⟩ := A.open2
    replace X := ((X.far (p := ⟨w5.heap.size, 0, none⟩) (by first | (simp; done) | (simp; omega) | omega) (.int .i64 (Iv.quo a b l' h').lo)).far (p := ⟨w5.heap.size, 1, none⟩) (by first | (simp; done) | (simp; omega) | omega) (.int .i64 (Iv.quo a b l' h').hi))
    replace Y := ((Y.far (p := ⟨w5.heap.size, 0, none⟩) (by first | (simp; done) | (simp; omega) | omega) (.int .i64 (Iv.quo a b l' h').lo)).far (p := ⟨w5.heap.size, 1, none⟩) (by first | (simp; done) | (simp; omega) | omega) (.int .i64 (Iv.quo a b l' h').hi))
    replace Z := ((Z.far (p := ⟨w5.heap.size, 0, none⟩) (by first | (simp; done) | (simp; omega) | omega) (.int .i64 (Iv.quo a b l' h').lo)).far (p := ⟨w5.heap.size, 1, none⟩) (by first | (simp; done) | (simp; omega) | omega) (.int .i64 (Iv.quo a b l' h').hi))
    replace M := ((M.far (p := ⟨w5.heap.size, 0, none⟩) (by first | (simp; done) | (simp; omega) | omega) (.int .i64 (Iv.quo a b l' h').lo)).far (p := ⟨w5.heap.size, 1, none⟩) (by first | (simp; done) | (simp; omega) | omega) (.int .i64 (Iv.quo a b l' h').hi))
    replace B := ((B.far (p := ⟨w5.heap.size, 0, none⟩) (by first | (simp; done) | (simp; omega) | omega) (.int .i64 (Iv.quo a b l' h').lo)).far (p := ⟨w5.heap.size, 1, none⟩) (by first | (simp; done) | (simp; omega) | omega) (.int .i64 (Iv.quo a b l' h').hi))
    replace hB := (bst (bst hB (p := ⟨w5.heap.size, 0, none⟩) (by first | (simp; done) | (simp; omega) | omega) (.int .i64 (Iv.quo a b l' h').lo)) (p := ⟨w5.heap.size, 1, none⟩) (by first | (simp; done) | (simp; omega) | omega) (.int .i64 (Iv.quo a b l' h').hi))
    replace A := ((A.set_ 0 (.int .i64 (Iv.quo a b l' h').lo)).set_ 1 (.int .i64 (Iv.quo a b l' h').hi))
    simp only [List.setIfInBounds_toArray, List.set_cons_zero, List.set_cons_succ] at A
    obtain ⟨c00, c01, c02, c03⟩ := X.open2
    obtain ⟨c10, c11, c12, c13⟩ := Y.open2
    obtain ⟨c20, c21, c22, c23⟩ := B.open2
    go_wp2_with fail
    refine (quo_ci _ _ _ _ _).mono ?_
    rw [hm1.out]
    rintro e w9 ⟨rfl, hb⟩
    clear s0 s1 s2 s3
    clear c00 c01 c02 c03 c10 c11 c12 c13 c20 c21 c22 c23
    replace X := X.keep hb
    replace Y := Y.keep hb
    replace Z := Z.keep hb
    replace M := M.keep hb
    replace A := A.keep hb
    replace B := B.keep hb
    replace hB := bt hB hb
    clear hb
    obtain ⟨s0, s1, s2, s3⟩ := B.open2
    replace X := ((X.far (p := ⟨w6.heap.size, 0, none⟩) (by first | (simp; done) | (simp; omega) | omega) (.int .i64 (Iv.quo l h l' h').lo)).far (p := ⟨w6.heap.size, 1, none⟩) (by first | (simp; done) | (simp; omega) | omega) (.int .i64 (Iv.quo l h l' h').hi))
    replace Y := ((Y.far (p := ⟨w6.heap.size, 0, none⟩) (by first | (simp; done) | (simp; omega) | omega) (.int .i64 (Iv.quo l h l' h').lo)).far (p := ⟨w6.heap.size, 1, none⟩) (by first | (simp; done) | (simp; omega) | omega) (.int .i64 (Iv.quo l h l' h').hi))
    replace Z := ((Z.far (p := ⟨w6.heap.size, 0, none⟩) (by first | (simp; done) | (simp; omega) | omega) (.int .i64 (Iv.quo l h l' h').lo)).far (p := ⟨w6.heap.size, 1, none⟩) (by first | (simp; done) | (simp; omega) | omega) (.int .i64 (Iv.quo l h l' h').hi))
    replace M := ((M.far (p := ⟨w6.heap.size, 0, none⟩) (by first | (simp; done) | (simp; omega) | omega) (.int .i64 (Iv.quo l h l' h').lo)).far (p := ⟨w6.heap.size, 1, none⟩) (by first | (simp; done) | (simp; omega) | omega) (.int .i64 (Iv.quo l h l' h').hi))
    replace A := ((A.far (p := ⟨w6.heap.size, 0, none⟩) (by first | (simp; done) | (simp; omega) | omega) (.int .i64 (Iv.quo l h l' h').lo)).far (p := ⟨w6.heap.size, 1, none⟩) (by first | (simp; done) | (simp; omega) | omega) (.int .i64 (Iv.quo l h l' h').hi))
    replace hB := (bst (bst hB (p := ⟨w6.heap.size, 0, none⟩) (by first | (simp; done) | (simp; omega) | omega) (.int .i64 (Iv.quo l h l' h').lo)) (p := ⟨w6.heap.size, 1, none⟩) (by first | (simp; done) | (simp; omega) | omega) (.int .i64 (Iv.quo l h l' h').hi))
    replace B := ((B.set_ 0 (.int .i64 (Iv.quo l h l' h').lo)).set_ 1 (.int .i64 (Iv.quo l h l' h').hi))
    simp only [List.setIfInBounds_toArray, List.set_cons_zero, List.set_cons_succ] at B
    obtain ⟨c00, c01, c02, c03⟩ := Y.open2
    obtain ⟨c10, c11, c12, c13⟩ := M.open2
    obtain ⟨c20, c21, c22, c23⟩ := A.open2
    obtain ⟨c30, c31, c32, c33⟩ := B.open2
    go_wp2_with fail
    refine (sub_ci _ _ _ _ _).mono ?_
    rintro e w10 ⟨rfl, hb⟩
    clear s0 s1 s2 s3
    clear c00 c01 c02 c03 c10 c11 c12 c13 c20 c21 c22 c23 c30 c31 c32 c33
    replace X := X.keep hb
    replace Y := Y.keep hb
    replace Z := Z.keep hb
    replace M := M.keep hb
    replace A := A.keep hb
    replace B := B.keep hb
    replace hB := bt hB hb
    clear hb
    obtain ⟨s0, s1, s2, s3⟩ := A.open2
    replace X := ((X.far (p := ⟨w5.heap.size, 0, none⟩) (by first | (simp; done) | (simp; omega) | omega) (.int .i64 (Iv.sub l' h' a b).lo)).far (p := ⟨w5.heap.size, 1, none⟩) (by first | (simp; done) | (simp; omega) | omega) (.int .i64 (Iv.sub l' h' a b).hi))
    replace Y := ((Y.far (p := ⟨w5.heap.size, 0, none⟩) (by first | (simp; done) | (simp; omega) | omega) (.int .i64 (Iv.sub l' h' a b).lo)).far (p := ⟨w5.heap.size, 1, none⟩) (by first | (simp; done) | (simp; omega) | omega) (.int .i64 (Iv.sub l' h' a b).hi))
    replace Z := ((Z.far (p := ⟨w5.heap.size, 0, none⟩) (by first | (simp; done) | (simp; omega) | omega) (.int .i64 (Iv.sub l' h' a b).lo)).far (p := ⟨w5.heap.size, 1, none⟩) (by first | (simp; done) | (simp; omega) | omega) (.int .i64 (Iv.sub l' h' a b).hi))
    replace M := ((M.far (p := ⟨w5.heap.size, 0, none⟩) (by first | (simp; done) | (simp; omega) | omega) (.int .i64 (Iv.sub l' h' a b).lo)).far (p := ⟨w5.heap.size, 1, none⟩) (by first | (simp; done) | (simp; omega) | omega) (.int .i64 (Iv.sub l' h' a b).hi))
    replace B := ((B.far (p := ⟨w5.heap.size, 0, none⟩) (by first | (simp; done) | (simp; omega) | omega) (.int .i64 (Iv.sub l' h' a b).lo)).far (p := ⟨w5.heap.size, 1, none⟩) (by first | (simp; done) | (simp; omega) | omega) (.int .i64 (Iv.sub l' h' a b).hi))
    replace hB := (bst (bst hB (p := ⟨w5.heap.size, 0, none⟩) (by first | (simp; done) | (simp; omega) | omega) (.int .i64 (Iv.sub l' h' a b).lo)) (p := ⟨w5.heap.size, 1, none⟩) (by first | (simp; done) | (simp; omega) | omega) (.int .i64 (Iv.sub l' h' a b).hi))
    replace A := ((A.set_ 0 (.int .i64 (Iv.sub l' h' a b).lo)).set_ 1 (.int .i64 (Iv.sub l' h' a b).hi))
    simp only [List.setIfInBounds_toArray, List.set_cons_zero, List.set_cons_succ] at A
    obtain ⟨c00, c01, c02, c03⟩ := Y.open2
    obtain ⟨c10, c11, c12, c13⟩ := X.open2
    obtain ⟨c20, c21, c22, c23⟩ := B.open2
    go_wp2_with fail
    refine (sub_ci _ _ _ _ _).mono ?_
    rw [hm2.out]
    rintro e w11 ⟨rfl, hb⟩
    clear s0 s1 s2 s3
    clear c00 c01 c02 c03 c10 c11 c12 c13 c20 c21 c22 c23
    replace X := X.keep hb
    replace Y := Y.keep hb
    replace Z := Z.keep hb
    replace M := M.keep hb
    replace A := A.keep hb
    replace B := B.keep hb
    replace hB := bt hB hb
    clear hb
    obtain ⟨s0, s1, s2, s3⟩ := B.open2
    replace X := ((X.far (p := ⟨w6.heap.size, 0, none⟩) (by first | (simp; done) | (simp; omega) | omega) (.int .i64 (Iv.sub l' h' l h).lo)).far (p := ⟨w6.heap.size, 1, none⟩) (by first | (simp; done) | (simp; omega) | omega) (.int .i64 (Iv.sub l' h' l h).hi))
    replace Y := ((Y.far (p := ⟨w6.heap.size, 0, none⟩) (by first | (simp; done) | (simp; omega) | omega) (.int .i64 (Iv.sub l' h' l h).lo)).far (p := ⟨w6.heap.size, 1, none⟩) (by first | (simp; done) | (simp; omega) | omega) (.int .i64 (Iv.sub l' h' l h).hi))
    replace Z := ((Z.far (p := ⟨w6.heap.size, 0, none⟩) (by first | (simp; done) | (simp; omega) | omega) (.int .i64 (Iv.sub l' h' l h).lo)).far (p := ⟨w6.heap.size, 1, none⟩) (by first | (simp; done) | (simp; omega) | omega) (.int .i64 (Iv.sub l' h' l h).hi))
    replace M := ((M.far (p := ⟨w6.heap.size, 0, none⟩) (by first | (simp; done) | (simp; omega) | omega) (.int .i64 (Iv.sub l' h' l h).lo)).far (p := ⟨w6.heap.size, 1, none⟩) (by first | (simp; done) | (simp; omega) | omega) (.int .i64 (Iv.sub l' h' l h).hi))
    replace A := ((A.far (p := ⟨w6.heap.size, 0, none⟩) (by first | (simp; done) | (simp; omega) | omega) (.int .i64 (Iv.sub l' h' l h).lo)).far (p := ⟨w6.heap.size, 1, none⟩) (by first | (simp; done) | (simp; omega) | omega) (.int .i64 (Iv.sub l' h' l h).hi))
    replace hB := (bst (bst hB (p := ⟨w6.heap.size, 0, none⟩) (by first | (simp; done) | (simp; omega) | omega) (.int .i64 (Iv.sub l' h' l h).lo)) (p := ⟨w6.heap.size, 1, none⟩) (by first | (simp; done) | (simp; omega) | omega) (.int .i64 (Iv.sub l' h' l h).hi))
    replace B := ((B.set_ 0 (.int .i64 (Iv.sub l' h' l h).lo)).set_ 1 (.int .i64 (Iv.sub l' h' l h).hi))
    simp only [List.setIfInBounds_toArray, List.set_cons_zero, List.set_cons_succ] at B
    go_wp2_with fail
    go_returns
    exact ⟨rfl, hB⟩
  · obtain ⟨m0, hm0⟩ : ∃ m, Hid ((Iv.mul l h l' h').er = m) := ⟨_, Lib.hid rfl⟩
    rw [hm0.out] at e0
    have k0 : (m0 == 0) = false := by simpa using e0
    have kk0 : (m0 != 0) = true := by simpa using e0
    clear e0
    have N1 := Lib.hid (Iv.nest_quo vw a1 a2 e1)
    replace e1 := Lib.hid e1
    have N2 := Lib.hid (Iv.nest_sub vw a1 a2 e2)
    replace e2 := Lib.hid e2
    clear vw a1 a2 a3 a4
    go_enter Try.func7, Try.ntmps7
    have X := Blk.new w 23 #[.int .i64 (l), .int .i64 (h)]
    have hB := ba w (.cells #[.int .i64 (l), .int .i64 (h)] 23)
    have Y := Blk.new1 w (.cells #[.int .i64 (l), .int .i64 (h)] 23) 23 #[.int .i64 (l'), .int .i64 (h')]
    replace X := X.alloc (.cells #[.int .i64 (l'), .int .i64 (h')] 23)
    replace hB := bal hB (.cells #[.int .i64 (l'), .int .i64 (h')] 23)
    have Z := Blk.new2 w (.cells #[.int .i64 (l), .int .i64 (h)] 23) (.cells #[.int .i64 (l'), .int .i64 (h')] 23) 23 #[.int .i64 (p), .int .i64 (q)]
    replace X := X.alloc (.cells #[.int .i64 (p), .int .i64 (q)] 23)
    replace Y := Y.alloc (.cells #[.int .i64 (p), .int .i64 (q)] 23)
    replace hB := bal hB (.cells #[.int .i64 (p), .int .i64 (q)] 23)
    go_wp2_with fail
    refine (awake_ci _).mono ?_
    rintro e w1 ⟨rfl, hb⟩
    replace X := X.keep hb
    replace Y := Y.keep hb
    replace Z := Z.keep hb
    replace hB := bt hB hb
    clear hb
    obtain ⟨c00, c01, c02, c03⟩ := X.open2
    obtain ⟨c10, c11, c12, c13⟩ := Z.open2
    go_wp2_with fail
    refine (meet_ci _ _ _ _ _).mono ?_
    rw [hm.out.1, hm.out.2.1, hm.out.2.2]
    rintro e w2 ⟨rfl, hb⟩
    clear c00 c01 c02 c03 c10 c11 c12 c13
    replace X := X.keep hb
    replace Y := Y.keep hb
    replace Z := Z.keep hb
    replace hB := bt hB hb
    clear hb
    have hz2 := hB.size
    have l2X := X.lt
    have l2Y := Y.lt
    have l2Z := Z.lt
    replace X := X.alloc (.cells #[.int .i64 a, .int .i64 b] 23)
    replace Y := Y.alloc (.cells #[.int .i64 a, .int .i64 b] 23)
    replace Z := Z.alloc (.cells #[.int .i64 a, .int .i64 b] 23)
    replace hB := bal hB (.cells #[.int .i64 a, .int .i64 b] 23)
    have M := Blk.new w2 23 #[.int .i64 a, .int .i64 b]
    obtain ⟨c00, c01, c02, c03⟩ := M.open2
    obtain ⟨c10, c11, c12, c13⟩ := X.open2
    go_wp2_with fail
    refine (within_c _ _ _ _ _).mono ?_
    rw [y1.out]
    rintro e w3 ⟨rfl, hb⟩
    clear c00 c01 c02 c03 c10 c11 c12 c13
    replace X := X.keep hb
    replace Y := Y.keep hb
    replace Z := Z.keep hb
    replace M := M.keep hb
    replace hB := bt hB hb
    clear hb
    obtain ⟨c00, c01, c02, c03⟩ := M.open2
    obtain ⟨c10, c11, c12, c13⟩ := Z.open2
    go_wp2_with fail
    refine (within_c _ _ _ _ _).mono ?_
    rw [y2.out]
    rintro e w4 ⟨rfl, hb⟩
    clear c00 c01 c02 c03 c10 c11 c12 c13
    replace X := X.keep hb
    replace Y := Y.keep hb
    replace Z := Z.keep hb
    replace M := M.keep hb
    replace hB := bt hB hb
    clear hb
    obtain ⟨c00, c01, c02, c03⟩ := M.open2
    obtain ⟨c10, c11, c12, c13⟩ := Y.open2
    go_wp2_with fail
    refine (mul_ci _ _ _ _ _).mono ?_
    rintro e w5 ⟨rfl, hb⟩
    clear c00 c01 c02 c03 c10 c11 c12 c13
    replace X := X.keep hb
    replace Y := Y.keep hb
    replace Z := Z.keep hb
    replace M := M.keep hb
    replace hB := bt hB hb
    clear hb
    have hz5 := hB.size
    have l5X := X.lt
    have l5Y := Y.lt
    have l5Z := Z.lt
    have l5M := M.lt
    replace X := X.alloc (.cells #[.int .i64 (Iv.mul a b l' h').lo, .int .i64 (Iv.mul a b l' h').hi] 23)
    replace Y := Y.alloc (.cells #[.int .i64 (Iv.mul a b l' h').lo, .int .i64 (Iv.mul a b l' h').hi] 23)
    replace Z := Z.alloc (.cells #[.int .i64 (Iv.mul a b l' h').lo, .int .i64 (Iv.mul a b l' h').hi] 23)
    replace M := M.alloc (.cells #[.int .i64 (Iv.mul a b l' h').lo, .int .i64 (Iv.mul a b l' h').hi] 23)
    replace hB := bal hB (.cells #[.int .i64 (Iv.mul a b l' h').lo, .int .i64 (Iv.mul a b l' h').hi] 23)
    have A := Blk.new w5 23 #[.int .i64 (Iv.mul a b l' h').lo, .int .i64 (Iv.mul a b l' h').hi]
    obtain ⟨c00, c01, c02, c03⟩ := X.open2
    obtain ⟨c10, c11, c12, c13⟩ := Y.open2
    obtain ⟨c20, c21, c22, c23⟩ := A.open2
    go_wp2_with fail
    refine (mul_ci _ _ _ _ _).mono ?_
    rw [hm0.out]
    rintro e w6 ⟨rfl, hb⟩
    clear c00 c01 c02 c03 c10 c11 c12 c13 c20 c21 c22 c23
    replace X := X.keep hb
    replace Y := Y.keep hb
    replace Z := Z.keep hb
    replace M := M.keep hb
    replace A := A.keep hb
    replace hB := bt hB hb
    clear hb
    have hz6 := hB.size
    have l6X := X.lt
    have l6Y := Y.lt
    have l6Z := Z.lt
    have l6M := M.lt
    have l6A := A.lt
    replace X := X.alloc (.cells #[.int .i64 (Iv.mul l h l' h').lo, .int .i64 (Iv.mul l h l' h').hi] 23)
    replace Y := Y.alloc (.cells #[.int .i64 (Iv.mul l h l' h').lo, .int .i64 (Iv.mul l h l' h').hi] 23)
    replace Z := Z.alloc (.cells #[.int .i64 (Iv.mul l h l' h').lo, .int .i64 (Iv.mul l h l' h').hi] 23)
    replace M := M.alloc (.cells #[.int .i64 (Iv.mul l h l' h').lo, .int .i64 (Iv.mul l h l' h').hi] 23)
    replace A := A.alloc (.cells #[.int .i64 (Iv.mul l h l' h').lo, .int .i64 (Iv.mul l h l' h').hi] 23)
    replace hB := bal hB (.cells #[.int .i64 (Iv.mul l h l' h').lo, .int .i64 (Iv.mul l h l' h').hi] 23)
    have B := Blk.new w6 23 #[.int .i64 (Iv.mul l h l' h').lo, .int .i64 (Iv.mul l h l' h').hi]
    obtain ⟨c00, c01, c02, c03⟩ := M.open2
    obtain ⟨c10, c11, c12, c13⟩ := Y.open2
    obtain ⟨c20, c21, c22, c23⟩ := A.open2
    obtain ⟨c30, c31, c32, c33⟩ := B.open2
    go_wp2_with fail
    refine (quo_ci _ _ _ _ _).mono ?_
    rw [N1.out.1]
    rintro e w7 ⟨rfl, hb⟩
    clear c00 c01 c02 c03 c10 c11 c12 c13 c20 c21 c22 c23 c30 c31 c32 c33
    replace X := X.keep hb
    replace Y := Y.keep hb
    replace Z := Z.keep hb
    replace M := M.keep hb
    replace A := A.keep hb
    replace B := B.keep hb
    replace hB := bt hB hb
    clear hb
    obtain ⟨s0, s1, s2, s3⟩ := A.open2
    replace X := ((X.far (p := ⟨w5.heap.size, 0, none⟩) (by first | (simp; done) | (simp; omega) | omega) (.int .i64 (Iv.quo a b l' h').lo)).far (p := ⟨w5.heap.size, 1, none⟩) (by first | (simp; done) | (simp; omega) | omega) (.int .i64 (Iv.quo a b l' h').hi))
    replace Y := ((Y.far (p := ⟨w5.heap.size, 0, none⟩) (by first | (simp; done) | (simp; omega) | omega) (.int .i64 (Iv.quo a b l' h').lo)).far (p := ⟨w5.heap.size, 1, none⟩) (by first | (simp; done) | (simp; omega) | omega) (.int .i64 (Iv.quo a b l' h').hi))
    replace Z := ((Z.far (p := ⟨w5.heap.size, 0, none⟩) (by first | (simp; done) | (simp; omega) | omega) (.int .i64 (Iv.quo a b l' h').lo)).far (p := ⟨w5.heap.size, 1, none⟩) (by first | (simp; done) | (simp; omega) | omega) (.int .i64 (Iv.quo a b l' h').hi))
    replace M := ((M.far (p := ⟨w5.heap.size, 0, none⟩) (by first | (simp; done) | (simp; omega) | omega) (.int .i64 (Iv.quo a b l' h').lo)).far (p := ⟨w5.heap.size, 1, none⟩) (by first | (simp; done) | (simp; omega) | omega) (.int .i64 (Iv.quo a b l' h').hi))
    replace B := ((B.far (p := ⟨w5.heap.size, 0, none⟩) (by first | (simp; done) | (simp; omega) | omega) (.int .i64 (Iv.quo a b l' h').lo)).far (p := ⟨w5.heap.size, 1, none⟩) (by first | (simp; done) | (simp; omega) | omega) (.int .i64 (Iv.quo a b l' h').hi))
    replace hB := (bst (bst hB (p := ⟨w5.heap.size, 0, none⟩) (by first | (simp; done) | (simp; omega) | omega) (.int .i64 (Iv.quo a b l' h').lo)) (p := ⟨w5.heap.size, 1, none⟩) (by first | (simp; done) | (simp; omega) | omega) (.int .i64 (Iv.quo a b l' h').hi))
    replace A := ((A.set_ 0 (.int .i64 (Iv.quo a b l' h').lo)).set_ 1 (.int .i64 (Iv.quo a b l' h').hi))
    simp only [List.setIfInBounds_toArray, List.set_cons_zero, List.set_cons_succ] at A
    obtain ⟨c00, c01, c02, c03⟩ := X.open2
    obtain ⟨c10, c11, c12, c13⟩ := Y.open2
    obtain ⟨c20, c21, c22, c23⟩ := B.open2
    go_wp2_with fail
    refine (quo_ci _ _ _ _ _).mono ?_
    rw [e1.out]
    rintro e w8 ⟨rfl, hb⟩
    clear s0 s1 s2 s3
    clear c00 c01 c02 c03 c10 c11 c12 c13 c20 c21 c22 c23
    replace X := X.keep hb
    replace Y := Y.keep hb
    replace Z := Z.keep hb
    replace M := M.keep hb
    replace A := A.keep hb
    replace B := B.keep hb
    replace hB := bt hB hb
    clear hb
    obtain ⟨s0, s1, s2, s3⟩ := B.open2
    replace X := ((X.far (p := ⟨w6.heap.size, 0, none⟩) (by first | (simp; done) | (simp; omega) | omega) (.int .i64 (Iv.quo l h l' h').lo)).far (p := ⟨w6.heap.size, 1, none⟩) (by first | (simp; done) | (simp; omega) | omega) (.int .i64 (Iv.quo l h l' h').hi))
    replace Y := ((Y.far (p := ⟨w6.heap.size, 0, none⟩) (by first | (simp; done) | (simp; omega) | omega) (.int .i64 (Iv.quo l h l' h').lo)).far (p := ⟨w6.heap.size, 1, none⟩) (by first | (simp; done) | (simp; omega) | omega) (.int .i64 (Iv.quo l h l' h').hi))
    replace Z := ((Z.far (p := ⟨w6.heap.size, 0, none⟩) (by first | (simp; done) | (simp; omega) | omega) (.int .i64 (Iv.quo l h l' h').lo)).far (p := ⟨w6.heap.size, 1, none⟩) (by first | (simp; done) | (simp; omega) | omega) (.int .i64 (Iv.quo l h l' h').hi))
    replace M := ((M.far (p := ⟨w6.heap.size, 0, none⟩) (by first | (simp; done) | (simp; omega) | omega) (.int .i64 (Iv.quo l h l' h').lo)).far (p := ⟨w6.heap.size, 1, none⟩) (by first | (simp; done) | (simp; omega) | omega) (.int .i64 (Iv.quo l h l' h').hi))
    replace A := ((A.far (p := ⟨w6.heap.size, 0, none⟩) (by first | (simp; done) | (simp; omega) | omega) (.int .i64 (Iv.quo l h l' h').lo)).far (p := ⟨w6.heap.size, 1, none⟩) (by first | (simp; done) | (simp; omega) | omega) (.int .i64 (Iv.quo l h l' h').hi))
    replace hB := (bst (bst hB (p := ⟨w6.heap.size, 0, none⟩) (by first | (simp; done) | (simp; omega) | omega) (.int .i64 (Iv.quo l h l' h').lo)) (p := ⟨w6.heap.size, 1, none⟩) (by first | (simp; done) | (simp; omega) | omega) (.int .i64 (Iv.quo l h l' h').hi))
    replace B := ((B.set_ 0 (.int .i64 (Iv.quo l h l' h').lo)).set_ 1 (.int .i64 (Iv.quo l h l' h').hi))
    simp only [List.setIfInBounds_toArray, List.set_cons_zero, List.set_cons_succ] at B
    obtain ⟨c00, c01, c02, c03⟩ := A.open2
    obtain ⟨c10, c11, c12, c13⟩ := B.open2
    go_wp2_with fail
    refine (within_c _ _ _ _ _).mono ?_
    rw [N1.out.2]
    rintro e w9 ⟨rfl, hb⟩
    clear s0 s1 s2 s3
    clear c00 c01 c02 c03 c10 c11 c12 c13
    replace X := X.keep hb
    replace Y := Y.keep hb
    replace Z := Z.keep hb
    replace M := M.keep hb
    replace A := A.keep hb
    replace B := B.keep hb
    replace hB := bt hB hb
    clear hb
    obtain ⟨c00, c01, c02, c03⟩ := Y.open2
    obtain ⟨c10, c11, c12, c13⟩ := M.open2
    obtain ⟨c20, c21, c22, c23⟩ := A.open2
    obtain ⟨c30, c31, c32, c33⟩ := B.open2
    go_wp2_with fail
    refine (sub_ci _ _ _ _ _).mono ?_
    rw [N2.out.1]
    rintro e w10 ⟨rfl, hb⟩
    clear c00 c01 c02 c03 c10 c11 c12 c13 c20 c21 c22 c23 c30 c31 c32 c33
    replace X := X.keep hb
    replace Y := Y.keep hb
    replace Z := Z.keep hb
    replace M := M.keep hb
    replace A := A.keep hb
    replace B := B.keep hb
    replace hB := bt hB hb
    clear hb
    obtain ⟨s0, s1, s2, s3⟩ := A.open2
    replace X := ((X.far (p := ⟨w5.heap.size, 0, none⟩) (by first | (simp; done) | (simp; omega) | omega) (.int .i64 (Iv.sub l' h' a b).lo)).far (p := ⟨w5.heap.size, 1, none⟩) (by first | (simp; done) | (simp; omega) | omega) (.int .i64 (Iv.sub l' h' a b).hi))
    replace Y := ((Y.far (p := ⟨w5.heap.size, 0, none⟩) (by first | (simp; done) | (simp; omega) | omega) (.int .i64 (Iv.sub l' h' a b).lo)).far (p := ⟨w5.heap.size, 1, none⟩) (by first | (simp; done) | (simp; omega) | omega) (.int .i64 (Iv.sub l' h' a b).hi))
    replace Z := ((Z.far (p := ⟨w5.heap.size, 0, none⟩) (by first | (simp; done) | (simp; omega) | omega) (.int .i64 (Iv.sub l' h' a b).lo)).far (p := ⟨w5.heap.size, 1, none⟩) (by first | (simp; done) | (simp; omega) | omega) (.int .i64 (Iv.sub l' h' a b).hi))
    replace M := ((M.far (p := ⟨w5.heap.size, 0, none⟩) (by first | (simp; done) | (simp; omega) | omega) (.int .i64 (Iv.sub l' h' a b).lo)).far (p := ⟨w5.heap.size, 1, none⟩) (by first | (simp; done) | (simp; omega) | omega) (.int .i64 (Iv.sub l' h' a b).hi))
    replace B := ((B.far (p := ⟨w5.heap.size, 0, none⟩) (by first | (simp; done) | (simp; omega) | omega) (.int .i64 (Iv.sub l' h' a b).lo)).far (p := ⟨w5.heap.size, 1, none⟩) (by first | (simp; done) | (simp; omega) | omega) (.int .i64 (Iv.sub l' h' a b).hi))
    replace hB := (bst (bst hB (p := ⟨w5.heap.size, 0, none⟩) (by first | (simp; done) | (simp; omega) | omega) (.int .i64 (Iv.sub l' h' a b).lo)) (p := ⟨w5.heap.size, 1, none⟩) (by first | (simp; done) | (simp; omega) | omega) (.int .i64 (Iv.sub l' h' a b).hi))
    replace A := ((A.set_ 0 (.int .i64 (Iv.sub l' h' a b).lo)).set_ 1 (.int .i64 (Iv.sub l' h' a b).hi))
    simp only [List.setIfInBounds_toArray, List.set_cons_zero, List.set_cons_succ] at A
    obtain ⟨c00, c01, c02, c03⟩ := Y.open2
    obtain ⟨c10, c11, c12, c13⟩ := X.open2
    obtain ⟨c20, c21, c22, c23⟩ := B.open2
    go_wp2_with fail
    refine (sub_ci _ _ _ _ _).mono ?_
    rw [e2.out]
    rintro e w11 ⟨rfl, hb⟩
    clear s0 s1 s2 s3
    clear c00 c01 c02 c03 c10 c11 c12 c13 c20 c21 c22 c23
    replace X := X.keep hb
    replace Y := Y.keep hb
    replace Z := Z.keep hb
    replace M := M.keep hb
    replace A := A.keep hb
    replace B := B.keep hb
    replace hB := bt hB hb
    clear hb
    obtain ⟨s0, s1, s2, s3⟩ := B.open2
    replace X := ((X.far (p := ⟨w6.heap.size, 0, none⟩) (by first | (simp; done) | (simp; omega) | omega) (.int .i64 (Iv.sub l' h' l h).lo)).far (p := ⟨w6.heap.size, 1, none⟩) (by first | (simp; done) | (simp; omega) | omega) (.int .i64 (Iv.sub l' h' l h).hi))
    replace Y := ((Y.far (p := ⟨w6.heap.size, 0, none⟩) (by first | (simp; done) | (simp; omega) | omega) (.int .i64 (Iv.sub l' h' l h).lo)).far (p := ⟨w6.heap.size, 1, none⟩) (by first | (simp; done) | (simp; omega) | omega) (.int .i64 (Iv.sub l' h' l h).hi))
    replace Z := ((Z.far (p := ⟨w6.heap.size, 0, none⟩) (by first | (simp; done) | (simp; omega) | omega) (.int .i64 (Iv.sub l' h' l h).lo)).far (p := ⟨w6.heap.size, 1, none⟩) (by first | (simp; done) | (simp; omega) | omega) (.int .i64 (Iv.sub l' h' l h).hi))
    replace M := ((M.far (p := ⟨w6.heap.size, 0, none⟩) (by first | (simp; done) | (simp; omega) | omega) (.int .i64 (Iv.sub l' h' l h).lo)).far (p := ⟨w6.heap.size, 1, none⟩) (by first | (simp; done) | (simp; omega) | omega) (.int .i64 (Iv.sub l' h' l h).hi))
    replace A := ((A.far (p := ⟨w6.heap.size, 0, none⟩) (by first | (simp; done) | (simp; omega) | omega) (.int .i64 (Iv.sub l' h' l h).lo)).far (p := ⟨w6.heap.size, 1, none⟩) (by first | (simp; done) | (simp; omega) | omega) (.int .i64 (Iv.sub l' h' l h).hi))
    replace hB := (bst (bst hB (p := ⟨w6.heap.size, 0, none⟩) (by first | (simp; done) | (simp; omega) | omega) (.int .i64 (Iv.sub l' h' l h).lo)) (p := ⟨w6.heap.size, 1, none⟩) (by first | (simp; done) | (simp; omega) | omega) (.int .i64 (Iv.sub l' h' l h).hi))
    replace B := ((B.set_ 0 (.int .i64 (Iv.sub l' h' l h).lo)).set_ 1 (.int .i64 (Iv.sub l' h' l h).hi))
    simp only [List.setIfInBounds_toArray, List.set_cons_zero, List.set_cons_succ] at B
    obtain ⟨c00, c01, c02, c03⟩ := A.open2
    obtain ⟨c10, c11, c12, c13⟩ := B.open2
    go_wp2_with fail
    refine (within_c _ _ _ _ _).mono ?_
    rw [N2.out.2]
    rintro e w12 ⟨rfl, hb⟩
    clear s0 s1 s2 s3
    clear c00 c01 c02 c03 c10 c11 c12 c13
    replace X := X.keep hb
    replace Y := Y.keep hb
    replace Z := Z.keep hb
    replace M := M.keep hb
    replace A := A.keep hb
    replace B := B.keep hb
    replace hB := bt hB hb
    clear hb
    go_wp2_with fail
    go_returns
    exact ⟨rfl, hB⟩
  · obtain ⟨m0, hm0⟩ : ∃ m, Hid ((Iv.mul l h l' h').er = m) := ⟨_, Lib.hid rfl⟩
    rw [hm0.out] at e0
    have k0 : (m0 == 0) = false := by simpa using e0
    have kk0 : (m0 != 0) = true := by simpa using e0
    clear e0
    have N1 := Lib.hid (Iv.nest_quo vw a1 a2 e1)
    replace e1 := Lib.hid e1
    obtain ⟨m2, hm2⟩ : ∃ m, Hid ((Iv.sub l' h' l h).er = m) := ⟨_, Lib.hid rfl⟩
    rw [hm2.out] at e2
    have k2 : (m2 == 0) = false := by simpa using e2
    have kk2 : (m2 != 0) = true := by simpa using e2
    clear e2
    clear vw a1 a2 a3 a4
    go_enter Try.func7, Try.ntmps7
    have X := Blk.new w 23 #[.int .i64 (l), .int .i64 (h)]
    have hB := ba w (.cells #[.int .i64 (l), .int .i64 (h)] 23)
    have Y := Blk.new1 w (.cells #[.int .i64 (l), .int .i64 (h)] 23) 23 #[.int .i64 (l'), .int .i64 (h')]
    replace X := X.alloc (.cells #[.int .i64 (l'), .int .i64 (h')] 23)
    replace hB := bal hB (.cells #[.int .i64 (l'), .int .i64 (h')] 23)
    have Z := Blk.new2 w (.cells #[.int .i64 (l), .int .i64 (h)] 23) (.cells #[.int .i64 (l'), .int .i64 (h')] 23) 23 #[.int .i64 (p), .int .i64 (q)]
    replace X := X.alloc (.cells #[.int .i64 (p), .int .i64 (q)] 23)
    replace Y := Y.alloc (.cells #[.int .i64 (p), .int .i64 (q)] 23)
    replace hB := bal hB (.cells #[.int .i64 (p), .int .i64 (q)] 23)
    go_wp2_with fail
    refine (awake_ci _).mono ?_
    rintro e w1 ⟨rfl, hb⟩
    replace X := X.keep hb
    replace Y := Y.keep hb
    replace Z := Z.keep hb
    replace hB := bt hB hb
    clear hb
    obtain ⟨c00, c01, c02, c03⟩ := X.open2
    obtain ⟨c10, c11, c12, c13⟩ := Z.open2
    go_wp2_with fail
    refine (meet_ci _ _ _ _ _).mono ?_
    rw [hm.out.1, hm.out.2.1, hm.out.2.2]
    rintro e w2 ⟨rfl, hb⟩
    clear c00 c01 c02 c03 c10 c11 c12 c13
    replace X := X.keep hb
    replace Y := Y.keep hb
    replace Z := Z.keep hb
    replace hB := bt hB hb
    clear hb
    have hz2 := hB.size
    have l2X := X.lt
    have l2Y := Y.lt
    have l2Z := Z.lt
    replace X := X.alloc (.cells #[.int .i64 a, .int .i64 b] 23)
    replace Y := Y.alloc (.cells #[.int .i64 a, .int .i64 b] 23)
    replace Z := Z.alloc (.cells #[.int .i64 a, .int .i64 b] 23)
    replace hB := bal hB (.cells #[.int .i64 a, .int .i64 b] 23)
    have M := Blk.new w2 23 #[.int .i64 a, .int .i64 b]
    obtain ⟨c00, c01, c02, c03⟩ := M.open2
    obtain ⟨c10, c11, c12, c13⟩ := X.open2
    go_wp2_with fail
    refine (within_c _ _ _ _ _).mono ?_
    rw [y1.out]
    rintro e w3 ⟨rfl, hb⟩
    clear c00 c01 c02 c03 c10 c11 c12 c13
    replace X := X.keep hb
    replace Y := Y.keep hb
    replace Z := Z.keep hb
    replace M := M.keep hb
    replace hB := bt hB hb
    clear hb
    obtain ⟨c00, c01, c02, c03⟩ := M.open2
    obtain ⟨c10, c11, c12, c13⟩ := Z.open2
    go_wp2_with fail
    refine (within_c _ _ _ _ _).mono ?_
    rw [y2.out]
    rintro e w4 ⟨rfl, hb⟩
    clear c00 c01 c02 c03 c10 c11 c12 c13
    replace X := X.keep hb
    replace Y := Y.keep hb
    replace Z := Z.keep hb
    replace M := M.keep hb
    replace hB := bt hB hb
    clear hb
    obtain ⟨c00, c01, c02, c03⟩ := M.open2
    obtain ⟨c10, c11, c12, c13⟩ := Y.open2
    go_wp2_with fail
    refine (mul_ci _ _ _ _ _).mono ?_
    rintro e w5 ⟨rfl, hb⟩
    clear c00 c01 c02 c03 c10 c11 c12 c13
    replace X := X.keep hb
    replace Y := Y.keep hb
    replace Z := Z.keep hb
    replace M := M.keep hb
    replace hB := bt hB hb
    clear hb
    have hz5 := hB.size
    have l5X := X.lt
    have l5Y := Y.lt
    have l5Z := Z.lt
    have l5M := M.lt
    replace X := X.alloc (.cells #[.int .i64 (Iv.mul a b l' h').lo, .int .i64 (Iv.mul a b l' h').hi] 23)
    replace Y := Y.alloc (.cells #[.int .i64 (Iv.mul a b l' h').lo, .int .i64 (Iv.mul a b l' h').hi] 23)
    replace Z := Z.alloc (.cells #[.int .i64 (Iv.mul a b l' h').lo, .int .i64 (Iv.mul a b l' h').hi] 23)
    replace M := M.alloc (.cells #[.int .i64 (Iv.mul a b l' h').lo, .int .i64 (Iv.mul a b l' h').hi] 23)
    replace hB := bal hB (.cells #[.int .i64 (Iv.mul a b l' h').lo, .int .i64 (Iv.mul a b l' h').hi] 23)
    have A := Blk.new w5 23 #[.int .i64 (Iv.mul a b l' h').lo, .int .i64 (Iv.mul a b l' h').hi]
    obtain ⟨c00, c01, c02, c03⟩ := X.open2
    obtain ⟨c10, c11, c12, c13⟩ := Y.open2
    obtain ⟨c20, c21, c22, c23⟩ := A.open2
    go_wp2_with fail
    refine (mul_ci _ _ _ _ _).mono ?_
    rw [hm0.out]
    rintro e w6 ⟨rfl, hb⟩
    clear c00 c01 c02 c03 c10 c11 c12 c13 c20 c21 c22 c23
    replace X := X.keep hb
    replace Y := Y.keep hb
    replace Z := Z.keep hb
    replace M := M.keep hb
    replace A := A.keep hb
    replace hB := bt hB hb
    clear hb
    have hz6 := hB.size
    have l6X := X.lt
    have l6Y := Y.lt
    have l6Z := Z.lt
    have l6M := M.lt
    have l6A := A.lt
    replace X := X.alloc (.cells #[.int .i64 (Iv.mul l h l' h').lo, .int .i64 (Iv.mul l h l' h').hi] 23)
    replace Y := Y.alloc (.cells #[.int .i64 (Iv.mul l h l' h').lo, .int .i64 (Iv.mul l h l' h').hi] 23)
    replace Z := Z.alloc (.cells #[.int .i64 (Iv.mul l h l' h').lo, .int .i64 (Iv.mul l h l' h').hi] 23)
    replace M := M.alloc (.cells #[.int .i64 (Iv.mul l h l' h').lo, .int .i64 (Iv.mul l h l' h').hi] 23)
    replace A := A.alloc (.cells #[.int .i64 (Iv.mul l h l' h').lo, .int .i64 (Iv.mul l h l' h').hi] 23)
    replace hB := bal hB (.cells #[.int .i64 (Iv.mul l h l' h').lo, .int .i64 (Iv.mul l h l' h').hi] 23)
    have B := Blk.new w6 23 #[.int .i64 (Iv.mul l h l' h').lo, .int .i64 (Iv.mul l h l' h').hi]
    obtain ⟨c00, c01, c02, c03⟩ := M.open2
    obtain ⟨c10, c11, c12, c13⟩ := Y.open2
    obtain ⟨c20, c21, c22, c23⟩ := A.open2
    obtain ⟨c30, c31, c32, c33⟩ := B.open2
    go_wp2_with fail
    refine (quo_ci _ _ _ _ _).mono ?_
    rw [N1.out.1]
    rintro e w7 ⟨rfl, hb⟩
    clear c00 c01 c02 c03 c10 c11 c12 c13 c20 c21 c22 c23 c30 c31 c32 c33
    replace X := X.keep hb
    replace Y := Y.keep hb
    replace Z := Z.keep hb
    replace M := M.keep hb
    replace A := A.keep hb
    replace B := B.keep hb
    replace hB := bt hB hb
    clear hb
    obtain ⟨s0, s1, s2, s3⟩ := A.open2
    replace X := ((X.far (p := ⟨w5.heap.size, 0, none⟩) (by first | (simp; done) | (simp; omega) | omega) (.int .i64 (Iv.quo a b l' h').lo)).far (p := ⟨w5.heap.size, 1, none⟩) (by first | (simp; done) | (simp; omega) | omega) (.int .i64 (Iv.quo a b l' h').hi))
    replace Y := ((Y.far (p := ⟨w5.heap.size, 0, none⟩) (by first | (simp; done) | (simp; omega) | omega) (.int .i64 (Iv.quo a b l' h').lo)).far (p := ⟨w5.heap.size, 1, none⟩) (by first | (simp; done) | (simp; omega) | omega) (.int .i64 (Iv.quo a b l' h').hi))
    replace Z := ((Z.far (p := ⟨w5.heap.size, 0, none⟩) (by first | (simp; done) | (simp; omega) | omega) (.int .i64 (Iv.quo a b l' h').lo)).far (p := ⟨w5.heap.size, 1, none⟩) (by first | (simp; done) | (simp; omega) | omega) (.int .i64 (Iv.quo a b l' h').hi))
    replace M := ((M.far (p := ⟨w5.heap.size, 0, none⟩) (by first | (simp; done) | (simp; omega) | omega) (.int .i64 (Iv.quo a b l' h').lo)).far (p := ⟨w5.heap.size, 1, none⟩) (by first | (simp; done) | (simp; omega) | omega) (.int .i64 (Iv.quo a b l' h').hi))
    replace B := ((B.far (p := ⟨w5.heap.size, 0, none⟩) (by first | (simp; done) | (simp; omega) | omega) (.int .i64 (Iv.quo a b l' h').lo)).far (p := ⟨w5.heap.size, 1, none⟩) (by first | (simp; done) | (simp; omega) | omega) (.int .i64 (Iv.quo a b l' h').hi))
    replace hB := (bst (bst hB (p := ⟨w5.heap.size, 0, none⟩) (by first | (simp; done) | (simp; omega) | omega) (.int .i64 (Iv.quo a b l' h').lo)) (p := ⟨w5.heap.size, 1, none⟩) (by first | (simp; done) | (simp; omega) | omega) (.int .i64 (Iv.quo a b l' h').hi))
    replace A := ((A.set_ 0 (.int .i64 (Iv.quo a b l' h').lo)).set_ 1 (.int .i64 (Iv.quo a b l' h').hi))
    simp only [List.setIfInBounds_toArray, List.set_cons_zero, List.set_cons_succ] at A
    obtain ⟨c00, c01, c02, c03⟩ := X.open2
    obtain ⟨c10, c11, c12, c13⟩ := Y.open2
    obtain ⟨c20, c21, c22, c23⟩ := B.open2
    go_wp2_with fail
    refine (quo_ci _ _ _ _ _).mono ?_
    rw [e1.out]
    rintro e w8 ⟨rfl, hb⟩
    clear s0 s1 s2 s3
    clear c00 c01 c02 c03 c10 c11 c12 c13 c20 c21 c22 c23
    replace X := X.keep hb
    replace Y := Y.keep hb
    replace Z := Z.keep hb
    replace M := M.keep hb
    replace A := A.keep hb
    replace B := B.keep hb
    replace hB := bt hB hb
    clear hb
    obtain ⟨s0, s1, s2, s3⟩ := B.open2
    replace X := ((X.far (p := ⟨w6.heap.size, 0, none⟩) (by first | (simp; done) | (simp; omega) | omega) (.int .i64 (Iv.quo l h l' h').lo)).far (p := ⟨w6.heap.size, 1, none⟩) (by first | (simp; done) | (simp; omega) | omega) (.int .i64 (Iv.quo l h l' h').hi))
    replace Y := ((Y.far (p := ⟨w6.heap.size, 0, none⟩) (by first | (simp; done) | (simp; omega) | omega) (.int .i64 (Iv.quo l h l' h').lo)).far (p := ⟨w6.heap.size, 1, none⟩) (by first | (simp; done) | (simp; omega) | omega) (.int .i64 (Iv.quo l h l' h').hi))
    replace Z := ((Z.far (p := ⟨w6.heap.size, 0, none⟩) (by first | (simp; done) | (simp; omega) | omega) (.int .i64 (Iv.quo l h l' h').lo)).far (p := ⟨w6.heap.size, 1, none⟩) (by first | (simp; done) | (simp; omega) | omega) (.int .i64 (Iv.quo l h l' h').hi))
    replace M := ((M.far (p := ⟨w6.heap.size, 0, none⟩) (by first | (simp; done) | (simp; omega) | omega) (.int .i64 (Iv.quo l h l' h').lo)).far (p := ⟨w6.heap.size, 1, none⟩) (by first | (simp; done) | (simp; omega) | omega) (.int .i64 (Iv.quo l h l' h').hi))
    replace A := ((A.far (p := ⟨w6.heap.size, 0, none⟩) (by first | (simp; done) | (simp; omega) | omega) (.int .i64 (Iv.quo l h l' h').lo)).far (p := ⟨w6.heap.size, 1, none⟩) (by first | (simp; done) | (simp; omega) | omega) (.int .i64 (Iv.quo l h l' h').hi))
    replace hB := (bst (bst hB (p := ⟨w6.heap.size, 0, none⟩) (by first | (simp; done) | (simp; omega) | omega) (.int .i64 (Iv.quo l h l' h').lo)) (p := ⟨w6.heap.size, 1, none⟩) (by first | (simp; done) | (simp; omega) | omega) (.int .i64 (Iv.quo l h l' h').hi))
    replace B := ((B.set_ 0 (.int .i64 (Iv.quo l h l' h').lo)).set_ 1 (.int .i64 (Iv.quo l h l' h').hi))
    simp only [List.setIfInBounds_toArray, List.set_cons_zero, List.set_cons_succ] at B
    obtain ⟨c00, c01, c02, c03⟩ := A.open2
    obtain ⟨c10, c11, c12, c13⟩ := B.open2
    go_wp2_with fail
    refine (within_c _ _ _ _ _).mono ?_
    rw [N1.out.2]
    rintro e w9 ⟨rfl, hb⟩
    clear s0 s1 s2 s3
    clear c00 c01 c02 c03 c10 c11 c12 c13
    replace X := X.keep hb
    replace Y := Y.keep hb
    replace Z := Z.keep hb
    replace M := M.keep hb
    replace A := A.keep hb
    replace B := B.keep hb
    replace hB := bt hB hb
    clear hb
    obtain ⟨c00, c01, c02, c03⟩ := Y.open2
    obtain ⟨c10, c11, c12, c13⟩ := M.open2
    obtain ⟨c20, c21, c22, c23⟩ := A.open2
    obtain ⟨c30, c31, c32, c33⟩ := B.open2
    go_wp2_with fail
    refine (sub_ci _ _ _ _ _).mono ?_
    rintro e w10 ⟨rfl, hb⟩
    clear c00 c01 c02 c03 c10 c11 c12 c13 c20 c21 c22 c23 c30 c31 c32 c33
    replace X := X.keep hb
    replace Y := Y.keep hb
    replace Z := Z.keep hb
    replace M := M.keep hb
    replace A := A.keep hb
    replace B := B.keep hb
    replace hB := bt hB hb
    clear hb
    obtain ⟨s0, s1, s2, s3⟩ := A.open2
    replace X := ((X.far (p := ⟨w5.heap.size, 0, none⟩) (by first | (simp; done) | (simp; omega) | omega) (.int .i64 (Iv.sub l' h' a b).lo)).far (p := ⟨w5.heap.size, 1, none⟩) (by first | (simp; done) | (simp; omega) | omega) (.int .i64 (Iv.sub l' h' a b).hi))
    replace Y := ((Y.far (p := ⟨w5.heap.size, 0, none⟩) (by first | (simp; done) | (simp; omega) | omega) (.int .i64 (Iv.sub l' h' a b).lo)).far (p := ⟨w5.heap.size, 1, none⟩) (by first | (simp; done) | (simp; omega) | omega) (.int .i64 (Iv.sub l' h' a b).hi))
    replace Z := ((Z.far (p := ⟨w5.heap.size, 0, none⟩) (by first | (simp; done) | (simp; omega) | omega) (.int .i64 (Iv.sub l' h' a b).lo)).far (p := ⟨w5.heap.size, 1, none⟩) (by first | (simp; done) | (simp; omega) | omega) (.int .i64 (Iv.sub l' h' a b).hi))
    replace M := ((M.far (p := ⟨w5.heap.size, 0, none⟩) (by first | (simp; done) | (simp; omega) | omega) (.int .i64 (Iv.sub l' h' a b).lo)).far (p := ⟨w5.heap.size, 1, none⟩) (by first | (simp; done) | (simp; omega) | omega) (.int .i64 (Iv.sub l' h' a b).hi))
    replace B := ((B.far (p := ⟨w5.heap.size, 0, none⟩) (by first | (simp; done) | (simp; omega) | omega) (.int .i64 (Iv.sub l' h' a b).lo)).far (p := ⟨w5.heap.size, 1, none⟩) (by first | (simp; done) | (simp; omega) | omega) (.int .i64 (Iv.sub l' h' a b).hi))
    replace hB := (bst (bst hB (p := ⟨w5.heap.size, 0, none⟩) (by first | (simp; done) | (simp; omega) | omega) (.int .i64 (Iv.sub l' h' a b).lo)) (p := ⟨w5.heap.size, 1, none⟩) (by first | (simp; done) | (simp; omega) | omega) (.int .i64 (Iv.sub l' h' a b).hi))
    replace A := ((A.set_ 0 (.int .i64 (Iv.sub l' h' a b).lo)).set_ 1 (.int .i64 (Iv.sub l' h' a b).hi))
    simp only [List.setIfInBounds_toArray, List.set_cons_zero, List.set_cons_succ] at A
    obtain ⟨c00, c01, c02, c03⟩ := Y.open2
    obtain ⟨c10, c11, c12, c13⟩ := X.open2
    obtain ⟨c20, c21, c22, c23⟩ := B.open2
    go_wp2_with fail
    refine (sub_ci _ _ _ _ _).mono ?_
    rw [hm2.out]
    rintro e w11 ⟨rfl, hb⟩
    clear s0 s1 s2 s3
    clear c00 c01 c02 c03 c10 c11 c12 c13 c20 c21 c22 c23
    replace X := X.keep hb
    replace Y := Y.keep hb
    replace Z := Z.keep hb
    replace M := M.keep hb
    replace A := A.keep hb
    replace B := B.keep hb
    replace hB := bt hB hb
    clear hb
    obtain ⟨s0, s1, s2, s3⟩ := B.open2
    replace X := ((X.far (p := ⟨w6.heap.size, 0, none⟩) (by first | (simp; done) | (simp; omega) | omega) (.int .i64 (Iv.sub l' h' l h).lo)).far (p := ⟨w6.heap.size, 1, none⟩) (by first | (simp; done) | (simp; omega) | omega) (.int .i64 (Iv.sub l' h' l h).hi))
    replace Y := ((Y.far (p := ⟨w6.heap.size, 0, none⟩) (by first | (simp; done) | (simp; omega) | omega) (.int .i64 (Iv.sub l' h' l h).lo)).far (p := ⟨w6.heap.size, 1, none⟩) (by first | (simp; done) | (simp; omega) | omega) (.int .i64 (Iv.sub l' h' l h).hi))
    replace Z := ((Z.far (p := ⟨w6.heap.size, 0, none⟩) (by first | (simp; done) | (simp; omega) | omega) (.int .i64 (Iv.sub l' h' l h).lo)).far (p := ⟨w6.heap.size, 1, none⟩) (by first | (simp; done) | (simp; omega) | omega) (.int .i64 (Iv.sub l' h' l h).hi))
    replace M := ((M.far (p := ⟨w6.heap.size, 0, none⟩) (by first | (simp; done) | (simp; omega) | omega) (.int .i64 (Iv.sub l' h' l h).lo)).far (p := ⟨w6.heap.size, 1, none⟩) (by first | (simp; done) | (simp; omega) | omega) (.int .i64 (Iv.sub l' h' l h).hi))
    replace A := ((A.far (p := ⟨w6.heap.size, 0, none⟩) (by first | (simp; done) | (simp; omega) | omega) (.int .i64 (Iv.sub l' h' l h).lo)).far (p := ⟨w6.heap.size, 1, none⟩) (by first | (simp; done) | (simp; omega) | omega) (.int .i64 (Iv.sub l' h' l h).hi))
    replace hB := (bst (bst hB (p := ⟨w6.heap.size, 0, none⟩) (by first | (simp; done) | (simp; omega) | omega) (.int .i64 (Iv.sub l' h' l h).lo)) (p := ⟨w6.heap.size, 1, none⟩) (by first | (simp; done) | (simp; omega) | omega) (.int .i64 (Iv.sub l' h' l h).hi))
    replace B := ((B.set_ 0 (.int .i64 (Iv.sub l' h' l h).lo)).set_ 1 (.int .i64 (Iv.sub l' h' l h).hi))
    simp only [List.setIfInBounds_toArray, List.set_cons_zero, List.set_cons_succ] at B
    go_wp2_with fail
    go_returns
    exact ⟨rfl, hB⟩
  · obtain ⟨m0, hm0⟩ : ∃ m, Hid ((Iv.mul l h l' h').er = m) := ⟨_, Lib.hid rfl⟩
    rw [hm0.out] at e0
    have k0 : (m0 == 0) = false := by simpa using e0
    have kk0 : (m0 != 0) = true := by simpa using e0
    clear e0
    obtain ⟨m1, hm1⟩ : ∃ m, Hid ((Iv.quo l h l' h').er = m) := ⟨_, Lib.hid rfl⟩
    rw [hm1.out] at e1
    have k1 : (m1 == 0) = false := by simpa using e1
    have kk1 : (m1 != 0) = true := by simpa using e1
    clear e1
    have N2 := Lib.hid (Iv.nest_sub vw a1 a2 e2)
    replace e2 := Lib.hid e2
    clear vw a1 a2 a3 a4
    go_enter Try.func7, Try.ntmps7
    have X := Blk.new w 23 #[.int .i64 (l), .int .i64 (h)]
    have hB := ba w (.cells #[.int .i64 (l), .int .i64 (h)] 23)
    have Y := Blk.new1 w (.cells #[.int .i64 (l), .int .i64 (h)] 23) 23 #[.int .i64 (l'), .int .i64 (h')]
    replace X := X.alloc (.cells #[.int .i64 (l'), .int .i64 (h')] 23)
    replace hB := bal hB (.cells #[.int .i64 (l'), .int .i64 (h')] 23)
    have Z := Blk.new2 w (.cells #[.int .i64 (l), .int .i64 (h)] 23) (.cells #[.int .i64 (l'), .int .i64 (h')] 23) 23 #[.int .i64 (p), .int .i64 (q)]
    replace X := X.alloc (.cells #[.int .i64 (p), .int .i64 (q)] 23)
    replace Y := Y.alloc (.cells #[.int .i64 (p), .int .i64 (q)] 23)
    replace hB := bal hB (.cells #[.int .i64 (p), .int .i64 (q)] 23)
    go_wp2_with fail
    refine (awake_ci _).mono ?_
    rintro e w1 ⟨rfl, hb⟩
    replace X := X.keep hb
    replace Y := Y.keep hb
    replace Z := Z.keep hb
    replace hB := bt hB hb
    clear hb
    obtain ⟨c00, c01, c02, c03⟩ := X.open2
    obtain ⟨c10, c11, c12, c13⟩ := Z.open2
    go_wp2_with fail
    refine (meet_ci _ _ _ _ _).mono ?_
    rw [hm.out.1, hm.out.2.1, hm.out.2.2]
    rintro e w2 ⟨rfl, hb⟩
    clear c00 c01 c02 c03 c10 c11 c12 c13
    replace X := X.keep hb
    replace Y := Y.keep hb
    replace Z := Z.keep hb
    replace hB := bt hB hb
    clear hb
    have hz2 := hB.size
    have l2X := X.lt
    have l2Y := Y.lt
    have l2Z := Z.lt
    replace X := X.alloc (.cells #[.int .i64 a, .int .i64 b] 23)
    replace Y := Y.alloc (.cells #[.int .i64 a, .int .i64 b] 23)
    replace Z := Z.alloc (.cells #[.int .i64 a, .int .i64 b] 23)
    replace hB := bal hB (.cells #[.int .i64 a, .int .i64 b] 23)
    have M := Blk.new w2 23 #[.int .i64 a, .int .i64 b]
    obtain ⟨c00, c01, c02, c03⟩ := M.open2
    obtain ⟨c10, c11, c12, c13⟩ := X.open2
    go_wp2_with fail
    refine (within_c _ _ _ _ _).mono ?_
    rw [y1.out]
    rintro e w3 ⟨rfl, hb⟩
    clear c00 c01 c02 c03 c10 c11 c12 c13
    replace X := X.keep hb
    replace Y := Y.keep hb
    replace Z := Z.keep hb
    replace M := M.keep hb
    replace hB := bt hB hb
    clear hb
    obtain ⟨c00, c01, c02, c03⟩ := M.open2
    obtain ⟨c10, c11, c12, c13⟩ := Z.open2
    go_wp2_with fail
    refine (within_c _ _ _ _ _).mono ?_
    rw [y2.out]
    rintro e w4 ⟨rfl, hb⟩
    clear c00 c01 c02 c03 c10 c11 c12 c13
    replace X := X.keep hb
    replace Y := Y.keep hb
    replace Z := Z.keep hb
    replace M := M.keep hb
    replace hB := bt hB hb
    clear hb
    obtain ⟨c00, c01, c02, c03⟩ := M.open2
    obtain ⟨c10, c11, c12, c13⟩ := Y.open2
    go_wp2_with fail
    refine (mul_ci _ _ _ _ _).mono ?_
    rintro e w5 ⟨rfl, hb⟩
    clear c00 c01 c02 c03 c10 c11 c12 c13
    replace X := X.keep hb
    replace Y := Y.keep hb
    replace Z := Z.keep hb
    replace M := M.keep hb
    replace hB := bt hB hb
    clear hb
    have hz5 := hB.size
    have l5X := X.lt
    have l5Y := Y.lt
    have l5Z := Z.lt
    have l5M := M.lt
    replace X := X.alloc (.cells #[.int .i64 (Iv.mul a b l' h').lo, .int .i64 (Iv.mul a b l' h').hi] 23)
    replace Y := Y.alloc (.cells #[.int .i64 (Iv.mul a b l' h').lo, .int .i64 (Iv.mul a b l' h').hi] 23)
    replace Z := Z.alloc (.cells #[.int .i64 (Iv.mul a b l' h').lo, .int .i64 (Iv.mul a b l' h').hi] 23)
    replace M := M.alloc (.cells #[.int .i64 (Iv.mul a b l' h').lo, .int .i64 (Iv.mul a b l' h').hi] 23)
    replace hB := bal hB (.cells #[.int .i64 (Iv.mul a b l' h').lo, .int .i64 (Iv.mul a b l' h').hi] 23)
    have A := Blk.new w5 23 #[.int .i64 (Iv.mul a b l' h').lo, .int .i64 (Iv.mul a b l' h').hi]
    obtain ⟨c00, c01, c02, c03⟩ := X.open2
    obtain ⟨c10, c11, c12, c13⟩ := Y.open2
    obtain ⟨c20, c21, c22, c23⟩ := A.open2
    go_wp2_with fail
    refine (mul_ci _ _ _ _ _).mono ?_
    rw [hm0.out]
    rintro e w6 ⟨rfl, hb⟩
    clear c00 c01 c02 c03 c10 c11 c12 c13 c20 c21 c22 c23
    replace X := X.keep hb
    replace Y := Y.keep hb
    replace Z := Z.keep hb
    replace M := M.keep hb
    replace A := A.keep hb
    replace hB := bt hB hb
    clear hb
    have hz6 := hB.size
    have l6X := X.lt
    have l6Y := Y.lt
    have l6Z := Z.lt
    have l6M := M.lt
    have l6A := A.lt
    replace X := X.alloc (.cells #[.int .i64 (Iv.mul l h l' h').lo, .int .i64 (Iv.mul l h l' h').hi] 23)
    replace Y := Y.alloc (.cells #[.int .i64 (Iv.mul l h l' h').lo, .int .i64 (Iv.mul l h l' h').hi] 23)
    replace Z := Z.alloc (.cells #[.int .i64 (Iv.mul l h l' h').lo, .int .i64 (Iv.mul l h l' h').hi] 23)
    replace M := M.alloc (.cells #[.int .i64 (Iv.mul l h l' h').lo, .int .i64 (Iv.mul l h l' h').hi] 23)
    replace A := A.alloc (.cells #[.int .i64 (Iv.mul l h l' h').lo, .int .i64 (Iv.mul l h l' h').hi] 23)
    replace hB := bal hB (.cells #[.int .i64 (Iv.mul l h l' h').lo, .int .i64 (Iv.mul l h l' h').hi] 23)
    have B := Blk.new w6 23 #[.int .i64 (Iv.mul l h l' h').lo, .int .i64 (Iv.mul l h l' h').hi]
    obtain ⟨c00, c01, c02, c03⟩ := M.open2
    obtain ⟨c10, c11, c12, c13⟩ := Y.open2
    obtain ⟨c20, c21, c22, c23⟩ := A.open2
    obtain ⟨c30, c31, c32, c33⟩ := B.open2
    go_wp2_with fail
    refine (quo_ci _ _ _ _ _).mono ?_
    rintro e w7 ⟨rfl, hb⟩
    clear c00 c01 c02 c03 c10 c11 c12 c13 c20 c21 c22 c23 c30 c31 c32 c33
    replace X := X.keep hb
    replace Y := Y.keep hb
    replace Z := Z.keep hb
    replace M := M.keep hb
    replace A := A.keep hb
    replace B := B.keep hb
    replace hB := bt hB hb
    clear hb
    obtain ⟨s0, s1, s2, s3⟩ := A.open2
    replace X := ((X.far (p := ⟨w5.heap.size, 0, none⟩) (by first | (simp; done) | (simp; omega) | omega) (.int .i64 (Iv.quo a b l' h').lo)).far (p := ⟨w5.heap.size, 1, none⟩) (by first | (simp; done) | (simp; omega) | omega) (.int .i64 (Iv.quo a b l' h').hi))
    replace Y := ((Y.far (p := ⟨w5.heap.size, 0, none⟩) (by first | (simp; done) | (simp; omega) | omega) (.int .i64 (Iv.quo a b l' h').lo)).far (p := ⟨w5.heap.size, 1, none⟩) (by first | (simp; done) | (simp; omega) | omega) (.int .i64 (Iv.quo a b l' h').hi))
    replace Z := ((Z.far (p := ⟨w5.heap.size, 0, none⟩) (by first | (simp; done) | (simp; omega) | omega) (.int .i64 (Iv.quo a b l' h').lo)).far (p := ⟨w5.heap.size, 1, none⟩) (by first | (simp; done) | (simp; omega) | omega) (.int .i64 (Iv.quo a b l' h').hi))
    replace M := ((M.far (p := ⟨w5.heap.size, 0, none⟩) (by first | (simp; done) | (simp; omega) | omega) (.int .i64 (Iv.quo a b l' h').lo)).far (p := ⟨w5.heap.size, 1, none⟩) (by first | (simp; done) | (simp; omega) | omega) (.int .i64 (Iv.quo a b l' h').hi))
    replace B := ((B.far (p := ⟨w5.heap.size, 0, none⟩) (by first | (simp; done) | (simp; omega) | omega) (.int .i64 (Iv.quo a b l' h').lo)).far (p := ⟨w5.heap.size, 1, none⟩) (by first | (simp; done) | (simp; omega) | omega) (.int .i64 (Iv.quo a b l' h').hi))
    replace hB := (bst (bst hB (p := ⟨w5.heap.size, 0, none⟩) (by first | (simp; done) | (simp; omega) | omega) (.int .i64 (Iv.quo a b l' h').lo)) (p := ⟨w5.heap.size, 1, none⟩) (by first | (simp; done) | (simp; omega) | omega) (.int .i64 (Iv.quo a b l' h').hi))
    replace A := ((A.set_ 0 (.int .i64 (Iv.quo a b l' h').lo)).set_ 1 (.int .i64 (Iv.quo a b l' h').hi))
    simp only [List.setIfInBounds_toArray, List.set_cons_zero, List.set_cons_succ] at A
    obtain ⟨c00, c01, c02, c03⟩ := X.open2
    obtain ⟨c10, c11, c12, c13⟩ := Y.open2
    obtain ⟨c20, c21, c22, c23⟩ := B.open2
    go_wp2_with fail
    refine (quo_ci _ _ _ _ _).mono ?_
    rw [hm1.out]
    rintro e w8 ⟨rfl, hb⟩
    clear s0 s1 s2 s3
    clear c00 c01 c02 c03 c10 c11 c12 c13 c20 c21 c22 c23
    replace X := X.keep hb
    replace Y := Y.keep hb
    replace Z := Z.keep hb
    replace M := M.keep hb
    replace A := A.keep hb
    replace B := B.keep hb
    replace hB := bt hB hb
    clear hb
    obtain ⟨s0, s1, s2, s3⟩ := B.open2
    replace X := ((X.far (p := ⟨w6.heap.size, 0, none⟩) (by first | (simp; done) | (simp; omega) | omega) (.int .i64 (Iv.quo l h l' h').lo)).far (p := ⟨w6.heap.size, 1, none⟩) (by first | (simp; done) | (simp; omega) | omega) (.int .i64 (Iv.quo l h l' h').hi))
    replace Y := ((Y.far (p := ⟨w6.heap.size, 0, none⟩) (by first | (simp; done) | (simp; omega) | omega) (.int .i64 (Iv.quo l h l' h').lo)).far (p := ⟨w6.heap.size, 1, none⟩) (by first | (simp; done) | (simp; omega) | omega) (.int .i64 (Iv.quo l h l' h').hi))
    replace Z := ((Z.far (p := ⟨w6.heap.size, 0, none⟩) (by first | (simp; done) | (simp; omega) | omega) (.int .i64 (Iv.quo l h l' h').lo)).far (p := ⟨w6.heap.size, 1, none⟩) (by first | (simp; done) | (simp; omega) | omega) (.int .i64 (Iv.quo l h l' h').hi))
    replace M := ((M.far (p := ⟨w6.heap.size, 0, none⟩) (by first | (simp; done) | (simp; omega) | omega) (.int .i64 (Iv.quo l h l' h').lo)).far (p := ⟨w6.heap.size, 1, none⟩) (by first | (simp; done) | (simp; omega) | omega) (.int .i64 (Iv.quo l h l' h').hi))
    replace A := ((A.far (p := ⟨w6.heap.size, 0, none⟩) (by first | (simp; done) | (simp; omega) | omega) (.int .i64 (Iv.quo l h l' h').lo)).far (p := ⟨w6.heap.size, 1, none⟩) (by first | (simp; done) | (simp; omega) | omega) (.int .i64 (Iv.quo l h l' h').hi))
    replace hB := (bst (bst hB (p := ⟨w6.heap.size, 0, none⟩) (by first | (simp; done) | (simp; omega) | omega) (.int .i64 (Iv.quo l h l' h').lo)) (p := ⟨w6.heap.size, 1, none⟩) (by first | (simp; done) | (simp; omega) | omega) (.int .i64 (Iv.quo l h l' h').hi))
    replace B := ((B.set_ 0 (.int .i64 (Iv.quo l h l' h').lo)).set_ 1 (.int .i64 (Iv.quo l h l' h').hi))
    simp only [List.setIfInBounds_toArray, List.set_cons_zero, List.set_cons_succ] at B
    obtain ⟨c00, c01, c02, c03⟩ := Y.open2
    obtain ⟨c10, c11, c12, c13⟩ := M.open2
    obtain ⟨c20, c21, c22, c23⟩ := A.open2
    obtain ⟨c30, c31, c32, c33⟩ := B.open2
    go_wp2_with fail
    refine (sub_ci _ _ _ _ _).mono ?_
    rw [N2.out.1]
    rintro e w9 ⟨rfl, hb⟩
    clear s0 s1 s2 s3
    clear c00 c01 c02 c03 c10 c11 c12 c13 c20 c21 c22 c23 c30 c31 c32 c33
    replace X := X.keep hb
    replace Y := Y.keep hb
    replace Z := Z.keep hb
    replace M := M.keep hb
    replace A := A.keep hb
    replace B := B.keep hb
    replace hB := bt hB hb
    clear hb
    obtain ⟨s0, s1, s2, s3⟩ := A.open2
    replace X := ((X.far (p := ⟨w5.heap.size, 0, none⟩) (by first | (simp; done) | (simp; omega) | omega) (.int .i64 (Iv.sub l' h' a b).lo)).far (p := ⟨w5.heap.size, 1, none⟩) (by first | (simp; done) | (simp; omega) | omega) (.int .i64 (Iv.sub l' h' a b).hi))
    replace Y := ((Y.far (p := ⟨w5.heap.size, 0, none⟩) (by first | (simp; done) | (simp; omega) | omega) (.int .i64 (Iv.sub l' h' a b).lo)).far (p := ⟨w5.heap.size, 1, none⟩) (by first | (simp; done) | (simp; omega) | omega) (.int .i64 (Iv.sub l' h' a b).hi))
    replace Z := ((Z.far (p := ⟨w5.heap.size, 0, none⟩) (by first | (simp; done) | (simp; omega) | omega) (.int .i64 (Iv.sub l' h' a b).lo)).far (p := ⟨w5.heap.size, 1, none⟩) (by first | (simp; done) | (simp; omega) | omega) (.int .i64 (Iv.sub l' h' a b).hi))
    replace M := ((M.far (p := ⟨w5.heap.size, 0, none⟩) (by first | (simp; done) | (simp; omega) | omega) (.int .i64 (Iv.sub l' h' a b).lo)).far (p := ⟨w5.heap.size, 1, none⟩) (by first | (simp; done) | (simp; omega) | omega) (.int .i64 (Iv.sub l' h' a b).hi))
    replace B := ((B.far (p := ⟨w5.heap.size, 0, none⟩) (by first | (simp; done) | (simp; omega) | omega) (.int .i64 (Iv.sub l' h' a b).lo)).far (p := ⟨w5.heap.size, 1, none⟩) (by first | (simp; done) | (simp; omega) | omega) (.int .i64 (Iv.sub l' h' a b).hi))
    replace hB := (bst (bst hB (p := ⟨w5.heap.size, 0, none⟩) (by first | (simp; done) | (simp; omega) | omega) (.int .i64 (Iv.sub l' h' a b).lo)) (p := ⟨w5.heap.size, 1, none⟩) (by first | (simp; done) | (simp; omega) | omega) (.int .i64 (Iv.sub l' h' a b).hi))
    replace A := ((A.set_ 0 (.int .i64 (Iv.sub l' h' a b).lo)).set_ 1 (.int .i64 (Iv.sub l' h' a b).hi))
    simp only [List.setIfInBounds_toArray, List.set_cons_zero, List.set_cons_succ] at A
    obtain ⟨c00, c01, c02, c03⟩ := Y.open2
    obtain ⟨c10, c11, c12, c13⟩ := X.open2
    obtain ⟨c20, c21, c22, c23⟩ := B.open2
    go_wp2_with fail
    refine (sub_ci _ _ _ _ _).mono ?_
    rw [e2.out]
    rintro e w10 ⟨rfl, hb⟩
    clear s0 s1 s2 s3
    clear c00 c01 c02 c03 c10 c11 c12 c13 c20 c21 c22 c23
    replace X := X.keep hb
    replace Y := Y.keep hb
    replace Z := Z.keep hb
    replace M := M.keep hb
    replace A := A.keep hb
    replace B := B.keep hb
    replace hB := bt hB hb
    clear hb
    obtain ⟨s0, s1, s2, s3⟩ := B.open2
    replace X := ((X.far (p := ⟨w6.heap.size, 0, none⟩) (by first | (simp; done) | (simp; omega) | omega) (.int .i64 (Iv.sub l' h' l h).lo)).far (p := ⟨w6.heap.size, 1, none⟩) (by first | (simp; done) | (simp; omega) | omega) (.int .i64 (Iv.sub l' h' l h).hi))
    replace Y := ((Y.far (p := ⟨w6.heap.size, 0, none⟩) (by first | (simp; done) | (simp; omega) | omega) (.int .i64 (Iv.sub l' h' l h).lo)).far (p := ⟨w6.heap.size, 1, none⟩) (by first | (simp; done) | (simp; omega) | omega) (.int .i64 (Iv.sub l' h' l h).hi))
    replace Z := ((Z.far (p := ⟨w6.heap.size, 0, none⟩) (by first | (simp; done) | (simp; omega) | omega) (.int .i64 (Iv.sub l' h' l h).lo)).far (p := ⟨w6.heap.size, 1, none⟩) (by first | (simp; done) | (simp; omega) | omega) (.int .i64 (Iv.sub l' h' l h).hi))
    replace M := ((M.far (p := ⟨w6.heap.size, 0, none⟩) (by first | (simp; done) | (simp; omega) | omega) (.int .i64 (Iv.sub l' h' l h).lo)).far (p := ⟨w6.heap.size, 1, none⟩) (by first | (simp; done) | (simp; omega) | omega) (.int .i64 (Iv.sub l' h' l h).hi))
    replace A := ((A.far (p := ⟨w6.heap.size, 0, none⟩) (by first | (simp; done) | (simp; omega) | omega) (.int .i64 (Iv.sub l' h' l h).lo)).far (p := ⟨w6.heap.size, 1, none⟩) (by first | (simp; done) | (simp; omega) | omega) (.int .i64 (Iv.sub l' h' l h).hi))
    replace hB := (bst (bst hB (p := ⟨w6.heap.size, 0, none⟩) (by first | (simp; done) | (simp; omega) | omega) (.int .i64 (Iv.sub l' h' l h).lo)) (p := ⟨w6.heap.size, 1, none⟩) (by first | (simp; done) | (simp; omega) | omega) (.int .i64 (Iv.sub l' h' l h).hi))
    replace B := ((B.set_ 0 (.int .i64 (Iv.sub l' h' l h).lo)).set_ 1 (.int .i64 (Iv.sub l' h' l h).hi))
    simp only [List.setIfInBounds_toArray, List.set_cons_zero, List.set_cons_succ] at B
    obtain ⟨c00, c01, c02, c03⟩ := A.open2
    obtain ⟨c10, c11, c12, c13⟩ := B.open2
    go_wp2_with fail
    refine (within_c _ _ _ _ _).mono ?_
    rw [N2.out.2]
    rintro e w11 ⟨rfl, hb⟩
    clear s0 s1 s2 s3
    clear c00 c01 c02 c03 c10 c11 c12 c13
    replace X := X.keep hb
    replace Y := Y.keep hb
    replace Z := Z.keep hb
    replace M := M.keep hb
    replace A := A.keep hb
    replace B := B.keep hb
    replace hB := bt hB hb
    clear hb
    go_wp2_with fail
    go_returns
    exact ⟨rfl, hB⟩
  · obtain ⟨m0, hm0⟩ : ∃ m, Hid ((Iv.mul l h l' h').er = m) := ⟨_, Lib.hid rfl⟩
    rw [hm0.out] at e0
    have k0 : (m0 == 0) = false := by simpa using e0
    have kk0 : (m0 != 0) = true := by simpa using e0
    clear e0
    obtain ⟨m1, hm1⟩ : ∃ m, Hid ((Iv.quo l h l' h').er = m) := ⟨_, Lib.hid rfl⟩
    rw [hm1.out] at e1
    have k1 : (m1 == 0) = false := by simpa using e1
    have kk1 : (m1 != 0) = true := by simpa using e1
    clear e1
    obtain ⟨m2, hm2⟩ : ∃ m, Hid ((Iv.sub l' h' l h).er = m) := ⟨_, Lib.hid rfl⟩
    rw [hm2.out] at e2
    have k2 : (m2 == 0) = false := by simpa using e2
    have kk2 : (m2 != 0) = true := by simpa using e2
    clear e2
    clear vw a1 a2 a3 a4
    go_enter Try.func7, Try.ntmps7
    have X := Blk.new w 23 #[.int .i64 (l), .int .i64 (h)]
    have hB := ba w (.cells #[.int .i64 (l), .int .i64 (h)] 23)
    have Y := Blk.new1 w (.cells #[.int .i64 (l), .int .i64 (h)] 23) 23 #[.int .i64 (l'), .int .i64 (h')]
    replace X := X.alloc (.cells #[.int .i64 (l'), .int .i64 (h')] 23)
    replace hB := bal hB (.cells #[.int .i64 (l'), .int .i64 (h')] 23)
    have Z := Blk.new2 w (.cells #[.int .i64 (l), .int .i64 (h)] 23) (.cells #[.int .i64 (l'), .int .i64 (h')] 23) 23 #[.int .i64 (p), .int .i64 (q)]
    replace X := X.alloc (.cells #[.int .i64 (p), .int .i64 (q)] 23)
    replace Y := Y.alloc (.cells #[.int .i64 (p), .int .i64 (q)] 23)
    replace hB := bal hB (.cells #[.int .i64 (p), .int .i64 (q)] 23)
    go_wp2_with fail
    refine (awake_ci _).mono ?_
    rintro e w1 ⟨rfl, hb⟩
    replace X := X.keep hb
    replace Y := Y.keep hb
    replace Z := Z.keep hb
    replace hB := bt hB hb
    clear hb
    obtain ⟨c00, c01, c02, c03⟩ := X.open2
    obtain ⟨c10, c11, c12, c13⟩ := Z.open2
    go_wp2_with fail
    refine (meet_ci _ _ _ _ _).mono ?_
    rw [hm.out.1, hm.out.2.1, hm.out.2.2]
    rintro e w2 ⟨rfl, hb⟩
    clear c00 c01 c02 c03 c10 c11 c12 c13
    replace X := X.keep hb
    replace Y := Y.keep hb
    replace Z := Z.keep hb
    replace hB := bt hB hb
    clear hb
    have hz2 := hB.size
    have l2X := X.lt
    have l2Y := Y.lt
    have l2Z := Z.lt
    replace X := X.alloc (.cells #[.int .i64 a, .int .i64 b] 23)
    replace Y := Y.alloc (.cells #[.int .i64 a, .int .i64 b] 23)
    replace Z := Z.alloc (.cells #[.int .i64 a, .int .i64 b] 23)
    replace hB := bal hB (.cells #[.int .i64 a, .int .i64 b] 23)
    have M := Blk.new w2 23 #[.int .i64 a, .int .i64 b]
    obtain ⟨c00, c01, c02, c03⟩ := M.open2
    obtain ⟨c10, c11, c12, c13⟩ := X.open2
    go_wp2_with fail
    refine (within_c _ _ _ _ _).mono ?_
    rw [y1.out]
    rintro e w3 ⟨rfl, hb⟩
    clear c00 c01 c02 c03 c10 c11 c12 c13
    replace X := X.keep hb
    replace Y := Y.keep hb
    replace Z := Z.keep hb
    replace M := M.keep hb
    replace hB := bt hB hb
    clear hb
    obtain ⟨c00, c01, c02, c03⟩ := M.open2
    obtain ⟨c10, c11, c12, c13⟩ := Z.open2
    go_wp2_with fail
    refine (within_c _ _ _ _ _).mono ?_
    rw [y2.out]
    rintro e w4 ⟨rfl, hb⟩
    clear c00 c01 c02 c03 c10 c11 c12 c13
    replace X := X.keep hb
    replace Y := Y.keep hb
    replace Z := Z.keep hb
    replace M := M.keep hb
    replace hB := bt hB hb
    clear hb
    obtain ⟨c00, c01, c02, c03⟩ := M.open2
    obtain ⟨c10, c11, c12, c13⟩ := Y.open2
    go_wp2_with fail
    refine (mul_ci _ _ _ _ _).mono ?_
    rintro e w5 ⟨rfl, hb⟩
    clear c00 c01 c02 c03 c10 c11 c12 c13
    replace X := X.keep hb
    replace Y := Y.keep hb
    replace Z := Z.keep hb
    replace M := M.keep hb
    replace hB := bt hB hb
    clear hb
    have hz5 := hB.size
    have l5X := X.lt
    have l5Y := Y.lt
    have l5Z := Z.lt
    have l5M := M.lt
    replace X := X.alloc (.cells #[.int .i64 (Iv.mul a b l' h').lo, .int .i64 (Iv.mul a b l' h').hi] 23)
    replace Y := Y.alloc (.cells #[.int .i64 (Iv.mul a b l' h').lo, .int .i64 (Iv.mul a b l' h').hi] 23)
    replace Z := Z.alloc (.cells #[.int .i64 (Iv.mul a b l' h').lo, .int .i64 (Iv.mul a b l' h').hi] 23)
    replace M := M.alloc (.cells #[.int .i64 (Iv.mul a b l' h').lo, .int .i64 (Iv.mul a b l' h').hi] 23)
    replace hB := bal hB (.cells #[.int .i64 (Iv.mul a b l' h').lo, .int .i64 (Iv.mul a b l' h').hi] 23)
    have A := Blk.new w5 23 #[.int .i64 (Iv.mul a b l' h').lo, .int .i64 (Iv.mul a b l' h').hi]
    obtain ⟨c00, c01, c02, c03⟩ := X.open2
    obtain ⟨c10, c11, c12, c13⟩ := Y.open2
    obtain ⟨c20, c21, c22, c23⟩ := A.open2
    go_wp2_with fail
    refine (mul_ci _ _ _ _ _).mono ?_
    rw [hm0.out]
    rintro e w6 ⟨rfl, hb⟩
    clear c00 c01 c02 c03 c10 c11 c12 c13 c20 c21 c22 c23
    replace X := X.keep hb
    replace Y := Y.keep hb
    replace Z := Z.keep hb
    replace M := M.keep hb
    replace A := A.keep hb
    replace hB := bt hB hb
    clear hb
    have hz6 := hB.size
    have l6X := X.lt
    have l6Y := Y.lt
    have l6Z := Z.lt
    have l6M := M.lt
    have l6A := A.lt
    replace X := X.alloc (.cells #[.int .i64 (Iv.mul l h l' h').lo, .int .i64 (Iv.mul l h l' h').hi] 23)
    replace Y := Y.alloc (.cells #[.int .i64 (Iv.mul l h l' h').lo, .int .i64 (Iv.mul l h l' h').hi] 23)
    replace Z := Z.alloc (.cells #[.int .i64 (Iv.mul l h l' h').lo, .int .i64 (Iv.mul l h l' h').hi] 23)
    replace M := M.alloc (.cells #[.int .i64 (Iv.mul l h l' h').lo, .int .i64 (Iv.mul l h l' h').hi] 23)
    replace A := A.alloc (.cells #[.int .i64 (Iv.mul l h l' h').lo, .int .i64 (Iv.mul l h l' h').hi] 23)
    replace hB := bal hB (.cells #[.int .i64 (Iv.mul l h l' h').lo, .int .i64 (Iv.mul l h l' h').hi] 23)
    have B := Blk.new w6 23 #[.int .i64 (Iv.mul l h l' h').lo, .int .i64 (Iv.mul l h l' h').hi]
    obtain ⟨c00, c01, c02, c03⟩ := M.open2
    obtain ⟨c10, c11, c12, c13⟩ := Y.open2
    obtain ⟨c20, c21, c22, c23⟩ := A.open2
    obtain ⟨c30, c31, c32, c33⟩ := B.open2
    go_wp2_with fail
    refine (quo_ci _ _ _ _ _).mono ?_
    rintro e w7 ⟨rfl, hb⟩
    clear c00 c01 c02 c03 c10 c11 c12 c13 c20 c21 c22 c23 c30 c31 c32 c33
    replace X := X.keep hb
    replace Y := Y.keep hb
    replace Z := Z.keep hb
    replace M := M.keep hb
    replace A := A.keep hb
    replace B := B.keep hb
    replace hB := bt hB hb
    clear hb
    obtain ⟨s0, s1, s2, s3⟩ := A.open2
    replace X := ((X.far (p := ⟨w5.heap.size, 0, none⟩) (by first | (simp; done) | (simp; omega) | omega) (.int .i64 (Iv.quo a b l' h').lo)).far (p := ⟨w5.heap.size, 1, none⟩) (by first | (simp; done) | (simp; omega) | omega) (.int .i64 (Iv.quo a b l' h').hi))
    replace Y := ((Y.far (p := ⟨w5.heap.size, 0, none⟩) (by first | (simp; done) | (simp; omega) | omega) (.int .i64 (Iv.quo a b l' h').lo)).far (p := ⟨w5.heap.size, 1, none⟩) (by first | (simp; done) | (simp; omega) | omega) (.int .i64 (Iv.quo a b l' h').hi))
    replace Z := ((Z.far (p := ⟨w5.heap.size, 0, none⟩) (by first | (simp; done) | (simp; omega) | omega) (.int .i64 (Iv.quo a b l' h').lo)).far (p := ⟨w5.heap.size, 1, none⟩) (by first | (simp; done) | (simp; omega) | omega) (.int .i64 (Iv.quo a b l' h').hi))
    replace M := ((M.far (p := ⟨w5.heap.size, 0, none⟩) (by first | (simp; done) | (simp; omega) | omega) (.int .i64 (Iv.quo a b l' h').lo)).far (p := ⟨w5.heap.size, 1, none⟩) (by first | (simp; done) | (simp; omega) | omega) (.int .i64 (Iv.quo a b l' h').hi))
    replace B := ((B.far (p := ⟨w5.heap.size, 0, none⟩) (by first | (simp; done) | (simp; omega) | omega) (.int .i64 (Iv.quo a b l' h').lo)).far (p := ⟨w5.heap.size, 1, none⟩) (by first | (simp; done) | (simp; omega) | omega) (.int .i64 (Iv.quo a b l' h').hi))
    replace hB := (bst (bst hB (p := ⟨w5.heap.size, 0, none⟩) (by first | (simp; done) | (simp; omega) | omega) (.int .i64 (Iv.quo a b l' h').lo)) (p := ⟨w5.heap.size, 1, none⟩) (by first | (simp; done) | (simp; omega) | omega) (.int .i64 (Iv.quo a b l' h').hi))
    replace A := ((A.set_ 0 (.int .i64 (Iv.quo a b l' h').lo)).set_ 1 (.int .i64 (Iv.quo a b l' h').hi))
    simp only [List.setIfInBounds_toArray, List.set_cons_zero, List.set_cons_succ] at A
    obtain ⟨c00, c01, c02, c03⟩ := X.open2
    obtain ⟨c10, c11, c12, c13⟩ := Y.open2
    obtain ⟨c20, c21, c22, c23⟩ := B.open2
    go_wp2_with fail
    refine (quo_ci _ _ _ _ _).mono ?_
    rw [hm1.out]
    rintro e w8 ⟨rfl, hb⟩
    clear s0 s1 s2 s3
    clear c00 c01 c02 c03 c10 c11 c12 c13 c20 c21 c22 c23
    replace X := X.keep hb
    replace Y := Y.keep hb
    replace Z := Z.keep hb
    replace M := M.keep hb
    replace A := A.keep hb
    replace B := B.keep hb
    replace hB := bt hB hb
    clear hb
    obtain ⟨s0, s1, s2, s3⟩ := B.open2
    replace X := ((X.far (p := ⟨w6.heap.size, 0, none⟩) (by first | (simp; done) | (simp; omega) | omega) (.int .i64 (Iv.quo l h l' h').lo)).far (p := ⟨w6.heap.size, 1, none⟩) (by first | (simp; done) | (simp; omega) | omega) (.int .i64 (Iv.quo l h l' h').hi))
    replace Y := ((Y.far (p := ⟨w6.heap.size, 0, none⟩) (by first | (simp; done) | (simp; omega) | omega) (.int .i64 (Iv.quo l h l' h').lo)).far (p := ⟨w6.heap.size, 1, none⟩) (by first | (simp; done) | (simp; omega) | omega) (.int .i64 (Iv.quo l h l' h').hi))
    replace Z := ((Z.far (p := ⟨w6.heap.size, 0, none⟩) (by first | (simp; done) | (simp; omega) | omega) (.int .i64 (Iv.quo l h l' h').lo)).far (p := ⟨w6.heap.size, 1, none⟩) (by first | (simp; done) | (simp; omega) | omega) (.int .i64 (Iv.quo l h l' h').hi))
    replace M := ((M.far (p := ⟨w6.heap.size, 0, none⟩) (by first | (simp; done) | (simp; omega) | omega) (.int .i64 (Iv.quo l h l' h').lo)).far (p := ⟨w6.heap.size, 1, none⟩) (by first | (simp; done) | (simp; omega) | omega) (.int .i64 (Iv.quo l h l' h').hi))
    replace A := ((A.far (p := ⟨w6.heap.size, 0, none⟩) (by first | (simp; done) | (simp; omega) | omega) (.int .i64 (Iv.quo l h l' h').lo)).far (p := ⟨w6.heap.size, 1, none⟩) (by first | (simp; done) | (simp; omega) | omega) (.int .i64 (Iv.quo l h l' h').hi))
    replace hB := (bst (bst hB (p := ⟨w6.heap.size, 0, none⟩) (by first | (simp; done) | (simp; omega) | omega) (.int .i64 (Iv.quo l h l' h').lo)) (p := ⟨w6.heap.size, 1, none⟩) (by first | (simp; done) | (simp; omega) | omega) (.int .i64 (Iv.quo l h l' h').hi))
    replace B := ((B.set_ 0 (.int .i64 (Iv.quo l h l' h').lo)).set_ 1 (.int .i64 (Iv.quo l h l' h').hi))
    simp only [List.setIfInBounds_toArray, List.set_cons_zero, List.set_cons_succ] at B
    obtain ⟨c00, c01, c02, c03⟩ := Y.open2
    obtain ⟨c10, c11, c12, c13⟩ := M.open2
    obtain ⟨c20, c21, c22, c23⟩ := A.open2
    obtain ⟨c30, c31, c32, c33⟩ := B.open2
    go_wp2_with fail
    refine (sub_ci _ _ _ _ _).mono ?_
    rintro e w9 ⟨rfl, hb⟩
    clear s0 s1 s2 s3
    clear c00 c01 c02 c03 c10 c11 c12 c13 c20 c21 c22 c23 c30 c31 c32 c33
    replace X := X.keep hb
    replace Y := Y.keep hb
    replace Z := Z.keep hb
    replace M := M.keep hb
    replace A := A.keep hb
    replace B := B.keep hb
    replace hB := bt hB hb
    clear hb
    obtain ⟨s0, s1, s2, s3⟩ := A.open2
    replace X := ((X.far (p := ⟨w5.heap.size, 0, none⟩) (by first | (simp; done) | (simp; omega) | omega) (.int .i64 (Iv.sub l' h' a b).lo)).far (p := ⟨w5.heap.size, 1, none⟩) (by first | (simp; done) | (simp; omega) | omega) (.int .i64 (Iv.sub l' h' a b).hi))
    replace Y := ((Y.far (p := ⟨w5.heap.size, 0, none⟩) (by first | (simp; done) | (simp; omega) | omega) (.int .i64 (Iv.sub l' h' a b).lo)).far (p := ⟨w5.heap.size, 1, none⟩) (by first | (simp; done) | (simp; omega) | omega) (.int .i64 (Iv.sub l' h' a b).hi))
    replace Z := ((Z.far (p := ⟨w5.heap.size, 0, none⟩) (by first | (simp; done) | (simp; omega) | omega) (.int .i64 (Iv.sub l' h' a b).lo)).far (p := ⟨w5.heap.size, 1, none⟩) (by first | (simp; done) | (simp; omega) | omega) (.int .i64 (Iv.sub l' h' a b).hi))
    replace M := ((M.far (p := ⟨w5.heap.size, 0, none⟩) (by first | (simp; done) | (simp; omega) | omega) (.int .i64 (Iv.sub l' h' a b).lo)).far (p := ⟨w5.heap.size, 1, none⟩) (by first | (simp; done) | (simp; omega) | omega) (.int .i64 (Iv.sub l' h' a b).hi))
    replace B := ((B.far (p := ⟨w5.heap.size, 0, none⟩) (by first | (simp; done) | (simp; omega) | omega) (.int .i64 (Iv.sub l' h' a b).lo)).far (p := ⟨w5.heap.size, 1, none⟩) (by first | (simp; done) | (simp; omega) | omega) (.int .i64 (Iv.sub l' h' a b).hi))
    replace hB := (bst (bst hB (p := ⟨w5.heap.size, 0, none⟩) (by first | (simp; done) | (simp; omega) | omega) (.int .i64 (Iv.sub l' h' a b).lo)) (p := ⟨w5.heap.size, 1, none⟩) (by first | (simp; done) | (simp; omega) | omega) (.int .i64 (Iv.sub l' h' a b).hi))
    replace A := ((A.set_ 0 (.int .i64 (Iv.sub l' h' a b).lo)).set_ 1 (.int .i64 (Iv.sub l' h' a b).hi))
    simp only [List.setIfInBounds_toArray, List.set_cons_zero, List.set_cons_succ] at A
    obtain ⟨c00, c01, c02, c03⟩ := Y.open2
    obtain ⟨c10, c11, c12, c13⟩ := X.open2
    obtain ⟨c20, c21, c22, c23⟩ := B.open2
    go_wp2_with fail
    refine (sub_ci _ _ _ _ _).mono ?_
    rw [hm2.out]
    rintro e w10 ⟨rfl, hb⟩
    clear s0 s1 s2 s3
    clear c00 c01 c02 c03 c10 c11 c12 c13 c20 c21 c22 c23
    replace X := X.keep hb
    replace Y := Y.keep hb
    replace Z := Z.keep hb
    replace M := M.keep hb
    replace A := A.keep hb
    replace B := B.keep hb
    replace hB := bt hB hb
    clear hb
    obtain ⟨s0, s1, s2, s3⟩ := B.open2
    replace X := ((X.far (p := ⟨w6.heap.size, 0, none⟩) (by first | (simp; done) | (simp; omega) | omega) (.int .i64 (Iv.sub l' h' l h).lo)).far (p := ⟨w6.heap.size, 1, none⟩) (by first | (simp; done) | (simp; omega) | omega) (.int .i64 (Iv.sub l' h' l h).hi))
    replace Y := ((Y.far (p := ⟨w6.heap.size, 0, none⟩) (by first | (simp; done) | (simp; omega) | omega) (.int .i64 (Iv.sub l' h' l h).lo)).far (p := ⟨w6.heap.size, 1, none⟩) (by first | (simp; done) | (simp; omega) | omega) (.int .i64 (Iv.sub l' h' l h).hi))
    replace Z := ((Z.far (p := ⟨w6.heap.size, 0, none⟩) (by first | (simp; done) | (simp; omega) | omega) (.int .i64 (Iv.sub l' h' l h).lo)).far (p := ⟨w6.heap.size, 1, none⟩) (by first | (simp; done) | (simp; omega) | omega) (.int .i64 (Iv.sub l' h' l h).hi))
    replace M := ((M.far (p := ⟨w6.heap.size, 0, none⟩) (by first | (simp; done) | (simp; omega) | omega) (.int .i64 (Iv.sub l' h' l h).lo)).far (p := ⟨w6.heap.size, 1, none⟩) (by first | (simp; done) | (simp; omega) | omega) (.int .i64 (Iv.sub l' h' l h).hi))
    replace A := ((A.far (p := ⟨w6.heap.size, 0, none⟩) (by first | (simp; done) | (simp; omega) | omega) (.int .i64 (Iv.sub l' h' l h).lo)).far (p := ⟨w6.heap.size, 1, none⟩) (by first | (simp; done) | (simp; omega) | omega) (.int .i64 (Iv.sub l' h' l h).hi))
    replace hB := (bst (bst hB (p := ⟨w6.heap.size, 0, none⟩) (by first | (simp; done) | (simp; omega) | omega) (.int .i64 (Iv.sub l' h' l h).lo)) (p := ⟨w6.heap.size, 1, none⟩) (by first | (simp; done) | (simp; omega) | omega) (.int .i64 (Iv.sub l' h' l h).hi))
    replace B := ((B.set_ 0 (.int .i64 (Iv.sub l' h' l h).lo)).set_ 1 (.int .i64 (Iv.sub l' h' l h).hi))
    simp only [List.setIfInBounds_toArray, List.set_cons_zero, List.set_cons_succ] at B
    go_wp2_with fail
    go_returns
    exact ⟨rfl, hB⟩
end Go.Proofs.Ytclohghongpfkaa
