/-
  Contracts: the reference's product.
-/
import Derived.Test.YtclohghongpfkaaI7
namespace Go.Proofs.Ytclohghongpfkaa
set_option linter.unusedVariables false
set_option linter.unusedSimpArgs false
open Go.RowKit

set_option maxRecDepth 100000 in
set_option maxHeartbeats 4000000 in
theorem rmul_ci (l h l' h' : Int) (w : World) : Calls Try.prog 15 #[.agg #[.int .i64 l, .int .i64 h], .agg #[.int .i64 l', .int .i64 h']] w fun e w' =>
    e = .returned (.tuple #[.agg #[.int .i64 (Iv.mul l h l' h').lo, .int .i64 (Iv.mul l h l' h').hi], .int .i64 (Iv.mul l h l' h').er]) ∧ Below w.heap.size w w' := by
  unfold Iv.mul
  by_cases v : Iv.Vd l h
  rotate_left
  · rw [if_neg (by rintro ⟨q1, q2⟩; exact v q1)]
    have e1 := Lib.hid (Iv.vb_no v)
    clear v
    go_enter Try.func15, Try.ntmps15
    have X := Blk.new w 23 #[.int .i64 (l), .int .i64 (h)]
    have hB := ba w (.cells #[.int .i64 (l), .int .i64 (h)] 23)
    have Y := Blk.new1 w (.cells #[.int .i64 (l), .int .i64 (h)] 23) 23 #[.int .i64 (l'), .int .i64 (h')]
    replace X := X.alloc (.cells #[.int .i64 (l'), .int .i64 (h')] 23)
    replace hB := bal hB (.cells #[.int .i64 (l'), .int .i64 (h')] 23)
    have R := Blk.new2 w (.cells #[.int .i64 (l), .int .i64 (h)] 23) (.cells #[.int .i64 (l'), .int .i64 (h')] 23) 23 #[.int .i64 (0), .int .i64 (0)]
    replace X := X.alloc (.cells #[.int .i64 (0), .int .i64 (0)] 23)
    replace Y := Y.alloc (.cells #[.int .i64 (0), .int .i64 (0)] 23)
    replace hB := bal hB (.cells #[.int .i64 (0), .int .i64 (0)] 23)
    obtain ⟨c00, c01, c02, c03⟩ := X.open2
    go_wp2_with fail
    refine (rvalid_c _ _ _).mono ?_
    rw [e1.out]
    rintro e w1 ⟨rfl, hb⟩
    clear c00 c01 c02 c03
    replace X := X.keep hb
    replace Y := Y.keep hb
    replace R := R.keep hb
    replace hB := bt hB hb
    clear hb
    obtain ⟨r00, r01, r02, r03⟩ := R.open2
    go_wp2_with fail
    refine bodyPost_ret (by simp [results, Try.results15, go_sem, r00, r01, r02, r03]; try rfl) rfl ?_
    exact ⟨rfl, by repeat (first | exact Below.refl _ _ | (with_reducible assumption) | (with_reducible apply bal) | (with_reducible apply bdr) | (with_reducible apply bdnl) | (with_reducible refine bst ?_ (by first | (simp; done) | (simp; omega) | omega) _) | (with_reducible refine bt ?_ (by with_reducible assumption)))⟩
  by_cases v2 : Iv.Vd l' h'
  rotate_left
  · rw [if_neg (by rintro ⟨q1, q2⟩; exact v2 q2)]
    have e1 := Lib.hid (Iv.vb_yes v)
    have e2 := Lib.hid (Iv.vb_no v2)
    clear v v2
    go_enter Try.func15, Try.ntmps15
    have X := Blk.new w 23 #[.int .i64 (l), .int .i64 (h)]
    have hB := ba w (.cells #[.int .i64 (l), .int .i64 (h)] 23)
    have Y := Blk.new1 w (.cells #[.int .i64 (l), .int .i64 (h)] 23) 23 #[.int .i64 (l'), .int .i64 (h')]
    replace X := X.alloc (.cells #[.int .i64 (l'), .int .i64 (h')] 23)
    replace hB := bal hB (.cells #[.int .i64 (l'), .int .i64 (h')] 23)
    have R := Blk.new2 w (.cells #[.int .i64 (l), .int .i64 (h)] 23) (.cells #[.int .i64 (l'), .int .i64 (h')] 23) 23 #[.int .i64 (0), .int .i64 (0)]
    replace X := X.alloc (.cells #[.int .i64 (0), .int .i64 (0)] 23)
    replace Y := Y.alloc (.cells #[.int .i64 (0), .int .i64 (0)] 23)
    replace hB := bal hB (.cells #[.int .i64 (0), .int .i64 (0)] 23)
    obtain ⟨c00, c01, c02, c03⟩ := X.open2
    go_wp2_with fail
    refine (rvalid_c _ _ _).mono ?_
    rw [e1.out]
    rintro e w1 ⟨rfl, hb⟩
    clear c00 c01 c02 c03
    replace X := X.keep hb
    replace Y := Y.keep hb
    replace R := R.keep hb
    replace hB := bt hB hb
    clear hb
    obtain ⟨c00, c01, c02, c03⟩ := Y.open2
    go_wp2_with fail
    refine (rvalid_c _ _ _).mono ?_
    rw [e2.out]
    rintro e w2 ⟨rfl, hb⟩
    clear c00 c01 c02 c03
    replace X := X.keep hb
    replace Y := Y.keep hb
    replace R := R.keep hb
    replace hB := bt hB hb
    clear hb
    obtain ⟨r00, r01, r02, r03⟩ := R.open2
    go_wp2_with fail
    refine bodyPost_ret (by simp [results, Try.results15, go_sem, r00, r01, r02, r03]; try rfl) rfl ?_
    exact ⟨rfl, by repeat (first | exact Below.refl _ _ | (with_reducible assumption) | (with_reducible apply bal) | (with_reducible apply bdr) | (with_reducible apply bdnl) | (with_reducible refine bst ?_ (by first | (simp; done) | (simp; omega) | omega) _) | (with_reducible refine bt ?_ (by with_reducible assumption)))⟩
  rw [if_pos ⟨v, v2⟩]
  have e1 := Lib.hid (Iv.vb_yes v)
  have e2 := Lib.hid (Iv.vb_yes v2)
  have x1 : -9223372036854775808 ≤ l := by unfold Iv.Vd at *; omega
  have x2 : l ≤ 9223372036854775807 := by unfold Iv.Vd at *; omega
  have xx1 : -9223372036854775808 ≤ h := by unfold Iv.Vd at *; omega
  have xx2 : h ≤ 9223372036854775807 := by unfold Iv.Vd at *; omega
  have y1 : -9223372036854775808 ≤ l' := by unfold Iv.Vd at *; omega
  have y2 : l' ≤ 9223372036854775807 := by unfold Iv.Vd at *; omega
  have yy1 : -9223372036854775808 ≤ h' := by unfold Iv.Vd at *; omega
  have yy2 : h' ≤ 9223372036854775807 := by unfold Iv.Vd at *; omega
  have m1 := mul_W x1 x2 y1 y2
  have m2 := mul_W x1 x2 yy1 yy2
  have m3 := mul_W xx1 xx2 y1 y2
  have m4 := mul_W xx1 xx2 yy1 yy2
  clear v v2
  rw [← mn_four, ← mx_four]
  go_enter Try.func15, Try.ntmps15
  have X := Blk.new w 23 #[.int .i64 (l), .int .i64 (h)]
  have hB := ba w (.cells #[.int .i64 (l), .int .i64 (h)] 23)
  have Y := Blk.new1 w (.cells #[.int .i64 (l), .int .i64 (h)] 23) 23 #[.int .i64 (l'), .int .i64 (h')]
  replace X := X.alloc (.cells #[.int .i64 (l'), .int .i64 (h')] 23)
  replace hB := bal hB (.cells #[.int .i64 (l'), .int .i64 (h')] 23)
  have R := Blk.new2 w (.cells #[.int .i64 (l), .int .i64 (h)] 23) (.cells #[.int .i64 (l'), .int .i64 (h')] 23) 23 #[.int .i64 (0), .int .i64 (0)]
  replace X := X.alloc (.cells #[.int .i64 (0), .int .i64 (0)] 23)
  replace Y := Y.alloc (.cells #[.int .i64 (0), .int .i64 (0)] 23)
  replace hB := bal hB (.cells #[.int .i64 (0), .int .i64 (0)] 23)
  obtain ⟨c00, c01, c02, c03⟩ := X.open2
  go_wp2_with fail
  refine (rvalid_c _ _ _).mono ?_
  rw [e1.out]
  rintro e w1 ⟨rfl, hb⟩
  clear c00 c01 c02 c03
  replace X := X.keep hb
  replace Y := Y.keep hb
  replace R := R.keep hb
  replace hB := bt hB hb
  clear hb
  obtain ⟨c00, c01, c02, c03⟩ := Y.open2
  go_wp2_with fail
  refine (rvalid_c _ _ _).mono ?_
  rw [e2.out]
  rintro e w2 ⟨rfl, hb⟩
  clear c00 c01 c02 c03
  replace X := X.keep hb
  replace Y := Y.keep hb
  replace R := R.keep hb
  replace hB := bt hB hb
  clear hb
  go_wp2_with fail
  refine wp_region_inv (fun L x G wx => Below w.heap.size w wx
        ∧ w.heap.size < wx.heap.size
        ∧ Blk wx (w.heap.size) 23 #[.int .i64 (l), .int .i64 (h)]
        ∧ w.heap.size + 1 < wx.heap.size
        ∧ Blk wx (w.heap.size + 1) 23 #[.int .i64 (l'), .int .i64 (h')]
        ∧ w.heap.size + 1 + 1 < wx.heap.size
        ∧ (¬ L 24 → Blk wx (w.heap.size + 1 + 1) 23 #[.int .i64 (0), .int .i64 (0)])
        ∧ (L 24 → Blk wx (w.heap.size + 1 + 1) 23 #[.int .i64 ((Iv.rs (Iv.mnU (four (l * l') (l * h') (h * l') (h * h')) 4) (Iv.mxU (four (l * l') (l * h') (h * l') (h * h')) 4)).lo), .int .i64 ((Iv.rs (Iv.mnU (four (l * l') (l * h') (h * l') (h * h')) 4) (Iv.mxU (four (l * l') (l * h') (h * l') (h * h')) 4)).hi)])
        ∧ (L 20 → w.heap.size ≤ G 20 ∧ G 20 < wx.heap.size ∧ w.heap.size ≠ G 20 ∧ w.heap.size + 1 ≠ G 20 ∧ w.heap.size + 1 + 1 ≠ G 20)
        ∧ (L 20 → Blk wx (G 20) 40 #[.int .i64 (Wi.Hq (l * l')), .int .u64 (Wi.Lr (l * l')), .int .i64 (Wi.Hq (l * h')), .int .u64 (Wi.Lr (l * h')), .int .i64 (Wi.Hq (h * l')), .int .u64 (Wi.Lr (h * l')), .int .i64 (Wi.Hq (h * h')), .int .u64 (Wi.Lr (h * h'))])
        ∧ (L 0 → x 15 = .pointer (some ⟨w.heap.size, 0, none⟩))
        ∧ (L 1 → x 16 = .int .i64 (l))
        ∧ (L 2 → x 17 = .pointer (some ⟨w.heap.size + 1, 0, none⟩))
        ∧ (L 3 → x 18 = .int .i64 (l'))
        ∧ (L 4 → x 19 = .agg #[.int .i64 (Wi.Hq (l * l')), .int .u64 (Wi.Lr (l * l'))])
        ∧ (L 5 → x 20 = .pointer (some ⟨w.heap.size, 0, none⟩))
        ∧ (L 6 → x 21 = .int .i64 (l))
        ∧ (L 7 → x 22 = .pointer (some ⟨w.heap.size + 1, 1, none⟩))
        ∧ (L 8 → x 23 = .int .i64 (h'))
        ∧ (L 9 → x 24 = .agg #[.int .i64 (Wi.Hq (l * h')), .int .u64 (Wi.Lr (l * h'))])
        ∧ (L 10 → x 25 = .pointer (some ⟨w.heap.size, 1, none⟩))
        ∧ (L 11 → x 26 = .int .i64 (h))
        ∧ (L 12 → x 27 = .pointer (some ⟨w.heap.size + 1, 0, none⟩))
        ∧ (L 13 → x 28 = .int .i64 (l'))
        ∧ (L 14 → x 29 = .agg #[.int .i64 (Wi.Hq (h * l')), .int .u64 (Wi.Lr (h * l'))])
        ∧ (L 15 → x 30 = .pointer (some ⟨w.heap.size, 1, none⟩))
        ∧ (L 16 → x 31 = .int .i64 (h))
        ∧ (L 17 → x 32 = .pointer (some ⟨w.heap.size + 1, 1, none⟩))
        ∧ (L 18 → x 33 = .int .i64 (h'))
        ∧ (L 19 → x 34 = .agg #[.int .i64 (Wi.Hq (h * h')), .int .u64 (Wi.Lr (h * h'))])
        ∧ (L 20 → x 35 = .slice (some ⟨G 20, 0, none⟩) 4 4)
        ∧ (L 21 → x 36 = .tuple #[.agg #[.int .i64 ((Iv.rs (Iv.mnU (four (l * l') (l * h') (h * l') (h * h')) 4) (Iv.mxU (four (l * l') (l * h') (h * l') (h * h')) 4)).lo), .int .i64 ((Iv.rs (Iv.mnU (four (l * l') (l * h') (h * l') (h * h')) 4) (Iv.mxU (four (l * l') (l * h') (h * l') (h * h')) 4)).hi)], .int .i64 ((Iv.rs (Iv.mnU (four (l * l') (l * h') (h * l') (h * h')) 4) (Iv.mxU (four (l * l') (l * h') (h * l') (h * h')) 4)).er)])
        ∧ (L 22 → x 37 = .agg #[.int .i64 ((Iv.rs (Iv.mnU (four (l * l') (l * h') (h * l') (h * h')) 4) (Iv.mxU (four (l * l') (l * h') (h * l') (h * h')) 4)).lo), .int .i64 ((Iv.rs (Iv.mnU (four (l * l') (l * h') (h * l') (h * h')) 4) (Iv.mxU (four (l * l') (l * h') (h * l') (h * h')) 4)).hi)])
        ∧ (L 23 → x 38 = .int .i64 ((Iv.rs (Iv.mnU (four (l * l') (l * h') (h * l') (h * h')) 4) (Iv.mxU (four (l * l') (l * h') (h * l') (h * h')) 4)).er))
        ∧ (L 25 → x 5 = .int .i64 ((Iv.rs (Iv.mnU (four (l * l') (l * h') (h * l') (h * h')) 4) (Iv.mxU (four (l * l') (l * h') (h * l') (h * h')) 4)).er))) [15, 16, 17, 18, 19, 20, 21, 22, 23, 24, 25, 26, 27, 28, 29, 30, 31, 32, 33, 34, 35, 36, 37, 38, 5] 26 (by kernel_rfl) (by kernel_rfl) (by kernel_rfl) ?h0 ?st ?fin
  case h0 =>
    exact ⟨bdr hB, Blk.lt X.drew, X.drew, Blk.lt Y.drew, Y.drew, Blk.lt R.drew, (fun _ => R.drew), fun q => q.elim, fun q => q.elim, fun q => q.elim, fun q => q.elim, fun q => q.elim, fun q => q.elim, fun q => q.elim, fun q => q.elim, fun q => q.elim, fun q => q.elim, fun q => q.elim, fun q => q.elim, fun q => q.elim, fun q => q.elim, fun q => q.elim, fun q => q.elim, fun q => q.elim, fun q => q.elim, fun q => q.elim, fun q => q.elim, fun q => q.elim, fun q => q.elim, fun q => q.elim, fun q => q.elim, fun q => q.elim, fun q => q.elim, fun q => q.elim, fun q => q.elim⟩
  case st =>
    refine StepsOk.cons (i := 0) rfl (fun L x G w1 K Q hn hp hJ hK => ?_) ?_
    · skip
      simp only [putAll, Act.put, List.setIfInBounds_toArray, List.set_cons_zero, List.set_cons_succ]
      go_simp
      refine hK _ G _ (by kernel_rfl) ?_
      exact ⟨(hJ.1),
        (hJ.2.1),
        (hJ.2.2.1),
        (hJ.2.2.2.1),
        (hJ.2.2.2.2.1),
        (hJ.2.2.2.2.2.1),
        fun n => (hJ.2.2.2.2.2.2.1) (fun m => n (.inr m)),
        fun q => (hJ.2.2.2.2.2.2.2.1) (q.resolve_left (by decide)),
        fun q => (hJ.2.2.2.2.2.2.2.2.1) (q.resolve_left (by decide)),
        fun q => (hJ.2.2.2.2.2.2.2.2.2.1) (q.resolve_left (by decide)),
        fun _ => rfl,
        fun q => (hJ.2.2.2.2.2.2.2.2.2.2.2.1) (q.resolve_left (by decide)),
        fun q => (hJ.2.2.2.2.2.2.2.2.2.2.2.2.1) (q.resolve_left (by decide)),
        fun q => (hJ.2.2.2.2.2.2.2.2.2.2.2.2.2.1) (q.resolve_left (by decide)),
        fun q => (hJ.2.2.2.2.2.2.2.2.2.2.2.2.2.2.1) (q.resolve_left (by decide)),
        fun q => (hJ.2.2.2.2.2.2.2.2.2.2.2.2.2.2.2.1) (q.resolve_left (by decide)),
        fun q => (hJ.2.2.2.2.2.2.2.2.2.2.2.2.2.2.2.2.1) (q.resolve_left (by decide)),
        fun q => (hJ.2.2.2.2.2.2.2.2.2.2.2.2.2.2.2.2.2.1) (q.resolve_left (by decide)),
        fun q => (hJ.2.2.2.2.2.2.2.2.2.2.2.2.2.2.2.2.2.2.1) (q.resolve_left (by decide)),
        fun q => (hJ.2.2.2.2.2.2.2.2.2.2.2.2.2.2.2.2.2.2.2.1) (q.resolve_left (by decide)),
        fun q => (hJ.2.2.2.2.2.2.2.2.2.2.2.2.2.2.2.2.2.2.2.2.1) (q.resolve_left (by decide)),
        fun q => (hJ.2.2.2.2.2.2.2.2.2.2.2.2.2.2.2.2.2.2.2.2.2.1) (q.resolve_left (by decide)),
        fun q => (hJ.2.2.2.2.2.2.2.2.2.2.2.2.2.2.2.2.2.2.2.2.2.2.1) (q.resolve_left (by decide)),
        fun q => (hJ.2.2.2.2.2.2.2.2.2.2.2.2.2.2.2.2.2.2.2.2.2.2.2.1) (q.resolve_left (by decide)),
        fun q => (hJ.2.2.2.2.2.2.2.2.2.2.2.2.2.2.2.2.2.2.2.2.2.2.2.2.1) (q.resolve_left (by decide)),
        fun q => (hJ.2.2.2.2.2.2.2.2.2.2.2.2.2.2.2.2.2.2.2.2.2.2.2.2.2.1) (q.resolve_left (by decide)),
        fun q => (hJ.2.2.2.2.2.2.2.2.2.2.2.2.2.2.2.2.2.2.2.2.2.2.2.2.2.2.1) (q.resolve_left (by decide)),
        fun q => (hJ.2.2.2.2.2.2.2.2.2.2.2.2.2.2.2.2.2.2.2.2.2.2.2.2.2.2.2.1) (q.resolve_left (by decide)),
        fun q => (hJ.2.2.2.2.2.2.2.2.2.2.2.2.2.2.2.2.2.2.2.2.2.2.2.2.2.2.2.2.1) (q.resolve_left (by decide)),
        fun q => (hJ.2.2.2.2.2.2.2.2.2.2.2.2.2.2.2.2.2.2.2.2.2.2.2.2.2.2.2.2.2.1) (q.resolve_left (by decide)),
        fun q => (hJ.2.2.2.2.2.2.2.2.2.2.2.2.2.2.2.2.2.2.2.2.2.2.2.2.2.2.2.2.2.2.1) (q.resolve_left (by decide)),
        fun q => (hJ.2.2.2.2.2.2.2.2.2.2.2.2.2.2.2.2.2.2.2.2.2.2.2.2.2.2.2.2.2.2.2.1) (q.resolve_left (by decide)),
        fun q => (hJ.2.2.2.2.2.2.2.2.2.2.2.2.2.2.2.2.2.2.2.2.2.2.2.2.2.2.2.2.2.2.2.2.1) (q.resolve_left (by decide)),
        fun q => (hJ.2.2.2.2.2.2.2.2.2.2.2.2.2.2.2.2.2.2.2.2.2.2.2.2.2.2.2.2.2.2.2.2.2.1) (q.resolve_left (by decide)),
        fun q => (hJ.2.2.2.2.2.2.2.2.2.2.2.2.2.2.2.2.2.2.2.2.2.2.2.2.2.2.2.2.2.2.2.2.2.2) (q.resolve_left (by decide))⟩
    refine StepsOk.cons (i := 1) rfl (fun L x G w1 K Q hn hp hJ hK => ?_) ?_
    · skip
      have p0 : L 0 := hp ⟨0, .data⟩ (by simp) rfl
      have e0 := (hJ.2.2.2.2.2.2.2.2.2.2.1) p0
      have hc := Blk.open2 ((hJ.2.2.1))
      have c0 := hc.1
      have c1 := hc.2.1
      have c2 := hc.2.2.1
      have c3 := hc.2.2.2
      clear hc
      simp only [putAll, Act.put, List.setIfInBounds_toArray, List.set_cons_zero, List.set_cons_succ]
      go_simp
      refine hK _ G _ (by kernel_rfl) ?_
      exact ⟨(hJ.1),
        (hJ.2.1),
        (hJ.2.2.1),
        (hJ.2.2.2.1),
        (hJ.2.2.2.2.1),
        (hJ.2.2.2.2.2.1),
        fun n => (hJ.2.2.2.2.2.2.1) (fun m => n (.inr m)),
        fun q => (hJ.2.2.2.2.2.2.2.1) (q.resolve_left (by decide)),
        fun q => (hJ.2.2.2.2.2.2.2.2.1) (q.resolve_left (by decide)),
        fun q => (hJ.2.2.2.2.2.2.2.2.2.1) (q.resolve_left (by decide)),
        fun _ => by first | exact rfl | exact e0,
        fun _ => rfl,
        fun q => (hJ.2.2.2.2.2.2.2.2.2.2.2.2.1) (q.resolve_left (by decide)),
        fun q => (hJ.2.2.2.2.2.2.2.2.2.2.2.2.2.1) (q.resolve_left (by decide)),
        fun q => (hJ.2.2.2.2.2.2.2.2.2.2.2.2.2.2.1) (q.resolve_left (by decide)),
        fun q => (hJ.2.2.2.2.2.2.2.2.2.2.2.2.2.2.2.1) (q.resolve_left (by decide)),
        fun q => (hJ.2.2.2.2.2.2.2.2.2.2.2.2.2.2.2.2.1) (q.resolve_left (by decide)),
        fun q => (hJ.2.2.2.2.2.2.2.2.2.2.2.2.2.2.2.2.2.1) (q.resolve_left (by decide)),
        fun q => (hJ.2.2.2.2.2.2.2.2.2.2.2.2.2.2.2.2.2.2.1) (q.resolve_left (by decide)),
        fun q => (hJ.2.2.2.2.2.2.2.2.2.2.2.2.2.2.2.2.2.2.2.1) (q.resolve_left (by decide)),
        fun q => (hJ.2.2.2.2.2.2.2.2.2.2.2.2.2.2.2.2.2.2.2.2.1) (q.resolve_left (by decide)),
        fun q => (hJ.2.2.2.2.2.2.2.2.2.2.2.2.2.2.2.2.2.2.2.2.2.1) (q.resolve_left (by decide)),
        fun q => (hJ.2.2.2.2.2.2.2.2.2.2.2.2.2.2.2.2.2.2.2.2.2.2.1) (q.resolve_left (by decide)),
        fun q => (hJ.2.2.2.2.2.2.2.2.2.2.2.2.2.2.2.2.2.2.2.2.2.2.2.1) (q.resolve_left (by decide)),
        fun q => (hJ.2.2.2.2.2.2.2.2.2.2.2.2.2.2.2.2.2.2.2.2.2.2.2.2.1) (q.resolve_left (by decide)),
        fun q => (hJ.2.2.2.2.2.2.2.2.2.2.2.2.2.2.2.2.2.2.2.2.2.2.2.2.2.1) (q.resolve_left (by decide)),
        fun q => (hJ.2.2.2.2.2.2.2.2.2.2.2.2.2.2.2.2.2.2.2.2.2.2.2.2.2.2.1) (q.resolve_left (by decide)),
        fun q => (hJ.2.2.2.2.2.2.2.2.2.2.2.2.2.2.2.2.2.2.2.2.2.2.2.2.2.2.2.1) (q.resolve_left (by decide)),
        fun q => (hJ.2.2.2.2.2.2.2.2.2.2.2.2.2.2.2.2.2.2.2.2.2.2.2.2.2.2.2.2.1) (q.resolve_left (by decide)),
        fun q => (hJ.2.2.2.2.2.2.2.2.2.2.2.2.2.2.2.2.2.2.2.2.2.2.2.2.2.2.2.2.2.1) (q.resolve_left (by decide)),
        fun q => (hJ.2.2.2.2.2.2.2.2.2.2.2.2.2.2.2.2.2.2.2.2.2.2.2.2.2.2.2.2.2.2.1) (q.resolve_left (by decide)),
        fun q => (hJ.2.2.2.2.2.2.2.2.2.2.2.2.2.2.2.2.2.2.2.2.2.2.2.2.2.2.2.2.2.2.2.1) (q.resolve_left (by decide)),
        fun q => (hJ.2.2.2.2.2.2.2.2.2.2.2.2.2.2.2.2.2.2.2.2.2.2.2.2.2.2.2.2.2.2.2.2.1) (q.resolve_left (by decide)),
        fun q => (hJ.2.2.2.2.2.2.2.2.2.2.2.2.2.2.2.2.2.2.2.2.2.2.2.2.2.2.2.2.2.2.2.2.2.1) (q.resolve_left (by decide)),
        fun q => (hJ.2.2.2.2.2.2.2.2.2.2.2.2.2.2.2.2.2.2.2.2.2.2.2.2.2.2.2.2.2.2.2.2.2.2) (q.resolve_left (by decide))⟩
    refine StepsOk.cons (i := 2) rfl (fun L x G w1 K Q hn hp hJ hK => ?_) ?_
    · skip
      simp only [putAll, Act.put, List.setIfInBounds_toArray, List.set_cons_zero, List.set_cons_succ]
      go_simp
      refine hK _ G _ (by kernel_rfl) ?_
      exact ⟨(hJ.1),
        (hJ.2.1),
        (hJ.2.2.1),
        (hJ.2.2.2.1),
        (hJ.2.2.2.2.1),
        (hJ.2.2.2.2.2.1),
        fun n => (hJ.2.2.2.2.2.2.1) (fun m => n (.inr m)),
        fun q => (hJ.2.2.2.2.2.2.2.1) (q.resolve_left (by decide)),
        fun q => (hJ.2.2.2.2.2.2.2.2.1) (q.resolve_left (by decide)),
        fun q => (hJ.2.2.2.2.2.2.2.2.2.1) (q.resolve_left (by decide)),
        fun q => (hJ.2.2.2.2.2.2.2.2.2.2.1) (q.resolve_left (by decide)),
        fun q => (hJ.2.2.2.2.2.2.2.2.2.2.2.1) (q.resolve_left (by decide)),
        fun _ => rfl,
        fun q => (hJ.2.2.2.2.2.2.2.2.2.2.2.2.2.1) (q.resolve_left (by decide)),
        fun q => (hJ.2.2.2.2.2.2.2.2.2.2.2.2.2.2.1) (q.resolve_left (by decide)),
        fun q => (hJ.2.2.2.2.2.2.2.2.2.2.2.2.2.2.2.1) (q.resolve_left (by decide)),
        fun q => (hJ.2.2.2.2.2.2.2.2.2.2.2.2.2.2.2.2.1) (q.resolve_left (by decide)),
        fun q => (hJ.2.2.2.2.2.2.2.2.2.2.2.2.2.2.2.2.2.1) (q.resolve_left (by decide)),
        fun q => (hJ.2.2.2.2.2.2.2.2.2.2.2.2.2.2.2.2.2.2.1) (q.resolve_left (by decide)),
        fun q => (hJ.2.2.2.2.2.2.2.2.2.2.2.2.2.2.2.2.2.2.2.1) (q.resolve_left (by decide)),
        fun q => (hJ.2.2.2.2.2.2.2.2.2.2.2.2.2.2.2.2.2.2.2.2.1) (q.resolve_left (by decide)),
        fun q => (hJ.2.2.2.2.2.2.2.2.2.2.2.2.2.2.2.2.2.2.2.2.2.1) (q.resolve_left (by decide)),
        fun q => (hJ.2.2.2.2.2.2.2.2.2.2.2.2.2.2.2.2.2.2.2.2.2.2.1) (q.resolve_left (by decide)),
        fun q => (hJ.2.2.2.2.2.2.2.2.2.2.2.2.2.2.2.2.2.2.2.2.2.2.2.1) (q.resolve_left (by decide)),
        fun q => (hJ.2.2.2.2.2.2.2.2.2.2.2.2.2.2.2.2.2.2.2.2.2.2.2.2.1) (q.resolve_left (by decide)),
        fun q => (hJ.2.2.2.2.2.2.2.2.2.2.2.2.2.2.2.2.2.2.2.2.2.2.2.2.2.1) (q.resolve_left (by decide)),
        fun q => (hJ.2.2.2.2.2.2.2.2.2.2.2.2.2.2.2.2.2.2.2.2.2.2.2.2.2.2.1) (q.resolve_left (by decide)),
        fun q => (hJ.2.2.2.2.2.2.2.2.2.2.2.2.2.2.2.2.2.2.2.2.2.2.2.2.2.2.2.1) (q.resolve_left (by decide)),
        fun q => (hJ.2.2.2.2.2.2.2.2.2.2.2.2.2.2.2.2.2.2.2.2.2.2.2.2.2.2.2.2.1) (q.resolve_left (by decide)),
        fun q => (hJ.2.2.2.2.2.2.2.2.2.2.2.2.2.2.2.2.2.2.2.2.2.2.2.2.2.2.2.2.2.1) (q.resolve_left (by decide)),
        fun q => (hJ.2.2.2.2.2.2.2.2.2.2.2.2.2.2.2.2.2.2.2.2.2.2.2.2.2.2.2.2.2.2.1) (q.resolve_left (by decide)),
        fun q => (hJ.2.2.2.2.2.2.2.2.2.2.2.2.2.2.2.2.2.2.2.2.2.2.2.2.2.2.2.2.2.2.2.1) (q.resolve_left (by decide)),
        fun q => (hJ.2.2.2.2.2.2.2.2.2.2.2.2.2.2.2.2.2.2.2.2.2.2.2.2.2.2.2.2.2.2.2.2.1) (q.resolve_left (by decide)),
        fun q => (hJ.2.2.2.2.2.2.2.2.2.2.2.2.2.2.2.2.2.2.2.2.2.2.2.2.2.2.2.2.2.2.2.2.2.1) (q.resolve_left (by decide)),
        fun q => (hJ.2.2.2.2.2.2.2.2.2.2.2.2.2.2.2.2.2.2.2.2.2.2.2.2.2.2.2.2.2.2.2.2.2.2) (q.resolve_left (by decide))⟩
    refine StepsOk.cons (i := 3) rfl (fun L x G w1 K Q hn hp hJ hK => ?_) ?_
    · skip
      have p2 : L 2 := hp ⟨2, .data⟩ (by simp) rfl
      have e2 := (hJ.2.2.2.2.2.2.2.2.2.2.2.2.1) p2
      have hc := Blk.open2 ((hJ.2.2.2.2.1))
      have c0 := hc.1
      have c1 := hc.2.1
      have c2 := hc.2.2.1
      have c3 := hc.2.2.2
      clear hc
      simp only [putAll, Act.put, List.setIfInBounds_toArray, List.set_cons_zero, List.set_cons_succ]
      go_simp
      refine hK _ G _ (by kernel_rfl) ?_
      exact ⟨(hJ.1),
        (hJ.2.1),
        (hJ.2.2.1),
        (hJ.2.2.2.1),
        (hJ.2.2.2.2.1),
        (hJ.2.2.2.2.2.1),
        fun n => (hJ.2.2.2.2.2.2.1) (fun m => n (.inr m)),
        fun q => (hJ.2.2.2.2.2.2.2.1) (q.resolve_left (by decide)),
        fun q => (hJ.2.2.2.2.2.2.2.2.1) (q.resolve_left (by decide)),
        fun q => (hJ.2.2.2.2.2.2.2.2.2.1) (q.resolve_left (by decide)),
        fun q => (hJ.2.2.2.2.2.2.2.2.2.2.1) (q.resolve_left (by decide)),
        fun q => (hJ.2.2.2.2.2.2.2.2.2.2.2.1) (q.resolve_left (by decide)),
        fun _ => by first | exact rfl | exact e2,
        fun _ => rfl,
        fun q => (hJ.2.2.2.2.2.2.2.2.2.2.2.2.2.2.1) (q.resolve_left (by decide)),
        fun q => (hJ.2.2.2.2.2.2.2.2.2.2.2.2.2.2.2.1) (q.resolve_left (by decide)),
        fun q => (hJ.2.2.2.2.2.2.2.2.2.2.2.2.2.2.2.2.1) (q.resolve_left (by decide)),
        fun q => (hJ.2.2.2.2.2.2.2.2.2.2.2.2.2.2.2.2.2.1) (q.resolve_left (by decide)),
        fun q => (hJ.2.2.2.2.2.2.2.2.2.2.2.2.2.2.2.2.2.2.1) (q.resolve_left (by decide)),
        fun q => (hJ.2.2.2.2.2.2.2.2.2.2.2.2.2.2.2.2.2.2.2.1) (q.resolve_left (by decide)),
        fun q => (hJ.2.2.2.2.2.2.2.2.2.2.2.2.2.2.2.2.2.2.2.2.1) (q.resolve_left (by decide)),
        fun q => (hJ.2.2.2.2.2.2.2.2.2.2.2.2.2.2.2.2.2.2.2.2.2.1) (q.resolve_left (by decide)),
        fun q => (hJ.2.2.2.2.2.2.2.2.2.2.2.2.2.2.2.2.2.2.2.2.2.2.1) (q.resolve_left (by decide)),
        fun q => (hJ.2.2.2.2.2.2.2.2.2.2.2.2.2.2.2.2.2.2.2.2.2.2.2.1) (q.resolve_left (by decide)),
        fun q => (hJ.2.2.2.2.2.2.2.2.2.2.2.2.2.2.2.2.2.2.2.2.2.2.2.2.1) (q.resolve_left (by decide)),
        fun q => (hJ.2.2.2.2.2.2.2.2.2.2.2.2.2.2.2.2.2.2.2.2.2.2.2.2.2.1) (q.resolve_left (by decide)),
        fun q => (hJ.2.2.2.2.2.2.2.2.2.2.2.2.2.2.2.2.2.2.2.2.2.2.2.2.2.2.1) (q.resolve_left (by decide)),
        fun q => (hJ.2.2.2.2.2.2.2.2.2.2.2.2.2.2.2.2.2.2.2.2.2.2.2.2.2.2.2.1) (q.resolve_left (by decide)),
        fun q => (hJ.2.2.2.2.2.2.2.2.2.2.2.2.2.2.2.2.2.2.2.2.2.2.2.2.2.2.2.2.1) (q.resolve_left (by decide)),
        fun q => (hJ.2.2.2.2.2.2.2.2.2.2.2.2.2.2.2.2.2.2.2.2.2.2.2.2.2.2.2.2.2.1) (q.resolve_left (by decide)),
        fun q => (hJ.2.2.2.2.2.2.2.2.2.2.2.2.2.2.2.2.2.2.2.2.2.2.2.2.2.2.2.2.2.2.1) (q.resolve_left (by decide)),
        fun q => (hJ.2.2.2.2.2.2.2.2.2.2.2.2.2.2.2.2.2.2.2.2.2.2.2.2.2.2.2.2.2.2.2.1) (q.resolve_left (by decide)),
        fun q => (hJ.2.2.2.2.2.2.2.2.2.2.2.2.2.2.2.2.2.2.2.2.2.2.2.2.2.2.2.2.2.2.2.2.1) (q.resolve_left (by decide)),
        fun q => (hJ.2.2.2.2.2.2.2.2.2.2.2.2.2.2.2.2.2.2.2.2.2.2.2.2.2.2.2.2.2.2.2.2.2.1) (q.resolve_left (by decide)),
        fun q => (hJ.2.2.2.2.2.2.2.2.2.2.2.2.2.2.2.2.2.2.2.2.2.2.2.2.2.2.2.2.2.2.2.2.2.2) (q.resolve_left (by decide))⟩
    refine StepsOk.cons (i := 4) rfl (fun L x G w1 K Q hn hp hJ hK => ?_) ?_
    · skip
      have p1 : L 1 := hp ⟨1, .data⟩ (by simp) rfl
      have e1 := (hJ.2.2.2.2.2.2.2.2.2.2.2.1) p1
      have p3 : L 3 := hp ⟨3, .data⟩ (by simp) rfl
      have e3 := (hJ.2.2.2.2.2.2.2.2.2.2.2.2.2.1) p3
      simp only [putAll, Act.put, List.setIfInBounds_toArray, List.set_cons_zero, List.set_cons_succ]
      go_simp
      refine (rmul_c _ _ _ x1 x2 y1 y2).mono ?_
      rintro e w2 ⟨rfl, hb⟩
      have hz := hb.size
      try go_simp
      refine hK _ G _ (by kernel_rfl) ?_
      exact ⟨bt (hJ.1) hb,
        Nat.lt_of_lt_of_le (hJ.2.1) hb.size,
        Blk.keep ((hJ.2.2.1)) hb,
        Nat.lt_of_lt_of_le (hJ.2.2.2.1) hb.size,
        Blk.keep ((hJ.2.2.2.2.1)) hb,
        Nat.lt_of_lt_of_le (hJ.2.2.2.2.2.1) hb.size,
        fun n => Blk.keep ((hJ.2.2.2.2.2.2.1) (fun m => n (.inr m))) hb,
        fun q => Blk.keep ((hJ.2.2.2.2.2.2.2.1) (q.resolve_left (by decide))) hb,
        fun q => ⟨((hJ.2.2.2.2.2.2.2.2.1) (q.resolve_left (by decide))).1, by have := ((hJ.2.2.2.2.2.2.2.2.1) (q.resolve_left (by decide))).2.1; omega, ((hJ.2.2.2.2.2.2.2.2.1) (q.resolve_left (by decide))).2.2⟩,
        fun q => Blk.keep ((hJ.2.2.2.2.2.2.2.2.2.1) (q.resolve_left (by decide))) hb,
        fun q => (hJ.2.2.2.2.2.2.2.2.2.2.1) (q.resolve_left (by decide)),
        fun _ => by first | exact rfl | exact e1,
        fun q => (hJ.2.2.2.2.2.2.2.2.2.2.2.2.1) (q.resolve_left (by decide)),
        fun _ => by first | exact rfl | exact e3,
        fun _ => rfl,
        fun q => (hJ.2.2.2.2.2.2.2.2.2.2.2.2.2.2.2.1) (q.resolve_left (by decide)),
        fun q => (hJ.2.2.2.2.2.2.2.2.2.2.2.2.2.2.2.2.1) (q.resolve_left (by decide)),
        fun q => (hJ.2.2.2.2.2.2.2.2.2.2.2.2.2.2.2.2.2.1) (q.resolve_left (by decide)),
        fun q => (hJ.2.2.2.2.2.2.2.2.2.2.2.2.2.2.2.2.2.2.1) (q.resolve_left (by decide)),
        fun q => (hJ.2.2.2.2.2.2.2.2.2.2.2.2.2.2.2.2.2.2.2.1) (q.resolve_left (by decide)),
        fun q => (hJ.2.2.2.2.2.2.2.2.2.2.2.2.2.2.2.2.2.2.2.2.1) (q.resolve_left (by decide)),
        fun q => (hJ.2.2.2.2.2.2.2.2.2.2.2.2.2.2.2.2.2.2.2.2.2.1) (q.resolve_left (by decide)),
        fun q => (hJ.2.2.2.2.2.2.2.2.2.2.2.2.2.2.2.2.2.2.2.2.2.2.1) (q.resolve_left (by decide)),
        fun q => (hJ.2.2.2.2.2.2.2.2.2.2.2.2.2.2.2.2.2.2.2.2.2.2.2.1) (q.resolve_left (by decide)),
        fun q => (hJ.2.2.2.2.2.2.2.2.2.2.2.2.2.2.2.2.2.2.2.2.2.2.2.2.1) (q.resolve_left (by decide)),
        fun q => (hJ.2.2.2.2.2.2.2.2.2.2.2.2.2.2.2.2.2.2.2.2.2.2.2.2.2.1) (q.resolve_left (by decide)),
        fun q => (hJ.2.2.2.2.2.2.2.2.2.2.2.2.2.2.2.2.2.2.2.2.2.2.2.2.2.2.1) (q.resolve_left (by decide)),
        fun q => (hJ.2.2.2.2.2.2.2.2.2.2.2.2.2.2.2.2.2.2.2.2.2.2.2.2.2.2.2.1) (q.resolve_left (by decide)),
        fun q => (hJ.2.2.2.2.2.2.2.2.2.2.2.2.2.2.2.2.2.2.2.2.2.2.2.2.2.2.2.2.1) (q.resolve_left (by decide)),
        fun q => (hJ.2.2.2.2.2.2.2.2.2.2.2.2.2.2.2.2.2.2.2.2.2.2.2.2.2.2.2.2.2.1) (q.resolve_left (by decide)),
        fun q => (hJ.2.2.2.2.2.2.2.2.2.2.2.2.2.2.2.2.2.2.2.2.2.2.2.2.2.2.2.2.2.2.1) (q.resolve_left (by decide)),
        fun q => (hJ.2.2.2.2.2.2.2.2.2.2.2.2.2.2.2.2.2.2.2.2.2.2.2.2.2.2.2.2.2.2.2.1) (q.resolve_left (by decide)),
        fun q => (hJ.2.2.2.2.2.2.2.2.2.2.2.2.2.2.2.2.2.2.2.2.2.2.2.2.2.2.2.2.2.2.2.2.1) (q.resolve_left (by decide)),
        fun q => (hJ.2.2.2.2.2.2.2.2.2.2.2.2.2.2.2.2.2.2.2.2.2.2.2.2.2.2.2.2.2.2.2.2.2.1) (q.resolve_left (by decide)),
        fun q => (hJ.2.2.2.2.2.2.2.2.2.2.2.2.2.2.2.2.2.2.2.2.2.2.2.2.2.2.2.2.2.2.2.2.2.2) (q.resolve_left (by decide))⟩
    refine StepsOk.cons (i := 5) rfl (fun L x G w1 K Q hn hp hJ hK => ?_) ?_
    · skip
      simp only [putAll, Act.put, List.setIfInBounds_toArray, List.set_cons_zero, List.set_cons_succ]
      go_simp
      refine hK _ G _ (by kernel_rfl) ?_
      exact ⟨(hJ.1),
        (hJ.2.1),
        (hJ.2.2.1),
        (hJ.2.2.2.1),
        (hJ.2.2.2.2.1),
        (hJ.2.2.2.2.2.1),
        fun n => (hJ.2.2.2.2.2.2.1) (fun m => n (.inr m)),
        fun q => (hJ.2.2.2.2.2.2.2.1) (q.resolve_left (by decide)),
        fun q => (hJ.2.2.2.2.2.2.2.2.1) (q.resolve_left (by decide)),
        fun q => (hJ.2.2.2.2.2.2.2.2.2.1) (q.resolve_left (by decide)),
        fun q => (hJ.2.2.2.2.2.2.2.2.2.2.1) (q.resolve_left (by decide)),
        fun q => (hJ.2.2.2.2.2.2.2.2.2.2.2.1) (q.resolve_left (by decide)),
        fun q => (hJ.2.2.2.2.2.2.2.2.2.2.2.2.1) (q.resolve_left (by decide)),
        fun q => (hJ.2.2.2.2.2.2.2.2.2.2.2.2.2.1) (q.resolve_left (by decide)),
        fun q => (hJ.2.2.2.2.2.2.2.2.2.2.2.2.2.2.1) (q.resolve_left (by decide)),
        fun _ => rfl,
        fun q => (hJ.2.2.2.2.2.2.2.2.2.2.2.2.2.2.2.2.1) (q.resolve_left (by decide)),
        fun q => (hJ.2.2.2.2.2.2.2.2.2.2.2.2.2.2.2.2.2.1) (q.resolve_left (by decide)),
        fun q => (hJ.2.2.2.2.2.2.2.2.2.2.2.2.2.2.2.2.2.2.1) (q.resolve_left (by decide)),
        fun q => (hJ.2.2.2.2.2.2.2.2.2.2.2.2.2.2.2.2.2.2.2.1) (q.resolve_left (by decide)),
        fun q => (hJ.2.2.2.2.2.2.2.2.2.2.2.2.2.2.2.2.2.2.2.2.1) (q.resolve_left (by decide)),
        fun q => (hJ.2.2.2.2.2.2.2.2.2.2.2.2.2.2.2.2.2.2.2.2.2.1) (q.resolve_left (by decide)),
        fun q => (hJ.2.2.2.2.2.2.2.2.2.2.2.2.2.2.2.2.2.2.2.2.2.2.1) (q.resolve_left (by decide)),
        fun q => (hJ.2.2.2.2.2.2.2.2.2.2.2.2.2.2.2.2.2.2.2.2.2.2.2.1) (q.resolve_left (by decide)),
        fun q => (hJ.2.2.2.2.2.2.2.2.2.2.2.2.2.2.2.2.2.2.2.2.2.2.2.2.1) (q.resolve_left (by decide)),
        fun q => (hJ.2.2.2.2.2.2.2.2.2.2.2.2.2.2.2.2.2.2.2.2.2.2.2.2.2.1) (q.resolve_left (by decide)),
        fun q => (hJ.2.2.2.2.2.2.2.2.2.2.2.2.2.2.2.2.2.2.2.2.2.2.2.2.2.2.1) (q.resolve_left (by decide)),
        fun q => (hJ.2.2.2.2.2.2.2.2.2.2.2.2.2.2.2.2.2.2.2.2.2.2.2.2.2.2.2.1) (q.resolve_left (by decide)),
        fun q => (hJ.2.2.2.2.2.2.2.2.2.2.2.2.2.2.2.2.2.2.2.2.2.2.2.2.2.2.2.2.1) (q.resolve_left (by decide)),
        fun q => (hJ.2.2.2.2.2.2.2.2.2.2.2.2.2.2.2.2.2.2.2.2.2.2.2.2.2.2.2.2.2.1) (q.resolve_left (by decide)),
        fun q => (hJ.2.2.2.2.2.2.2.2.2.2.2.2.2.2.2.2.2.2.2.2.2.2.2.2.2.2.2.2.2.2.1) (q.resolve_left (by decide)),
        fun q => (hJ.2.2.2.2.2.2.2.2.2.2.2.2.2.2.2.2.2.2.2.2.2.2.2.2.2.2.2.2.2.2.2.1) (q.resolve_left (by decide)),
        fun q => (hJ.2.2.2.2.2.2.2.2.2.2.2.2.2.2.2.2.2.2.2.2.2.2.2.2.2.2.2.2.2.2.2.2.1) (q.resolve_left (by decide)),
        fun q => (hJ.2.2.2.2.2.2.2.2.2.2.2.2.2.2.2.2.2.2.2.2.2.2.2.2.2.2.2.2.2.2.2.2.2.1) (q.resolve_left (by decide)),
        fun q => (hJ.2.2.2.2.2.2.2.2.2.2.2.2.2.2.2.2.2.2.2.2.2.2.2.2.2.2.2.2.2.2.2.2.2.2) (q.resolve_left (by decide))⟩
    refine StepsOk.cons (i := 6) rfl (fun L x G w1 K Q hn hp hJ hK => ?_) ?_
    · skip
      have p5 : L 5 := hp ⟨5, .data⟩ (by simp) rfl
      have e5 := (hJ.2.2.2.2.2.2.2.2.2.2.2.2.2.2.2.1) p5
      have hc := Blk.open2 ((hJ.2.2.1))
      have c0 := hc.1
      have c1 := hc.2.1
      have c2 := hc.2.2.1
      have c3 := hc.2.2.2
      clear hc
      simp only [putAll, Act.put, List.setIfInBounds_toArray, List.set_cons_zero, List.set_cons_succ]
      go_simp
      refine hK _ G _ (by kernel_rfl) ?_
      exact ⟨(hJ.1),
        (hJ.2.1),
        (hJ.2.2.1),
        (hJ.2.2.2.1),
        (hJ.2.2.2.2.1),
        (hJ.2.2.2.2.2.1),
        fun n => (hJ.2.2.2.2.2.2.1) (fun m => n (.inr m)),
        fun q => (hJ.2.2.2.2.2.2.2.1) (q.resolve_left (by decide)),
        fun q => (hJ.2.2.2.2.2.2.2.2.1) (q.resolve_left (by decide)),
        fun q => (hJ.2.2.2.2.2.2.2.2.2.1) (q.resolve_left (by decide)),
        fun q => (hJ.2.2.2.2.2.2.2.2.2.2.1) (q.resolve_left (by decide)),
        fun q => (hJ.2.2.2.2.2.2.2.2.2.2.2.1) (q.resolve_left (by decide)),
        fun q => (hJ.2.2.2.2.2.2.2.2.2.2.2.2.1) (q.resolve_left (by decide)),
        fun q => (hJ.2.2.2.2.2.2.2.2.2.2.2.2.2.1) (q.resolve_left (by decide)),
        fun q => (hJ.2.2.2.2.2.2.2.2.2.2.2.2.2.2.1) (q.resolve_left (by decide)),
        fun _ => by first | exact rfl | exact e5,
        fun _ => rfl,
        fun q => (hJ.2.2.2.2.2.2.2.2.2.2.2.2.2.2.2.2.2.1) (q.resolve_left (by decide)),
        fun q => (hJ.2.2.2.2.2.2.2.2.2.2.2.2.2.2.2.2.2.2.1) (q.resolve_left (by decide)),
        fun q => (hJ.2.2.2.2.2.2.2.2.2.2.2.2.2.2.2.2.2.2.2.1) (q.resolve_left (by decide)),
        fun q => (hJ.2.2.2.2.2.2.2.2.2.2.2.2.2.2.2.2.2.2.2.2.1) (q.resolve_left (by decide)),
        fun q => (hJ.2.2.2.2.2.2.2.2.2.2.2.2.2.2.2.2.2.2.2.2.2.1) (q.resolve_left (by decide)),
        fun q => (hJ.2.2.2.2.2.2.2.2.2.2.2.2.2.2.2.2.2.2.2.2.2.2.1) (q.resolve_left (by decide)),
        fun q => (hJ.2.2.2.2.2.2.2.2.2.2.2.2.2.2.2.2.2.2.2.2.2.2.2.1) (q.resolve_left (by decide)),
        fun q => (hJ.2.2.2.2.2.2.2.2.2.2.2.2.2.2.2.2.2.2.2.2.2.2.2.2.1) (q.resolve_left (by decide)),
        fun q => (hJ.2.2.2.2.2.2.2.2.2.2.2.2.2.2.2.2.2.2.2.2.2.2.2.2.2.1) (q.resolve_left (by decide)),
        fun q => (hJ.2.2.2.2.2.2.2.2.2.2.2.2.2.2.2.2.2.2.2.2.2.2.2.2.2.2.1) (q.resolve_left (by decide)),
        fun q => (hJ.2.2.2.2.2.2.2.2.2.2.2.2.2.2.2.2.2.2.2.2.2.2.2.2.2.2.2.1) (q.resolve_left (by decide)),
        fun q => (hJ.2.2.2.2.2.2.2.2.2.2.2.2.2.2.2.2.2.2.2.2.2.2.2.2.2.2.2.2.1) (q.resolve_left (by decide)),
        fun q => (hJ.2.2.2.2.2.2.2.2.2.2.2.2.2.2.2.2.2.2.2.2.2.2.2.2.2.2.2.2.2.1) (q.resolve_left (by decide)),
        fun q => (hJ.2.2.2.2.2.2.2.2.2.2.2.2.2.2.2.2.2.2.2.2.2.2.2.2.2.2.2.2.2.2.1) (q.resolve_left (by decide)),
        fun q => (hJ.2.2.2.2.2.2.2.2.2.2.2.2.2.2.2.2.2.2.2.2.2.2.2.2.2.2.2.2.2.2.2.1) (q.resolve_left (by decide)),
        fun q => (hJ.2.2.2.2.2.2.2.2.2.2.2.2.2.2.2.2.2.2.2.2.2.2.2.2.2.2.2.2.2.2.2.2.1) (q.resolve_left (by decide)),
        fun q => (hJ.2.2.2.2.2.2.2.2.2.2.2.2.2.2.2.2.2.2.2.2.2.2.2.2.2.2.2.2.2.2.2.2.2.1) (q.resolve_left (by decide)),
        fun q => (hJ.2.2.2.2.2.2.2.2.2.2.2.2.2.2.2.2.2.2.2.2.2.2.2.2.2.2.2.2.2.2.2.2.2.2) (q.resolve_left (by decide))⟩
    refine StepsOk.cons (i := 7) rfl (fun L x G w1 K Q hn hp hJ hK => ?_) ?_
    · skip
      simp only [putAll, Act.put, List.setIfInBounds_toArray, List.set_cons_zero, List.set_cons_succ]
      go_simp
      refine hK _ G _ (by kernel_rfl) ?_
      exact ⟨(hJ.1),
        (hJ.2.1),
        (hJ.2.2.1),
        (hJ.2.2.2.1),
        (hJ.2.2.2.2.1),
        (hJ.2.2.2.2.2.1),
        fun n => (hJ.2.2.2.2.2.2.1) (fun m => n (.inr m)),
        fun q => (hJ.2.2.2.2.2.2.2.1) (q.resolve_left (by decide)),
        fun q => (hJ.2.2.2.2.2.2.2.2.1) (q.resolve_left (by decide)),
        fun q => (hJ.2.2.2.2.2.2.2.2.2.1) (q.resolve_left (by decide)),
        fun q => (hJ.2.2.2.2.2.2.2.2.2.2.1) (q.resolve_left (by decide)),
        fun q => (hJ.2.2.2.2.2.2.2.2.2.2.2.1) (q.resolve_left (by decide)),
        fun q => (hJ.2.2.2.2.2.2.2.2.2.2.2.2.1) (q.resolve_left (by decide)),
        fun q => (hJ.2.2.2.2.2.2.2.2.2.2.2.2.2.1) (q.resolve_left (by decide)),
        fun q => (hJ.2.2.2.2.2.2.2.2.2.2.2.2.2.2.1) (q.resolve_left (by decide)),
        fun q => (hJ.2.2.2.2.2.2.2.2.2.2.2.2.2.2.2.1) (q.resolve_left (by decide)),
        fun q => (hJ.2.2.2.2.2.2.2.2.2.2.2.2.2.2.2.2.1) (q.resolve_left (by decide)),
        fun _ => rfl,
        fun q => (hJ.2.2.2.2.2.2.2.2.2.2.2.2.2.2.2.2.2.2.1) (q.resolve_left (by decide)),
        fun q => (hJ.2.2.2.2.2.2.2.2.2.2.2.2.2.2.2.2.2.2.2.1) (q.resolve_left (by decide)),
        fun q => (hJ.2.2.2.2.2.2.2.2.2.2.2.2.2.2.2.2.2.2.2.2.1) (q.resolve_left (by decide)),
        fun q => (hJ.2.2.2.2.2.2.2.2.2.2.2.2.2.2.2.2.2.2.2.2.2.1) (q.resolve_left (by decide)),
        fun q => (hJ.2.2.2.2.2.2.2.2.2.2.2.2.2.2.2.2.2.2.2.2.2.2.1) (q.resolve_left (by decide)),
        fun q => (hJ.2.2.2.2.2.2.2.2.2.2.2.2.2.2.2.2.2.2.2.2.2.2.2.1) (q.resolve_left (by decide)),
        fun q => (hJ.2.2.2.2.2.2.2.2.2.2.2.2.2.2.2.2.2.2.2.2.2.2.2.2.1) (q.resolve_left (by decide)),
        fun q => (hJ.2.2.2.2.2.2.2.2.2.2.2.2.2.2.2.2.2.2.2.2.2.2.2.2.2.1) (q.resolve_left (by decide)),
        fun q => (hJ.2.2.2.2.2.2.2.2.2.2.2.2.2.2.2.2.2.2.2.2.2.2.2.2.2.2.1) (q.resolve_left (by decide)),
        fun q => (hJ.2.2.2.2.2.2.2.2.2.2.2.2.2.2.2.2.2.2.2.2.2.2.2.2.2.2.2.1) (q.resolve_left (by decide)),
        fun q => (hJ.2.2.2.2.2.2.2.2.2.2.2.2.2.2.2.2.2.2.2.2.2.2.2.2.2.2.2.2.1) (q.resolve_left (by decide)),
        fun q => (hJ.2.2.2.2.2.2.2.2.2.2.2.2.2.2.2.2.2.2.2.2.2.2.2.2.2.2.2.2.2.1) (q.resolve_left (by decide)),
        fun q => (hJ.2.2.2.2.2.2.2.2.2.2.2.2.2.2.2.2.2.2.2.2.2.2.2.2.2.2.2.2.2.2.1) (q.resolve_left (by decide)),
        fun q => (hJ.2.2.2.2.2.2.2.2.2.2.2.2.2.2.2.2.2.2.2.2.2.2.2.2.2.2.2.2.2.2.2.1) (q.resolve_left (by decide)),
        fun q => (hJ.2.2.2.2.2.2.2.2.2.2.2.2.2.2.2.2.2.2.2.2.2.2.2.2.2.2.2.2.2.2.2.2.1) (q.resolve_left (by decide)),
        fun q => (hJ.2.2.2.2.2.2.2.2.2.2.2.2.2.2.2.2.2.2.2.2.2.2.2.2.2.2.2.2.2.2.2.2.2.1) (q.resolve_left (by decide)),
        fun q => (hJ.2.2.2.2.2.2.2.2.2.2.2.2.2.2.2.2.2.2.2.2.2.2.2.2.2.2.2.2.2.2.2.2.2.2) (q.resolve_left (by decide))⟩
    refine StepsOk.cons (i := 8) rfl (fun L x G w1 K Q hn hp hJ hK => ?_) ?_
    · skip
      have p7 : L 7 := hp ⟨7, .data⟩ (by simp) rfl
      have e7 := (hJ.2.2.2.2.2.2.2.2.2.2.2.2.2.2.2.2.2.1) p7
      have hc := Blk.open2 ((hJ.2.2.2.2.1))
      have c0 := hc.1
      have c1 := hc.2.1
      have c2 := hc.2.2.1
      have c3 := hc.2.2.2
      clear hc
      simp only [putAll, Act.put, List.setIfInBounds_toArray, List.set_cons_zero, List.set_cons_succ]
      go_simp
      refine hK _ G _ (by kernel_rfl) ?_
      exact ⟨(hJ.1),
        (hJ.2.1),
        (hJ.2.2.1),
        (hJ.2.2.2.1),
        (hJ.2.2.2.2.1),
        (hJ.2.2.2.2.2.1),
        fun n => (hJ.2.2.2.2.2.2.1) (fun m => n (.inr m)),
        fun q => (hJ.2.2.2.2.2.2.2.1) (q.resolve_left (by decide)),
        fun q => (hJ.2.2.2.2.2.2.2.2.1) (q.resolve_left (by decide)),
        fun q => (hJ.2.2.2.2.2.2.2.2.2.1) (q.resolve_left (by decide)),
        fun q => (hJ.2.2.2.2.2.2.2.2.2.2.1) (q.resolve_left (by decide)),
        fun q => (hJ.2.2.2.2.2.2.2.2.2.2.2.1) (q.resolve_left (by decide)),
        fun q => (hJ.2.2.2.2.2.2.2.2.2.2.2.2.1) (q.resolve_left (by decide)),
        fun q => (hJ.2.2.2.2.2.2.2.2.2.2.2.2.2.1) (q.resolve_left (by decide)),
        fun q => (hJ.2.2.2.2.2.2.2.2.2.2.2.2.2.2.1) (q.resolve_left (by decide)),
        fun q => (hJ.2.2.2.2.2.2.2.2.2.2.2.2.2.2.2.1) (q.resolve_left (by decide)),
        fun q => (hJ.2.2.2.2.2.2.2.2.2.2.2.2.2.2.2.2.1) (q.resolve_left (by decide)),
        fun _ => by first | exact rfl | exact e7,
        fun _ => rfl,
        fun q => (hJ.2.2.2.2.2.2.2.2.2.2.2.2.2.2.2.2.2.2.2.1) (q.resolve_left (by decide)),
        fun q => (hJ.2.2.2.2.2.2.2.2.2.2.2.2.2.2.2.2.2.2.2.2.1) (q.resolve_left (by decide)),
        fun q => (hJ.2.2.2.2.2.2.2.2.2.2.2.2.2.2.2.2.2.2.2.2.2.1) (q.resolve_left (by decide)),
        fun q => (hJ.2.2.2.2.2.2.2.2.2.2.2.2.2.2.2.2.2.2.2.2.2.2.1) (q.resolve_left (by decide)),
        fun q => (hJ.2.2.2.2.2.2.2.2.2.2.2.2.2.2.2.2.2.2.2.2.2.2.2.1) (q.resolve_left (by decide)),
        fun q => (hJ.2.2.2.2.2.2.2.2.2.2.2.2.2.2.2.2.2.2.2.2.2.2.2.2.1) (q.resolve_left (by decide)),
        fun q => (hJ.2.2.2.2.2.2.2.2.2.2.2.2.2.2.2.2.2.2.2.2.2.2.2.2.2.1) (q.resolve_left (by decide)),
        fun q => (hJ.2.2.2.2.2.2.2.2.2.2.2.2.2.2.2.2.2.2.2.2.2.2.2.2.2.2.1) (q.resolve_left (by decide)),
        fun q => (hJ.2.2.2.2.2.2.2.2.2.2.2.2.2.2.2.2.2.2.2.2.2.2.2.2.2.2.2.1) (q.resolve_left (by decide)),
        fun q => (hJ.2.2.2.2.2.2.2.2.2.2.2.2.2.2.2.2.2.2.2.2.2.2.2.2.2.2.2.2.1) (q.resolve_left (by decide)),
        fun q => (hJ.2.2.2.2.2.2.2.2.2.2.2.2.2.2.2.2.2.2.2.2.2.2.2.2.2.2.2.2.2.1) (q.resolve_left (by decide)),
        fun q => (hJ.2.2.2.2.2.2.2.2.2.2.2.2.2.2.2.2.2.2.2.2.2.2.2.2.2.2.2.2.2.2.1) (q.resolve_left (by decide)),
        fun q => (hJ.2.2.2.2.2.2.2.2.2.2.2.2.2.2.2.2.2.2.2.2.2.2.2.2.2.2.2.2.2.2.2.1) (q.resolve_left (by decide)),
        fun q => (hJ.2.2.2.2.2.2.2.2.2.2.2.2.2.2.2.2.2.2.2.2.2.2.2.2.2.2.2.2.2.2.2.2.1) (q.resolve_left (by decide)),
        fun q => (hJ.2.2.2.2.2.2.2.2.2.2.2.2.2.2.2.2.2.2.2.2.2.2.2.2.2.2.2.2.2.2.2.2.2.1) (q.resolve_left (by decide)),
        fun q => (hJ.2.2.2.2.2.2.2.2.2.2.2.2.2.2.2.2.2.2.2.2.2.2.2.2.2.2.2.2.2.2.2.2.2.2) (q.resolve_left (by decide))⟩
    refine StepsOk.cons (i := 9) rfl (fun L x G w1 K Q hn hp hJ hK => ?_) ?_
    · skip
      have p6 : L 6 := hp ⟨6, .data⟩ (by simp) rfl
      have e6 := (hJ.2.2.2.2.2.2.2.2.2.2.2.2.2.2.2.2.1) p6
      have p8 : L 8 := hp ⟨8, .data⟩ (by simp) rfl
      have e8 := (hJ.2.2.2.2.2.2.2.2.2.2.2.2.2.2.2.2.2.2.1) p8
      simp only [putAll, Act.put, List.setIfInBounds_toArray, List.set_cons_zero, List.set_cons_succ]
      go_simp
      refine (rmul_c _ _ _ x1 x2 yy1 yy2).mono ?_
      rintro e w2 ⟨rfl, hb⟩
      have hz := hb.size
      try go_simp
      refine hK _ G _ (by kernel_rfl) ?_
      exact ⟨bt (hJ.1) hb,
        Nat.lt_of_lt_of_le (hJ.2.1) hb.size,
        Blk.keep ((hJ.2.2.1)) hb,
        Nat.lt_of_lt_of_le (hJ.2.2.2.1) hb.size,
        Blk.keep ((hJ.2.2.2.2.1)) hb,
        Nat.lt_of_lt_of_le (hJ.2.2.2.2.2.1) hb.size,
        fun n => Blk.keep ((hJ.2.2.2.2.2.2.1) (fun m => n (.inr m))) hb,
        fun q => Blk.keep ((hJ.2.2.2.2.2.2.2.1) (q.resolve_left (by decide))) hb,
        fun q => ⟨((hJ.2.2.2.2.2.2.2.2.1) (q.resolve_left (by decide))).1, by have := ((hJ.2.2.2.2.2.2.2.2.1) (q.resolve_left (by decide))).2.1; omega, ((hJ.2.2.2.2.2.2.2.2.1) (q.resolve_left (by decide))).2.2⟩,
        fun q => Blk.keep ((hJ.2.2.2.2.2.2.2.2.2.1) (q.resolve_left (by decide))) hb,
        fun q => (hJ.2.2.2.2.2.2.2.2.2.2.1) (q.resolve_left (by decide)),
        fun q => (hJ.2.2.2.2.2.2.2.2.2.2.2.1) (q.resolve_left (by decide)),
        fun q => (hJ.2.2.2.2.2.2.2.2.2.2.2.2.1) (q.resolve_left (by decide)),
        fun q => (hJ.2.2.2.2.2.2.2.2.2.2.2.2.2.1) (q.resolve_left (by decide)),
        fun q => (hJ.2.2.2.2.2.2.2.2.2.2.2.2.2.2.1) (q.resolve_left (by decide)),
        fun q => (hJ.2.2.2.2.2.2.2.2.2.2.2.2.2.2.2.1) (q.resolve_left (by decide)),
        fun _ => by first | exact rfl | exact e6,
        fun q => (hJ.2.2.2.2.2.2.2.2.2.2.2.2.2.2.2.2.2.1) (q.resolve_left (by decide)),
        fun _ => by first | exact rfl | exact e8,
        fun _ => rfl,
        fun q => (hJ.2.2.2.2.2.2.2.2.2.2.2.2.2.2.2.2.2.2.2.2.1) (q.resolve_left (by decide)),
        fun q => (hJ.2.2.2.2.2.2.2.2.2.2.2.2.2.2.2.2.2.2.2.2.2.1) (q.resolve_left (by decide)),
        fun q => (hJ.2.2.2.2.2.2.2.2.2.2.2.2.2.2.2.2.2.2.2.2.2.2.1) (q.resolve_left (by decide)),
        fun q => (hJ.2.2.2.2.2.2.2.2.2.2.2.2.2.2.2.2.2.2.2.2.2.2.2.1) (q.resolve_left (by decide)),
        fun q => (hJ.2.2.2.2.2.2.2.2.2.2.2.2.2.2.2.2.2.2.2.2.2.2.2.2.1) (q.resolve_left (by decide)),
        fun q => (hJ.2.2.2.2.2.2.2.2.2.2.2.2.2.2.2.2.2.2.2.2.2.2.2.2.2.1) (q.resolve_left (by decide)),
        fun q => (hJ.2.2.2.2.2.2.2.2.2.2.2.2.2.2.2.2.2.2.2.2.2.2.2.2.2.2.1) (q.resolve_left (by decide)),
        fun q => (hJ.2.2.2.2.2.2.2.2.2.2.2.2.2.2.2.2.2.2.2.2.2.2.2.2.2.2.2.1) (q.resolve_left (by decide)),
        fun q => (hJ.2.2.2.2.2.2.2.2.2.2.2.2.2.2.2.2.2.2.2.2.2.2.2.2.2.2.2.2.1) (q.resolve_left (by decide)),
        fun q => (hJ.2.2.2.2.2.2.2.2.2.2.2.2.2.2.2.2.2.2.2.2.2.2.2.2.2.2.2.2.2.1) (q.resolve_left (by decide)),
        fun q => (hJ.2.2.2.2.2.2.2.2.2.2.2.2.2.2.2.2.2.2.2.2.2.2.2.2.2.2.2.2.2.2.1) (q.resolve_left (by decide)),
        fun q => (hJ.2.2.2.2.2.2.2.2.2.2.2.2.2.2.2.2.2.2.2.2.2.2.2.2.2.2.2.2.2.2.2.1) (q.resolve_left (by decide)),
        fun q => (hJ.2.2.2.2.2.2.2.2.2.2.2.2.2.2.2.2.2.2.2.2.2.2.2.2.2.2.2.2.2.2.2.2.1) (q.resolve_left (by decide)),
        fun q => (hJ.2.2.2.2.2.2.2.2.2.2.2.2.2.2.2.2.2.2.2.2.2.2.2.2.2.2.2.2.2.2.2.2.2.1) (q.resolve_left (by decide)),
        fun q => (hJ.2.2.2.2.2.2.2.2.2.2.2.2.2.2.2.2.2.2.2.2.2.2.2.2.2.2.2.2.2.2.2.2.2.2) (q.resolve_left (by decide))⟩
    refine StepsOk.cons (i := 10) rfl (fun L x G w1 K Q hn hp hJ hK => ?_) ?_
    · skip
      simp only [putAll, Act.put, List.setIfInBounds_toArray, List.set_cons_zero, List.set_cons_succ]
      go_simp
      refine hK _ G _ (by kernel_rfl) ?_
      exact ⟨(hJ.1),
        (hJ.2.1),
        (hJ.2.2.1),
        (hJ.2.2.2.1),
        (hJ.2.2.2.2.1),
        (hJ.2.2.2.2.2.1),
        fun n => (hJ.2.2.2.2.2.2.1) (fun m => n (.inr m)),
        fun q => (hJ.2.2.2.2.2.2.2.1) (q.resolve_left (by decide)),
        fun q => (hJ.2.2.2.2.2.2.2.2.1) (q.resolve_left (by decide)),
        fun q => (hJ.2.2.2.2.2.2.2.2.2.1) (q.resolve_left (by decide)),
        fun q => (hJ.2.2.2.2.2.2.2.2.2.2.1) (q.resolve_left (by decide)),
        fun q => (hJ.2.2.2.2.2.2.2.2.2.2.2.1) (q.resolve_left (by decide)),
        fun q => (hJ.2.2.2.2.2.2.2.2.2.2.2.2.1) (q.resolve_left (by decide)),
        fun q => (hJ.2.2.2.2.2.2.2.2.2.2.2.2.2.1) (q.resolve_left (by decide)),
        fun q => (hJ.2.2.2.2.2.2.2.2.2.2.2.2.2.2.1) (q.resolve_left (by decide)),
        fun q => (hJ.2.2.2.2.2.2.2.2.2.2.2.2.2.2.2.1) (q.resolve_left (by decide)),
        fun q => (hJ.2.2.2.2.2.2.2.2.2.2.2.2.2.2.2.2.1) (q.resolve_left (by decide)),
        fun q => (hJ.2.2.2.2.2.2.2.2.2.2.2.2.2.2.2.2.2.1) (q.resolve_left (by decide)),
        fun q => (hJ.2.2.2.2.2.2.2.2.2.2.2.2.2.2.2.2.2.2.1) (q.resolve_left (by decide)),
        fun q => (hJ.2.2.2.2.2.2.2.2.2.2.2.2.2.2.2.2.2.2.2.1) (q.resolve_left (by decide)),
        fun _ => rfl,
        fun q => (hJ.2.2.2.2.2.2.2.2.2.2.2.2.2.2.2.2.2.2.2.2.2.1) (q.resolve_left (by decide)),
        fun q => (hJ.2.2.2.2.2.2.2.2.2.2.2.2.2.2.2.2.2.2.2.2.2.2.1) (q.resolve_left (by decide)),
        fun q => (hJ.2.2.2.2.2.2.2.2.2.2.2.2.2.2.2.2.2.2.2.2.2.2.2.1) (q.resolve_left (by decide)),
        fun q => (hJ.2.2.2.2.2.2.2.2.2.2.2.2.2.2.2.2.2.2.2.2.2.2.2.2.1) (q.resolve_left (by decide)),
        fun q => (hJ.2.2.2.2.2.2.2.2.2.2.2.2.2.2.2.2.2.2.2.2.2.2.2.2.2.1) (q.resolve_left (by decide)),
        fun q => (hJ.2.2.2.2.2.2.2.2.2.2.2.2.2.2.2.2.2.2.2.2.2.2.2.2.2.2.1) (q.resolve_left (by decide)),
        fun q => (hJ.2.2.2.2.2.2.2.2.2.2.2.2.2.2.2.2.2.2.2.2.2.2.2.2.2.2.2.1) (q.resolve_left (by decide)),
        fun q => (hJ.2.2.2.2.2.2.2.2.2.2.2.2.2.2.2.2.2.2.2.2.2.2.2.2.2.2.2.2.1) (q.resolve_left (by decide)),
        fun q => (hJ.2.2.2.2.2.2.2.2.2.2.2.2.2.2.2.2.2.2.2.2.2.2.2.2.2.2.2.2.2.1) (q.resolve_left (by decide)),
        fun q => (hJ.2.2.2.2.2.2.2.2.2.2.2.2.2.2.2.2.2.2.2.2.2.2.2.2.2.2.2.2.2.2.1) (q.resolve_left (by decide)),
        fun q => (hJ.2.2.2.2.2.2.2.2.2.2.2.2.2.2.2.2.2.2.2.2.2.2.2.2.2.2.2.2.2.2.2.1) (q.resolve_left (by decide)),
        fun q => (hJ.2.2.2.2.2.2.2.2.2.2.2.2.2.2.2.2.2.2.2.2.2.2.2.2.2.2.2.2.2.2.2.2.1) (q.resolve_left (by decide)),
        fun q => (hJ.2.2.2.2.2.2.2.2.2.2.2.2.2.2.2.2.2.2.2.2.2.2.2.2.2.2.2.2.2.2.2.2.2.1) (q.resolve_left (by decide)),
        fun q => (hJ.2.2.2.2.2.2.2.2.2.2.2.2.2.2.2.2.2.2.2.2.2.2.2.2.2.2.2.2.2.2.2.2.2.2) (q.resolve_left (by decide))⟩
    refine StepsOk.cons (i := 11) rfl (fun L x G w1 K Q hn hp hJ hK => ?_) ?_
    · skip
      have p10 : L 10 := hp ⟨10, .data⟩ (by simp) rfl
      have e10 := (hJ.2.2.2.2.2.2.2.2.2.2.2.2.2.2.2.2.2.2.2.2.1) p10
      have hc := Blk.open2 ((hJ.2.2.1))
      have c0 := hc.1
      have c1 := hc.2.1
      have c2 := hc.2.2.1
      have c3 := hc.2.2.2
      clear hc
      simp only [putAll, Act.put, List.setIfInBounds_toArray, List.set_cons_zero, List.set_cons_succ]
      go_simp
      refine hK _ G _ (by kernel_rfl) ?_
      exact ⟨(hJ.1),
        (hJ.2.1),
        (hJ.2.2.1),
        (hJ.2.2.2.1),
        (hJ.2.2.2.2.1),
        (hJ.2.2.2.2.2.1),
        fun n => (hJ.2.2.2.2.2.2.1) (fun m => n (.inr m)),
        fun q => (hJ.2.2.2.2.2.2.2.1) (q.resolve_left (by decide)),
        fun q => (hJ.2.2.2.2.2.2.2.2.1) (q.resolve_left (by decide)),
        fun q => (hJ.2.2.2.2.2.2.2.2.2.1) (q.resolve_left (by decide)),
        fun q => (hJ.2.2.2.2.2.2.2.2.2.2.1) (q.resolve_left (by decide)),
        fun q => (hJ.2.2.2.2.2.2.2.2.2.2.2.1) (q.resolve_left (by decide)),
        fun q => (hJ.2.2.2.2.2.2.2.2.2.2.2.2.1) (q.resolve_left (by decide)),
        fun q => (hJ.2.2.2.2.2.2.2.2.2.2.2.2.2.1) (q.resolve_left (by decide)),
        fun q => (hJ.2.2.2.2.2.2.2.2.2.2.2.2.2.2.1) (q.resolve_left (by decide)),
        fun q => (hJ.2.2.2.2.2.2.2.2.2.2.2.2.2.2.2.1) (q.resolve_left (by decide)),
        fun q => (hJ.2.2.2.2.2.2.2.2.2.2.2.2.2.2.2.2.1) (q.resolve_left (by decide)),
        fun q => (hJ.2.2.2.2.2.2.2.2.2.2.2.2.2.2.2.2.2.1) (q.resolve_left (by decide)),
        fun q => (hJ.2.2.2.2.2.2.2.2.2.2.2.2.2.2.2.2.2.2.1) (q.resolve_left (by decide)),
        fun q => (hJ.2.2.2.2.2.2.2.2.2.2.2.2.2.2.2.2.2.2.2.1) (q.resolve_left (by decide)),
        fun _ => by first | exact rfl | exact e10,
        fun _ => rfl,
        fun q => (hJ.2.2.2.2.2.2.2.2.2.2.2.2.2.2.2.2.2.2.2.2.2.2.1) (q.resolve_left (by decide)),
        fun q => (hJ.2.2.2.2.2.2.2.2.2.2.2.2.2.2.2.2.2.2.2.2.2.2.2.1) (q.resolve_left (by decide)),
        fun q => (hJ.2.2.2.2.2.2.2.2.2.2.2.2.2.2.2.2.2.2.2.2.2.2.2.2.1) (q.resolve_left (by decide)),
        fun q => (hJ.2.2.2.2.2.2.2.2.2.2.2.2.2.2.2.2.2.2.2.2.2.2.2.2.2.1) (q.resolve_left (by decide)),
        fun q => (hJ.2.2.2.2.2.2.2.2.2.2.2.2.2.2.2.2.2.2.2.2.2.2.2.2.2.2.1) (q.resolve_left (by decide)),
        fun q => (hJ.2.2.2.2.2.2.2.2.2.2.2.2.2.2.2.2.2.2.2.2.2.2.2.2.2.2.2.1) (q.resolve_left (by decide)),
        fun q => (hJ.2.2.2.2.2.2.2.2.2.2.2.2.2.2.2.2.2.2.2.2.2.2.2.2.2.2.2.2.1) (q.resolve_left (by decide)),
        fun q => (hJ.2.2.2.2.2.2.2.2.2.2.2.2.2.2.2.2.2.2.2.2.2.2.2.2.2.2.2.2.2.1) (q.resolve_left (by decide)),
        fun q => (hJ.2.2.2.2.2.2.2.2.2.2.2.2.2.2.2.2.2.2.2.2.2.2.2.2.2.2.2.2.2.2.1) (q.resolve_left (by decide)),
        fun q => (hJ.2.2.2.2.2.2.2.2.2.2.2.2.2.2.2.2.2.2.2.2.2.2.2.2.2.2.2.2.2.2.2.1) (q.resolve_left (by decide)),
        fun q => (hJ.2.2.2.2.2.2.2.2.2.2.2.2.2.2.2.2.2.2.2.2.2.2.2.2.2.2.2.2.2.2.2.2.1) (q.resolve_left (by decide)),
        fun q => (hJ.2.2.2.2.2.2.2.2.2.2.2.2.2.2.2.2.2.2.2.2.2.2.2.2.2.2.2.2.2.2.2.2.2.1) (q.resolve_left (by decide)),
        fun q => (hJ.2.2.2.2.2.2.2.2.2.2.2.2.2.2.2.2.2.2.2.2.2.2.2.2.2.2.2.2.2.2.2.2.2.2) (q.resolve_left (by decide))⟩
    refine StepsOk.cons (i := 12) rfl (fun L x G w1 K Q hn hp hJ hK => ?_) ?_
    · skip
      simp only [putAll, Act.put, List.setIfInBounds_toArray, List.set_cons_zero, List.set_cons_succ]
      go_simp
      refine hK _ G _ (by kernel_rfl) ?_
      exact ⟨(hJ.1),
        (hJ.2.1),
        (hJ.2.2.1),
        (hJ.2.2.2.1),
        (hJ.2.2.2.2.1),
        (hJ.2.2.2.2.2.1),
        fun n => (hJ.2.2.2.2.2.2.1) (fun m => n (.inr m)),
        fun q => (hJ.2.2.2.2.2.2.2.1) (q.resolve_left (by decide)),
        fun q => (hJ.2.2.2.2.2.2.2.2.1) (q.resolve_left (by decide)),
        fun q => (hJ.2.2.2.2.2.2.2.2.2.1) (q.resolve_left (by decide)),
        fun q => (hJ.2.2.2.2.2.2.2.2.2.2.1) (q.resolve_left (by decide)),
        fun q => (hJ.2.2.2.2.2.2.2.2.2.2.2.1) (q.resolve_left (by decide)),
        fun q => (hJ.2.2.2.2.2.2.2.2.2.2.2.2.1) (q.resolve_left (by decide)),
        fun q => (hJ.2.2.2.2.2.2.2.2.2.2.2.2.2.1) (q.resolve_left (by decide)),
        fun q => (hJ.2.2.2.2.2.2.2.2.2.2.2.2.2.2.1) (q.resolve_left (by decide)),
        fun q => (hJ.2.2.2.2.2.2.2.2.2.2.2.2.2.2.2.1) (q.resolve_left (by decide)),
        fun q => (hJ.2.2.2.2.2.2.2.2.2.2.2.2.2.2.2.2.1) (q.resolve_left (by decide)),
        fun q => (hJ.2.2.2.2.2.2.2.2.2.2.2.2.2.2.2.2.2.1) (q.resolve_left (by decide)),
        fun q => (hJ.2.2.2.2.2.2.2.2.2.2.2.2.2.2.2.2.2.2.1) (q.resolve_left (by decide)),
        fun q => (hJ.2.2.2.2.2.2.2.2.2.2.2.2.2.2.2.2.2.2.2.1) (q.resolve_left (by decide)),
        fun q => (hJ.2.2.2.2.2.2.2.2.2.2.2.2.2.2.2.2.2.2.2.2.1) (q.resolve_left (by decide)),
        fun q => (hJ.2.2.2.2.2.2.2.2.2.2.2.2.2.2.2.2.2.2.2.2.2.1) (q.resolve_left (by decide)),
        fun _ => rfl,
        fun q => (hJ.2.2.2.2.2.2.2.2.2.2.2.2.2.2.2.2.2.2.2.2.2.2.2.1) (q.resolve_left (by decide)),
        fun q => (hJ.2.2.2.2.2.2.2.2.2.2.2.2.2.2.2.2.2.2.2.2.2.2.2.2.1) (q.resolve_left (by decide)),
        fun q => (hJ.2.2.2.2.2.2.2.2.2.2.2.2.2.2.2.2.2.2.2.2.2.2.2.2.2.1) (q.resolve_left (by decide)),
        fun q => (hJ.2.2.2.2.2.2.2.2.2.2.2.2.2.2.2.2.2.2.2.2.2.2.2.2.2.2.1) (q.resolve_left (by decide)),
        fun q => (hJ.2.2.2.2.2.2.2.2.2.2.2.2.2.2.2.2.2.2.2.2.2.2.2.2.2.2.2.1) (q.resolve_left (by decide)),
        fun q => (hJ.2.2.2.2.2.2.2.2.2.2.2.2.2.2.2.2.2.2.2.2.2.2.2.2.2.2.2.2.1) (q.resolve_left (by decide)),
        fun q => (hJ.2.2.2.2.2.2.2.2.2.2.2.2.2.2.2.2.2.2.2.2.2.2.2.2.2.2.2.2.2.1) (q.resolve_left (by decide)),
        fun q => (hJ.2.2.2.2.2.2.2.2.2.2.2.2.2.2.2.2.2.2.2.2.2.2.2.2.2.2.2.2.2.2.1) (q.resolve_left (by decide)),
        fun q => (hJ.2.2.2.2.2.2.2.2.2.2.2.2.2.2.2.2.2.2.2.2.2.2.2.2.2.2.2.2.2.2.2.1) (q.resolve_left (by decide)),
        fun q => (hJ.2.2.2.2.2.2.2.2.2.2.2.2.2.2.2.2.2.2.2.2.2.2.2.2.2.2.2.2.2.2.2.2.1) (q.resolve_left (by decide)),
        fun q => (hJ.2.2.2.2.2.2.2.2.2.2.2.2.2.2.2.2.2.2.2.2.2.2.2.2.2.2.2.2.2.2.2.2.2.1) (q.resolve_left (by decide)),
        fun q => (hJ.2.2.2.2.2.2.2.2.2.2.2.2.2.2.2.2.2.2.2.2.2.2.2.2.2.2.2.2.2.2.2.2.2.2) (q.resolve_left (by decide))⟩
    refine StepsOk.cons (i := 13) rfl (fun L x G w1 K Q hn hp hJ hK => ?_) ?_
    · skip
      have p12 : L 12 := hp ⟨12, .data⟩ (by simp) rfl
      have e12 := (hJ.2.2.2.2.2.2.2.2.2.2.2.2.2.2.2.2.2.2.2.2.2.2.1) p12
      have hc := Blk.open2 ((hJ.2.2.2.2.1))
      have c0 := hc.1
      have c1 := hc.2.1
      have c2 := hc.2.2.1
      have c3 := hc.2.2.2
      clear hc
      simp only [putAll, Act.put, List.setIfInBounds_toArray, List.set_cons_zero, List.set_cons_succ]
      go_simp
      refine hK _ G _ (by kernel_rfl) ?_
      exact ⟨(hJ.1),
        (hJ.2.1),
        (hJ.2.2.1),
        (hJ.2.2.2.1),
        (hJ.2.2.2.2.1),
        (hJ.2.2.2.2.2.1),
        fun n => (hJ.2.2.2.2.2.2.1) (fun m => n (.inr m)),
        fun q => (hJ.2.2.2.2.2.2.2.1) (q.resolve_left (by decide)),
        fun q => (hJ.2.2.2.2.2.2.2.2.1) (q.resolve_left (by decide)),
        fun q => (hJ.2.2.2.2.2.2.2.2.2.1) (q.resolve_left (by decide)),
        fun q => (hJ.2.2.2.2.2.2.2.2.2.2.1) (q.resolve_left (by decide)),
        fun q => (hJ.2.2.2.2.2.2.2.2.2.2.2.1) (q.resolve_left (by decide)),
        fun q => (hJ.2.2.2.2.2.2.2.2.2.2.2.2.1) (q.resolve_left (by decide)),
        fun q => (hJ.2.2.2.2.2.2.2.2.2.2.2.2.2.1) (q.resolve_left (by decide)),
        fun q => (hJ.2.2.2.2.2.2.2.2.2.2.2.2.2.2.1) (q.resolve_left (by decide)),
        fun q => (hJ.2.2.2.2.2.2.2.2.2.2.2.2.2.2.2.1) (q.resolve_left (by decide)),
        fun q => (hJ.2.2.2.2.2.2.2.2.2.2.2.2.2.2.2.2.1) (q.resolve_left (by decide)),
        fun q => (hJ.2.2.2.2.2.2.2.2.2.2.2.2.2.2.2.2.2.1) (q.resolve_left (by decide)),
        fun q => (hJ.2.2.2.2.2.2.2.2.2.2.2.2.2.2.2.2.2.2.1) (q.resolve_left (by decide)),
        fun q => (hJ.2.2.2.2.2.2.2.2.2.2.2.2.2.2.2.2.2.2.2.1) (q.resolve_left (by decide)),
        fun q => (hJ.2.2.2.2.2.2.2.2.2.2.2.2.2.2.2.2.2.2.2.2.1) (q.resolve_left (by decide)),
        fun q => (hJ.2.2.2.2.2.2.2.2.2.2.2.2.2.2.2.2.2.2.2.2.2.1) (q.resolve_left (by decide)),
        fun _ => by first | exact rfl | exact e12,
        fun _ => rfl,
        fun q => (hJ.2.2.2.2.2.2.2.2.2.2.2.2.2.2.2.2.2.2.2.2.2.2.2.2.1) (q.resolve_left (by decide)),
        fun q => (hJ.2.2.2.2.2.2.2.2.2.2.2.2.2.2.2.2.2.2.2.2.2.2.2.2.2.1) (q.resolve_left (by decide)),
        fun q => (hJ.2.2.2.2.2.2.2.2.2.2.2.2.2.2.2.2.2.2.2.2.2.2.2.2.2.2.1) (q.resolve_left (by decide)),
        fun q => (hJ.2.2.2.2.2.2.2.2.2.2.2.2.2.2.2.2.2.2.2.2.2.2.2.2.2.2.2.1) (q.resolve_left (by decide)),
        fun q => (hJ.2.2.2.2.2.2.2.2.2.2.2.2.2.2.2.2.2.2.2.2.2.2.2.2.2.2.2.2.1) (q.resolve_left (by decide)),
        fun q => (hJ.2.2.2.2.2.2.2.2.2.2.2.2.2.2.2.2.2.2.2.2.2.2.2.2.2.2.2.2.2.1) (q.resolve_left (by decide)),
        fun q => (hJ.2.2.2.2.2.2.2.2.2.2.2.2.2.2.2.2.2.2.2.2.2.2.2.2.2.2.2.2.2.2.1) (q.resolve_left (by decide)),
        fun q => (hJ.2.2.2.2.2.2.2.2.2.2.2.2.2.2.2.2.2.2.2.2.2.2.2.2.2.2.2.2.2.2.2.1) (q.resolve_left (by decide)),
        fun q => (hJ.2.2.2.2.2.2.2.2.2.2.2.2.2.2.2.2.2.2.2.2.2.2.2.2.2.2.2.2.2.2.2.2.1) (q.resolve_left (by decide)),
        fun q => (hJ.2.2.2.2.2.2.2.2.2.2.2.2.2.2.2.2.2.2.2.2.2.2.2.2.2.2.2.2.2.2.2.2.2.1) (q.resolve_left (by decide)),
        fun q => (hJ.2.2.2.2.2.2.2.2.2.2.2.2.2.2.2.2.2.2.2.2.2.2.2.2.2.2.2.2.2.2.2.2.2.2) (q.resolve_left (by decide))⟩
    refine StepsOk.cons (i := 14) rfl (fun L x G w1 K Q hn hp hJ hK => ?_) ?_
    · skip
      have p11 : L 11 := hp ⟨11, .data⟩ (by simp) rfl
      have e11 := (hJ.2.2.2.2.2.2.2.2.2.2.2.2.2.2.2.2.2.2.2.2.2.1) p11
      have p13 : L 13 := hp ⟨13, .data⟩ (by simp) rfl
      have e13 := (hJ.2.2.2.2.2.2.2.2.2.2.2.2.2.2.2.2.2.2.2.2.2.2.2.1) p13
      simp only [putAll, Act.put, List.setIfInBounds_toArray, List.set_cons_zero, List.set_cons_succ]
      go_simp
      refine (rmul_c _ _ _ xx1 xx2 y1 y2).mono ?_
      rintro e w2 ⟨rfl, hb⟩
      have hz := hb.size
      try go_simp
      refine hK _ G _ (by kernel_rfl) ?_
      exact ⟨bt (hJ.1) hb,
        Nat.lt_of_lt_of_le (hJ.2.1) hb.size,
        Blk.keep ((hJ.2.2.1)) hb,
        Nat.lt_of_lt_of_le (hJ.2.2.2.1) hb.size,
        Blk.keep ((hJ.2.2.2.2.1)) hb,
        Nat.lt_of_lt_of_le (hJ.2.2.2.2.2.1) hb.size,
        fun n => Blk.keep ((hJ.2.2.2.2.2.2.1) (fun m => n (.inr m))) hb,
        fun q => Blk.keep ((hJ.2.2.2.2.2.2.2.1) (q.resolve_left (by decide))) hb,
        fun q => ⟨((hJ.2.2.2.2.2.2.2.2.1) (q.resolve_left (by decide))).1, by have := ((hJ.2.2.2.2.2.2.2.2.1) (q.resolve_left (by decide))).2.1; omega, ((hJ.2.2.2.2.2.2.2.2.1) (q.resolve_left (by decide))).2.2⟩,
        fun q => Blk.keep ((hJ.2.2.2.2.2.2.2.2.2.1) (q.resolve_left (by decide))) hb,
        fun q => (hJ.2.2.2.2.2.2.2.2.2.2.1) (q.resolve_left (by decide)),
        fun q => (hJ.2.2.2.2.2.2.2.2.2.2.2.1) (q.resolve_left (by decide)),
        fun q => (hJ.2.2.2.2.2.2.2.2.2.2.2.2.1) (q.resolve_left (by decide)),
        fun q => (hJ.2.2.2.2.2.2.2.2.2.2.2.2.2.1) (q.resolve_left (by decide)),
        fun q => (hJ.2.2.2.2.2.2.2.2.2.2.2.2.2.2.1) (q.resolve_left (by decide)),
        fun q => (hJ.2.2.2.2.2.2.2.2.2.2.2.2.2.2.2.1) (q.resolve_left (by decide)),
        fun q => (hJ.2.2.2.2.2.2.2.2.2.2.2.2.2.2.2.2.1) (q.resolve_left (by decide)),
        fun q => (hJ.2.2.2.2.2.2.2.2.2.2.2.2.2.2.2.2.2.1) (q.resolve_left (by decide)),
        fun q => (hJ.2.2.2.2.2.2.2.2.2.2.2.2.2.2.2.2.2.2.1) (q.resolve_left (by decide)),
        fun q => (hJ.2.2.2.2.2.2.2.2.2.2.2.2.2.2.2.2.2.2.2.1) (q.resolve_left (by decide)),
        fun q => (hJ.2.2.2.2.2.2.2.2.2.2.2.2.2.2.2.2.2.2.2.2.1) (q.resolve_left (by decide)),
        fun _ => by first | exact rfl | exact e11,
        fun q => (hJ.2.2.2.2.2.2.2.2.2.2.2.2.2.2.2.2.2.2.2.2.2.2.1) (q.resolve_left (by decide)),
        fun _ => by first | exact rfl | exact e13,
        fun _ => rfl,
        fun q => (hJ.2.2.2.2.2.2.2.2.2.2.2.2.2.2.2.2.2.2.2.2.2.2.2.2.2.1) (q.resolve_left (by decide)),
        fun q => (hJ.2.2.2.2.2.2.2.2.2.2.2.2.2.2.2.2.2.2.2.2.2.2.2.2.2.2.1) (q.resolve_left (by decide)),
        fun q => (hJ.2.2.2.2.2.2.2.2.2.2.2.2.2.2.2.2.2.2.2.2.2.2.2.2.2.2.2.1) (q.resolve_left (by decide)),
        fun q => (hJ.2.2.2.2.2.2.2.2.2.2.2.2.2.2.2.2.2.2.2.2.2.2.2.2.2.2.2.2.1) (q.resolve_left (by decide)),
        fun q => (hJ.2.2.2.2.2.2.2.2.2.2.2.2.2.2.2.2.2.2.2.2.2.2.2.2.2.2.2.2.2.1) (q.resolve_left (by decide)),
        fun q => (hJ.2.2.2.2.2.2.2.2.2.2.2.2.2.2.2.2.2.2.2.2.2.2.2.2.2.2.2.2.2.2.1) (q.resolve_left (by decide)),
        fun q => (hJ.2.2.2.2.2.2.2.2.2.2.2.2.2.2.2.2.2.2.2.2.2.2.2.2.2.2.2.2.2.2.2.1) (q.resolve_left (by decide)),
        fun q => (hJ.2.2.2.2.2.2.2.2.2.2.2.2.2.2.2.2.2.2.2.2.2.2.2.2.2.2.2.2.2.2.2.2.1) (q.resolve_left (by decide)),
        fun q => (hJ.2.2.2.2.2.2.2.2.2.2.2.2.2.2.2.2.2.2.2.2.2.2.2.2.2.2.2.2.2.2.2.2.2.1) (q.resolve_left (by decide)),
        fun q => (hJ.2.2.2.2.2.2.2.2.2.2.2.2.2.2.2.2.2.2.2.2.2.2.2.2.2.2.2.2.2.2.2.2.2.2) (q.resolve_left (by decide))⟩
    refine StepsOk.cons (i := 15) rfl (fun L x G w1 K Q hn hp hJ hK => ?_) ?_
    · skip
      simp only [putAll, Act.put, List.setIfInBounds_toArray, List.set_cons_zero, List.set_cons_succ]
      go_simp
      refine hK _ G _ (by kernel_rfl) ?_
      exact ⟨(hJ.1),
        (hJ.2.1),
        (hJ.2.2.1),
        (hJ.2.2.2.1),
        (hJ.2.2.2.2.1),
        (hJ.2.2.2.2.2.1),
        fun n => (hJ.2.2.2.2.2.2.1) (fun m => n (.inr m)),
        fun q => (hJ.2.2.2.2.2.2.2.1) (q.resolve_left (by decide)),
        fun q => (hJ.2.2.2.2.2.2.2.2.1) (q.resolve_left (by decide)),
        fun q => (hJ.2.2.2.2.2.2.2.2.2.1) (q.resolve_left (by decide)),
        fun q => (hJ.2.2.2.2.2.2.2.2.2.2.1) (q.resolve_left (by decide)),
        fun q => (hJ.2.2.2.2.2.2.2.2.2.2.2.1) (q.resolve_left (by decide)),
        fun q => (hJ.2.2.2.2.2.2.2.2.2.2.2.2.1) (q.resolve_left (by decide)),
        fun q => (hJ.2.2.2.2.2.2.2.2.2.2.2.2.2.1) (q.resolve_left (by decide)),
        fun q => (hJ.2.2.2.2.2.2.2.2.2.2.2.2.2.2.1) (q.resolve_left (by decide)),
        fun q => (hJ.2.2.2.2.2.2.2.2.2.2.2.2.2.2.2.1) (q.resolve_left (by decide)),
        fun q => (hJ.2.2.2.2.2.2.2.2.2.2.2.2.2.2.2.2.1) (q.resolve_left (by decide)),
        fun q => (hJ.2.2.2.2.2.2.2.2.2.2.2.2.2.2.2.2.2.1) (q.resolve_left (by decide)),
        fun q => (hJ.2.2.2.2.2.2.2.2.2.2.2.2.2.2.2.2.2.2.1) (q.resolve_left (by decide)),
        fun q => (hJ.2.2.2.2.2.2.2.2.2.2.2.2.2.2.2.2.2.2.2.1) (q.resolve_left (by decide)),
        fun q => (hJ.2.2.2.2.2.2.2.2.2.2.2.2.2.2.2.2.2.2.2.2.1) (q.resolve_left (by decide)),
        fun q => (hJ.2.2.2.2.2.2.2.2.2.2.2.2.2.2.2.2.2.2.2.2.2.1) (q.resolve_left (by decide)),
        fun q => (hJ.2.2.2.2.2.2.2.2.2.2.2.2.2.2.2.2.2.2.2.2.2.2.1) (q.resolve_left (by decide)),
        fun q => (hJ.2.2.2.2.2.2.2.2.2.2.2.2.2.2.2.2.2.2.2.2.2.2.2.1) (q.resolve_left (by decide)),
        fun q => (hJ.2.2.2.2.2.2.2.2.2.2.2.2.2.2.2.2.2.2.2.2.2.2.2.2.1) (q.resolve_left (by decide)),
        fun _ => rfl,
        fun q => (hJ.2.2.2.2.2.2.2.2.2.2.2.2.2.2.2.2.2.2.2.2.2.2.2.2.2.2.1) (q.resolve_left (by decide)),
        fun q => (hJ.2.2.2.2.2.2.2.2.2.2.2.2.2.2.2.2.2.2.2.2.2.2.2.2.2.2.2.1) (q.resolve_left (by decide)),
        fun q => (hJ.2.2.2.2.2.2.2.2.2.2.2.2.2.2.2.2.2.2.2.2.2.2.2.2.2.2.2.2.1) (q.resolve_left (by decide)),
        fun q => (hJ.2.2.2.2.2.2.2.2.2.2.2.2.2.2.2.2.2.2.2.2.2.2.2.2.2.2.2.2.2.1) (q.resolve_left (by decide)),
        fun q => (hJ.2.2.2.2.2.2.2.2.2.2.2.2.2.2.2.2.2.2.2.2.2.2.2.2.2.2.2.2.2.2.1) (q.resolve_left (by decide)),
        fun q => (hJ.2.2.2.2.2.2.2.2.2.2.2.2.2.2.2.2.2.2.2.2.2.2.2.2.2.2.2.2.2.2.2.1) (q.resolve_left (by decide)),
        fun q => (hJ.2.2.2.2.2.2.2.2.2.2.2.2.2.2.2.2.2.2.2.2.2.2.2.2.2.2.2.2.2.2.2.2.1) (q.resolve_left (by decide)),
        fun q => (hJ.2.2.2.2.2.2.2.2.2.2.2.2.2.2.2.2.2.2.2.2.2.2.2.2.2.2.2.2.2.2.2.2.2.1) (q.resolve_left (by decide)),
        fun q => (hJ.2.2.2.2.2.2.2.2.2.2.2.2.2.2.2.2.2.2.2.2.2.2.2.2.2.2.2.2.2.2.2.2.2.2) (q.resolve_left (by decide))⟩
    refine StepsOk.cons (i := 16) rfl (fun L x G w1 K Q hn hp hJ hK => ?_) ?_
    · skip
      have p15 : L 15 := hp ⟨15, .data⟩ (by simp) rfl
      have e15 := (hJ.2.2.2.2.2.2.2.2.2.2.2.2.2.2.2.2.2.2.2.2.2.2.2.2.2.1) p15
      have hc := Blk.open2 ((hJ.2.2.1))
      have c0 := hc.1
      have c1 := hc.2.1
      have c2 := hc.2.2.1
      have c3 := hc.2.2.2
      clear hc
      simp only [putAll, Act.put, List.setIfInBounds_toArray, List.set_cons_zero, List.set_cons_succ]
      go_simp
      refine hK _ G _ (by kernel_rfl) ?_
      exact ⟨(hJ.1),
        (hJ.2.1),
        (hJ.2.2.1),
        (hJ.2.2.2.1),
        (hJ.2.2.2.2.1),
        (hJ.2.2.2.2.2.1),
        fun n => (hJ.2.2.2.2.2.2.1) (fun m => n (.inr m)),
        fun q => (hJ.2.2.2.2.2.2.2.1) (q.resolve_left (by decide)),
        fun q => (hJ.2.2.2.2.2.2.2.2.1) (q.resolve_left (by decide)),
        fun q => (hJ.2.2.2.2.2.2.2.2.2.1) (q.resolve_left (by decide)),
        fun q => (hJ.2.2.2.2.2.2.2.2.2.2.1) (q.resolve_left (by decide)),
        fun q => (hJ.2.2.2.2.2.2.2.2.2.2.2.1) (q.resolve_left (by decide)),
        fun q => (hJ.2.2.2.2.2.2.2.2.2.2.2.2.1) (q.resolve_left (by decide)),
        fun q => (hJ.2.2.2.2.2.2.2.2.2.2.2.2.2.1) (q.resolve_left (by decide)),
        fun q => (hJ.2.2.2.2.2.2.2.2.2.2.2.2.2.2.1) (q.resolve_left (by decide)),
        fun q => (hJ.2.2.2.2.2.2.2.2.2.2.2.2.2.2.2.1) (q.resolve_left (by decide)),
        fun q => (hJ.2.2.2.2.2.2.2.2.2.2.2.2.2.2.2.2.1) (q.resolve_left (by decide)),
        fun q => (hJ.2.2.2.2.2.2.2.2.2.2.2.2.2.2.2.2.2.1) (q.resolve_left (by decide)),
        fun q => (hJ.2.2.2.2.2.2.2.2.2.2.2.2.2.2.2.2.2.2.1) (q.resolve_left (by decide)),
        fun q => (hJ.2.2.2.2.2.2.2.2.2.2.2.2.2.2.2.2.2.2.2.1) (q.resolve_left (by decide)),
        fun q => (hJ.2.2.2.2.2.2.2.2.2.2.2.2.2.2.2.2.2.2.2.2.1) (q.resolve_left (by decide)),
        fun q => (hJ.2.2.2.2.2.2.2.2.2.2.2.2.2.2.2.2.2.2.2.2.2.1) (q.resolve_left (by decide)),
        fun q => (hJ.2.2.2.2.2.2.2.2.2.2.2.2.2.2.2.2.2.2.2.2.2.2.1) (q.resolve_left (by decide)),
        fun q => (hJ.2.2.2.2.2.2.2.2.2.2.2.2.2.2.2.2.2.2.2.2.2.2.2.1) (q.resolve_left (by decide)),
        fun q => (hJ.2.2.2.2.2.2.2.2.2.2.2.2.2.2.2.2.2.2.2.2.2.2.2.2.1) (q.resolve_left (by decide)),
        fun _ => by first | exact rfl | exact e15,
        fun _ => rfl,
        fun q => (hJ.2.2.2.2.2.2.2.2.2.2.2.2.2.2.2.2.2.2.2.2.2.2.2.2.2.2.2.1) (q.resolve_left (by decide)),
        fun q => (hJ.2.2.2.2.2.2.2.2.2.2.2.2.2.2.2.2.2.2.2.2.2.2.2.2.2.2.2.2.1) (q.resolve_left (by decide)),
        fun q => (hJ.2.2.2.2.2.2.2.2.2.2.2.2.2.2.2.2.2.2.2.2.2.2.2.2.2.2.2.2.2.1) (q.resolve_left (by decide)),
        fun q => (hJ.2.2.2.2.2.2.2.2.2.2.2.2.2.2.2.2.2.2.2.2.2.2.2.2.2.2.2.2.2.2.1) (q.resolve_left (by decide)),
        fun q => (hJ.2.2.2.2.2.2.2.2.2.2.2.2.2.2.2.2.2.2.2.2.2.2.2.2.2.2.2.2.2.2.2.1) (q.resolve_left (by decide)),
        fun q => (hJ.2.2.2.2.2.2.2.2.2.2.2.2.2.2.2.2.2.2.2.2.2.2.2.2.2.2.2.2.2.2.2.2.1) (q.resolve_left (by decide)),
        fun q => (hJ.2.2.2.2.2.2.2.2.2.2.2.2.2.2.2.2.2.2.2.2.2.2.2.2.2.2.2.2.2.2.2.2.2.1) (q.resolve_left (by decide)),
        fun q => (hJ.2.2.2.2.2.2.2.2.2.2.2.2.2.2.2.2.2.2.2.2.2.2.2.2.2.2.2.2.2.2.2.2.2.2) (q.resolve_left (by decide))⟩
    refine StepsOk.cons (i := 17) rfl (fun L x G w1 K Q hn hp hJ hK => ?_) ?_
    · skip
      simp only [putAll, Act.put, List.setIfInBounds_toArray, List.set_cons_zero, List.set_cons_succ]
      go_simp
      refine hK _ G _ (by kernel_rfl) ?_
      exact ⟨(hJ.1),
        (hJ.2.1),
        (hJ.2.2.1),
        (hJ.2.2.2.1),
        (hJ.2.2.2.2.1),
        (hJ.2.2.2.2.2.1),
        fun n => (hJ.2.2.2.2.2.2.1) (fun m => n (.inr m)),
        fun q => (hJ.2.2.2.2.2.2.2.1) (q.resolve_left (by decide)),
        fun q => (hJ.2.2.2.2.2.2.2.2.1) (q.resolve_left (by decide)),
        fun q => (hJ.2.2.2.2.2.2.2.2.2.1) (q.resolve_left (by decide)),
        fun q => (hJ.2.2.2.2.2.2.2.2.2.2.1) (q.resolve_left (by decide)),
        fun q => (hJ.2.2.2.2.2.2.2.2.2.2.2.1) (q.resolve_left (by decide)),
        fun q => (hJ.2.2.2.2.2.2.2.2.2.2.2.2.1) (q.resolve_left (by decide)),
        fun q => (hJ.2.2.2.2.2.2.2.2.2.2.2.2.2.1) (q.resolve_left (by decide)),
        fun q => (hJ.2.2.2.2.2.2.2.2.2.2.2.2.2.2.1) (q.resolve_left (by decide)),
        fun q => (hJ.2.2.2.2.2.2.2.2.2.2.2.2.2.2.2.1) (q.resolve_left (by decide)),
        fun q => (hJ.2.2.2.2.2.2.2.2.2.2.2.2.2.2.2.2.1) (q.resolve_left (by decide)),
        fun q => (hJ.2.2.2.2.2.2.2.2.2.2.2.2.2.2.2.2.2.1) (q.resolve_left (by decide)),
        fun q => (hJ.2.2.2.2.2.2.2.2.2.2.2.2.2.2.2.2.2.2.1) (q.resolve_left (by decide)),
        fun q => (hJ.2.2.2.2.2.2.2.2.2.2.2.2.2.2.2.2.2.2.2.1) (q.resolve_left (by decide)),
        fun q => (hJ.2.2.2.2.2.2.2.2.2.2.2.2.2.2.2.2.2.2.2.2.1) (q.resolve_left (by decide)),
        fun q => (hJ.2.2.2.2.2.2.2.2.2.2.2.2.2.2.2.2.2.2.2.2.2.1) (q.resolve_left (by decide)),
        fun q => (hJ.2.2.2.2.2.2.2.2.2.2.2.2.2.2.2.2.2.2.2.2.2.2.1) (q.resolve_left (by decide)),
        fun q => (hJ.2.2.2.2.2.2.2.2.2.2.2.2.2.2.2.2.2.2.2.2.2.2.2.1) (q.resolve_left (by decide)),
        fun q => (hJ.2.2.2.2.2.2.2.2.2.2.2.2.2.2.2.2.2.2.2.2.2.2.2.2.1) (q.resolve_left (by decide)),
        fun q => (hJ.2.2.2.2.2.2.2.2.2.2.2.2.2.2.2.2.2.2.2.2.2.2.2.2.2.1) (q.resolve_left (by decide)),
        fun q => (hJ.2.2.2.2.2.2.2.2.2.2.2.2.2.2.2.2.2.2.2.2.2.2.2.2.2.2.1) (q.resolve_left (by decide)),
        fun _ => rfl,
        fun q => (hJ.2.2.2.2.2.2.2.2.2.2.2.2.2.2.2.2.2.2.2.2.2.2.2.2.2.2.2.2.1) (q.resolve_left (by decide)),
        fun q => (hJ.2.2.2.2.2.2.2.2.2.2.2.2.2.2.2.2.2.2.2.2.2.2.2.2.2.2.2.2.2.1) (q.resolve_left (by decide)),
        fun q => (hJ.2.2.2.2.2.2.2.2.2.2.2.2.2.2.2.2.2.2.2.2.2.2.2.2.2.2.2.2.2.2.1) (q.resolve_left (by decide)),
        fun q => (hJ.2.2.2.2.2.2.2.2.2.2.2.2.2.2.2.2.2.2.2.2.2.2.2.2.2.2.2.2.2.2.2.1) (q.resolve_left (by decide)),
        fun q => (hJ.2.2.2.2.2.2.2.2.2.2.2.2.2.2.2.2.2.2.2.2.2.2.2.2.2.2.2.2.2.2.2.2.1) (q.resolve_left (by decide)),
        fun q => (hJ.2.2.2.2.2.2.2.2.2.2.2.2.2.2.2.2.2.2.2.2.2.2.2.2.2.2.2.2.2.2.2.2.2.1) (q.resolve_left (by decide)),
        fun q => (hJ.2.2.2.2.2.2.2.2.2.2.2.2.2.2.2.2.2.2.2.2.2.2.2.2.2.2.2.2.2.2.2.2.2.2) (q.resolve_left (by decide))⟩
    refine StepsOk.cons (i := 18) rfl (fun L x G w1 K Q hn hp hJ hK => ?_) ?_
    · skip
      have p17 : L 17 := hp ⟨17, .data⟩ (by simp) rfl
      have e17 := (hJ.2.2.2.2.2.2.2.2.2.2.2.2.2.2.2.2.2.2.2.2.2.2.2.2.2.2.2.1) p17
      have hc := Blk.open2 ((hJ.2.2.2.2.1))
      have c0 := hc.1
      have c1 := hc.2.1
      have c2 := hc.2.2.1
      have c3 := hc.2.2.2
      clear hc
      simp only [putAll, Act.put, List.setIfInBounds_toArray, List.set_cons_zero, List.set_cons_succ]
      go_simp
      refine hK _ G _ (by kernel_rfl) ?_
      exact ⟨(hJ.1),
        (hJ.2.1),
        (hJ.2.2.1),
        (hJ.2.2.2.1),
        (hJ.2.2.2.2.1),
        (hJ.2.2.2.2.2.1),
        fun n => (hJ.2.2.2.2.2.2.1) (fun m => n (.inr m)),
        fun q => (hJ.2.2.2.2.2.2.2.1) (q.resolve_left (by decide)),
        fun q => (hJ.2.2.2.2.2.2.2.2.1) (q.resolve_left (by decide)),
        fun q => (hJ.2.2.2.2.2.2.2.2.2.1) (q.resolve_left (by decide)),
        fun q => (hJ.2.2.2.2.2.2.2.2.2.2.1) (q.resolve_left (by decide)),
        fun q => (hJ.2.2.2.2.2.2.2.2.2.2.2.1) (q.resolve_left (by decide)),
        fun q => (hJ.2.2.2.2.2.2.2.2.2.2.2.2.1) (q.resolve_left (by decide)),
        fun q => (hJ.2.2.2.2.2.2.2.2.2.2.2.2.2.1) (q.resolve_left (by decide)),
        fun q => (hJ.2.2.2.2.2.2.2.2.2.2.2.2.2.2.1) (q.resolve_left (by decide)),
        fun q => (hJ.2.2.2.2.2.2.2.2.2.2.2.2.2.2.2.1) (q.resolve_left (by decide)),
        fun q => (hJ.2.2.2.2.2.2.2.2.2.2.2.2.2.2.2.2.1) (q.resolve_left (by decide)),
        fun q => (hJ.2.2.2.2.2.2.2.2.2.2.2.2.2.2.2.2.2.1) (q.resolve_left (by decide)),
        fun q => (hJ.2.2.2.2.2.2.2.2.2.2.2.2.2.2.2.2.2.2.1) (q.resolve_left (by decide)),
        fun q => (hJ.2.2.2.2.2.2.2.2.2.2.2.2.2.2.2.2.2.2.2.1) (q.resolve_left (by decide)),
        fun q => (hJ.2.2.2.2.2.2.2.2.2.2.2.2.2.2.2.2.2.2.2.2.1) (q.resolve_left (by decide)),
        fun q => (hJ.2.2.2.2.2.2.2.2.2.2.2.2.2.2.2.2.2.2.2.2.2.1) (q.resolve_left (by decide)),
        fun q => (hJ.2.2.2.2.2.2.2.2.2.2.2.2.2.2.2.2.2.2.2.2.2.2.1) (q.resolve_left (by decide)),
        fun q => (hJ.2.2.2.2.2.2.2.2.2.2.2.2.2.2.2.2.2.2.2.2.2.2.2.1) (q.resolve_left (by decide)),
        fun q => (hJ.2.2.2.2.2.2.2.2.2.2.2.2.2.2.2.2.2.2.2.2.2.2.2.2.1) (q.resolve_left (by decide)),
        fun q => (hJ.2.2.2.2.2.2.2.2.2.2.2.2.2.2.2.2.2.2.2.2.2.2.2.2.2.1) (q.resolve_left (by decide)),
        fun q => (hJ.2.2.2.2.2.2.2.2.2.2.2.2.2.2.2.2.2.2.2.2.2.2.2.2.2.2.1) (q.resolve_left (by decide)),
        fun _ => by first | exact rfl | exact e17,
        fun _ => rfl,
        fun q => (hJ.2.2.2.2.2.2.2.2.2.2.2.2.2.2.2.2.2.2.2.2.2.2.2.2.2.2.2.2.2.1) (q.resolve_left (by decide)),
        fun q => (hJ.2.2.2.2.2.2.2.2.2.2.2.2.2.2.2.2.2.2.2.2.2.2.2.2.2.2.2.2.2.2.1) (q.resolve_left (by decide)),
        fun q => (hJ.2.2.2.2.2.2.2.2.2.2.2.2.2.2.2.2.2.2.2.2.2.2.2.2.2.2.2.2.2.2.2.1) (q.resolve_left (by decide)),
        fun q => (hJ.2.2.2.2.2.2.2.2.2.2.2.2.2.2.2.2.2.2.2.2.2.2.2.2.2.2.2.2.2.2.2.2.1) (q.resolve_left (by decide)),
        fun q => (hJ.2.2.2.2.2.2.2.2.2.2.2.2.2.2.2.2.2.2.2.2.2.2.2.2.2.2.2.2.2.2.2.2.2.1) (q.resolve_left (by decide)),
        fun q => (hJ.2.2.2.2.2.2.2.2.2.2.2.2.2.2.2.2.2.2.2.2.2.2.2.2.2.2.2.2.2.2.2.2.2.2) (q.resolve_left (by decide))⟩
    refine StepsOk.cons (i := 19) rfl (fun L x G w1 K Q hn hp hJ hK => ?_) ?_
    · skip
      have p16 : L 16 := hp ⟨16, .data⟩ (by simp) rfl
      have e16 := (hJ.2.2.2.2.2.2.2.2.2.2.2.2.2.2.2.2.2.2.2.2.2.2.2.2.2.2.1) p16
      have p18 : L 18 := hp ⟨18, .data⟩ (by simp) rfl
      have e18 := (hJ.2.2.2.2.2.2.2.2.2.2.2.2.2.2.2.2.2.2.2.2.2.2.2.2.2.2.2.2.1) p18
      simp only [putAll, Act.put, List.setIfInBounds_toArray, List.set_cons_zero, List.set_cons_succ]
      go_simp
      refine (rmul_c _ _ _ xx1 xx2 yy1 yy2).mono ?_
      rintro e w2 ⟨rfl, hb⟩
      have hz := hb.size
      try go_simp
      refine hK _ G _ (by kernel_rfl) ?_
      exact ⟨bt (hJ.1) hb,
        Nat.lt_of_lt_of_le (hJ.2.1) hb.size,
        Blk.keep ((hJ.2.2.1)) hb,
        Nat.lt_of_lt_of_le (hJ.2.2.2.1) hb.size,
        Blk.keep ((hJ.2.2.2.2.1)) hb,
        Nat.lt_of_lt_of_le (hJ.2.2.2.2.2.1) hb.size,
        fun n => Blk.keep ((hJ.2.2.2.2.2.2.1) (fun m => n (.inr m))) hb,
        fun q => Blk.keep ((hJ.2.2.2.2.2.2.2.1) (q.resolve_left (by decide))) hb,
        fun q => ⟨((hJ.2.2.2.2.2.2.2.2.1) (q.resolve_left (by decide))).1, by have := ((hJ.2.2.2.2.2.2.2.2.1) (q.resolve_left (by decide))).2.1; omega, ((hJ.2.2.2.2.2.2.2.2.1) (q.resolve_left (by decide))).2.2⟩,
        fun q => Blk.keep ((hJ.2.2.2.2.2.2.2.2.2.1) (q.resolve_left (by decide))) hb,
        fun q => (hJ.2.2.2.2.2.2.2.2.2.2.1) (q.resolve_left (by decide)),
        fun q => (hJ.2.2.2.2.2.2.2.2.2.2.2.1) (q.resolve_left (by decide)),
        fun q => (hJ.2.2.2.2.2.2.2.2.2.2.2.2.1) (q.resolve_left (by decide)),
        fun q => (hJ.2.2.2.2.2.2.2.2.2.2.2.2.2.1) (q.resolve_left (by decide)),
        fun q => (hJ.2.2.2.2.2.2.2.2.2.2.2.2.2.2.1) (q.resolve_left (by decide)),
        fun q => (hJ.2.2.2.2.2.2.2.2.2.2.2.2.2.2.2.1) (q.resolve_left (by decide)),
        fun q => (hJ.2.2.2.2.2.2.2.2.2.2.2.2.2.2.2.2.1) (q.resolve_left (by decide)),
        fun q => (hJ.2.2.2.2.2.2.2.2.2.2.2.2.2.2.2.2.2.1) (q.resolve_left (by decide)),
        fun q => (hJ.2.2.2.2.2.2.2.2.2.2.2.2.2.2.2.2.2.2.1) (q.resolve_left (by decide)),
        fun q => (hJ.2.2.2.2.2.2.2.2.2.2.2.2.2.2.2.2.2.2.2.1) (q.resolve_left (by decide)),
        fun q => (hJ.2.2.2.2.2.2.2.2.2.2.2.2.2.2.2.2.2.2.2.2.1) (q.resolve_left (by decide)),
        fun q => (hJ.2.2.2.2.2.2.2.2.2.2.2.2.2.2.2.2.2.2.2.2.2.1) (q.resolve_left (by decide)),
        fun q => (hJ.2.2.2.2.2.2.2.2.2.2.2.2.2.2.2.2.2.2.2.2.2.2.1) (q.resolve_left (by decide)),
        fun q => (hJ.2.2.2.2.2.2.2.2.2.2.2.2.2.2.2.2.2.2.2.2.2.2.2.1) (q.resolve_left (by decide)),
        fun q => (hJ.2.2.2.2.2.2.2.2.2.2.2.2.2.2.2.2.2.2.2.2.2.2.2.2.1) (q.resolve_left (by decide)),
        fun q => (hJ.2.2.2.2.2.2.2.2.2.2.2.2.2.2.2.2.2.2.2.2.2.2.2.2.2.1) (q.resolve_left (by decide)),
        fun _ => by first | exact rfl | exact e16,
        fun q => (hJ.2.2.2.2.2.2.2.2.2.2.2.2.2.2.2.2.2.2.2.2.2.2.2.2.2.2.2.1) (q.resolve_left (by decide)),
        fun _ => by first | exact rfl | exact e18,
        fun _ => rfl,
        fun q => (hJ.2.2.2.2.2.2.2.2.2.2.2.2.2.2.2.2.2.2.2.2.2.2.2.2.2.2.2.2.2.2.1) (q.resolve_left (by decide)),
        fun q => (hJ.2.2.2.2.2.2.2.2.2.2.2.2.2.2.2.2.2.2.2.2.2.2.2.2.2.2.2.2.2.2.2.1) (q.resolve_left (by decide)),
        fun q => (hJ.2.2.2.2.2.2.2.2.2.2.2.2.2.2.2.2.2.2.2.2.2.2.2.2.2.2.2.2.2.2.2.2.1) (q.resolve_left (by decide)),
        fun q => (hJ.2.2.2.2.2.2.2.2.2.2.2.2.2.2.2.2.2.2.2.2.2.2.2.2.2.2.2.2.2.2.2.2.2.1) (q.resolve_left (by decide)),
        fun q => (hJ.2.2.2.2.2.2.2.2.2.2.2.2.2.2.2.2.2.2.2.2.2.2.2.2.2.2.2.2.2.2.2.2.2.2) (q.resolve_left (by decide))⟩
    refine StepsOk.cons (i := 20) rfl (fun L x G w1 K Q hn hp hJ hK => ?_) ?_
    · skip
      have p4 : L 4 := hp ⟨4, .data⟩ (by simp) rfl
      have e4 := (hJ.2.2.2.2.2.2.2.2.2.2.2.2.2.2.1) p4
      have p9 : L 9 := hp ⟨9, .data⟩ (by simp) rfl
      have e9 := (hJ.2.2.2.2.2.2.2.2.2.2.2.2.2.2.2.2.2.2.2.1) p9
      have p14 : L 14 := hp ⟨14, .data⟩ (by simp) rfl
      have e14 := (hJ.2.2.2.2.2.2.2.2.2.2.2.2.2.2.2.2.2.2.2.2.2.2.2.2.1) p14
      have p19 : L 19 := hp ⟨19, .data⟩ (by simp) rfl
      have e19 := (hJ.2.2.2.2.2.2.2.2.2.2.2.2.2.2.2.2.2.2.2.2.2.2.2.2.2.2.2.2.2.1) p19
      simp only [putAll, Act.put, List.setIfInBounds_toArray, List.set_cons_zero, List.set_cons_succ]
      go_simp
      refine hK _ (fun t => if t = 20 then w1.heap.size else G t) _ (by kernel_rfl) ?_
      exact ⟨bal (hJ.1) _,
        by simp; omega,
        Blk.alloc ((hJ.2.2.1)) _,
        by simp; omega,
        Blk.alloc ((hJ.2.2.2.2.1)) _,
        by simp; omega,
        fun n => Blk.alloc ((hJ.2.2.2.2.2.2.1) (fun m => n (.inr m))) _,
        fun q => Blk.alloc ((hJ.2.2.2.2.2.2.2.1) (q.resolve_left (by decide))) _,
        fun _ => ⟨(hJ.1).size, by simp, Nat.ne_of_lt (hJ.2.1), Nat.ne_of_lt (hJ.2.2.2.1), Nat.ne_of_lt (hJ.2.2.2.2.2.1)⟩,
        fun _ => Blk.new w1 _ _,
        fun q => (hJ.2.2.2.2.2.2.2.2.2.2.1) (q.resolve_left (by decide)),
        fun q => (hJ.2.2.2.2.2.2.2.2.2.2.2.1) (q.resolve_left (by decide)),
        fun q => (hJ.2.2.2.2.2.2.2.2.2.2.2.2.1) (q.resolve_left (by decide)),
        fun q => (hJ.2.2.2.2.2.2.2.2.2.2.2.2.2.1) (q.resolve_left (by decide)),
        fun _ => by first | exact rfl | exact e4,
        fun q => (hJ.2.2.2.2.2.2.2.2.2.2.2.2.2.2.2.1) (q.resolve_left (by decide)),
        fun q => (hJ.2.2.2.2.2.2.2.2.2.2.2.2.2.2.2.2.1) (q.resolve_left (by decide)),
        fun q => (hJ.2.2.2.2.2.2.2.2.2.2.2.2.2.2.2.2.2.1) (q.resolve_left (by decide)),
        fun q => (hJ.2.2.2.2.2.2.2.2.2.2.2.2.2.2.2.2.2.2.1) (q.resolve_left (by decide)),
        fun _ => by first | exact rfl | exact e9,
        fun q => (hJ.2.2.2.2.2.2.2.2.2.2.2.2.2.2.2.2.2.2.2.2.1) (q.resolve_left (by decide)),
        fun q => (hJ.2.2.2.2.2.2.2.2.2.2.2.2.2.2.2.2.2.2.2.2.2.1) (q.resolve_left (by decide)),
        fun q => (hJ.2.2.2.2.2.2.2.2.2.2.2.2.2.2.2.2.2.2.2.2.2.2.1) (q.resolve_left (by decide)),
        fun q => (hJ.2.2.2.2.2.2.2.2.2.2.2.2.2.2.2.2.2.2.2.2.2.2.2.1) (q.resolve_left (by decide)),
        fun _ => by first | exact rfl | exact e14,
        fun q => (hJ.2.2.2.2.2.2.2.2.2.2.2.2.2.2.2.2.2.2.2.2.2.2.2.2.2.1) (q.resolve_left (by decide)),
        fun q => (hJ.2.2.2.2.2.2.2.2.2.2.2.2.2.2.2.2.2.2.2.2.2.2.2.2.2.2.1) (q.resolve_left (by decide)),
        fun q => (hJ.2.2.2.2.2.2.2.2.2.2.2.2.2.2.2.2.2.2.2.2.2.2.2.2.2.2.2.1) (q.resolve_left (by decide)),
        fun q => (hJ.2.2.2.2.2.2.2.2.2.2.2.2.2.2.2.2.2.2.2.2.2.2.2.2.2.2.2.2.1) (q.resolve_left (by decide)),
        fun _ => by first | exact rfl | exact e19,
        fun _ => rfl,
        fun q => (hJ.2.2.2.2.2.2.2.2.2.2.2.2.2.2.2.2.2.2.2.2.2.2.2.2.2.2.2.2.2.2.2.1) (q.resolve_left (by decide)),
        fun q => (hJ.2.2.2.2.2.2.2.2.2.2.2.2.2.2.2.2.2.2.2.2.2.2.2.2.2.2.2.2.2.2.2.2.1) (q.resolve_left (by decide)),
        fun q => (hJ.2.2.2.2.2.2.2.2.2.2.2.2.2.2.2.2.2.2.2.2.2.2.2.2.2.2.2.2.2.2.2.2.2.1) (q.resolve_left (by decide)),
        fun q => (hJ.2.2.2.2.2.2.2.2.2.2.2.2.2.2.2.2.2.2.2.2.2.2.2.2.2.2.2.2.2.2.2.2.2.2) (q.resolve_left (by decide))⟩
    refine StepsOk.cons (i := 21) rfl (fun L x G w1 K Q hn hp hJ hK => ?_) ?_
    · skip
      have p20 : L 20 := hp ⟨20, .data⟩ (by simp) rfl
      have e20 := (hJ.2.2.2.2.2.2.2.2.2.2.2.2.2.2.2.2.2.2.2.2.2.2.2.2.2.2.2.2.2.2.1) p20
      simp only [putAll, Act.put, List.setIfInBounds_toArray, List.set_cons_zero, List.set_cons_succ]
      go_simp
      refine (rexact_c _ 4 4 (four (l * l') (l * h') (h * l') (h * h')) _ (rd4W ((hJ.2.2.2.2.2.2.2.2.2.1) p20)) (by decide) (four_W m1 m2 m3 m4)).mono ?_
      rintro e w2 ⟨rfl, hb⟩
      have hz := hb.size
      try go_simp
      refine hK _ G _ (by kernel_rfl) ?_
      exact ⟨bt (hJ.1) hb,
        Nat.lt_of_lt_of_le (hJ.2.1) hb.size,
        Blk.keep ((hJ.2.2.1)) hb,
        Nat.lt_of_lt_of_le (hJ.2.2.2.1) hb.size,
        Blk.keep ((hJ.2.2.2.2.1)) hb,
        Nat.lt_of_lt_of_le (hJ.2.2.2.2.2.1) hb.size,
        fun n => Blk.keep ((hJ.2.2.2.2.2.2.1) (fun m => n (.inr m))) hb,
        fun q => Blk.keep ((hJ.2.2.2.2.2.2.2.1) (q.resolve_left (by decide))) hb,
        fun q => ⟨((hJ.2.2.2.2.2.2.2.2.1) (q.resolve_left (by decide))).1, by have := ((hJ.2.2.2.2.2.2.2.2.1) (q.resolve_left (by decide))).2.1; omega, ((hJ.2.2.2.2.2.2.2.2.1) (q.resolve_left (by decide))).2.2⟩,
        fun q => Blk.keep ((hJ.2.2.2.2.2.2.2.2.2.1) (q.resolve_left (by decide))) hb,
        fun q => (hJ.2.2.2.2.2.2.2.2.2.2.1) (q.resolve_left (by decide)),
        fun q => (hJ.2.2.2.2.2.2.2.2.2.2.2.1) (q.resolve_left (by decide)),
        fun q => (hJ.2.2.2.2.2.2.2.2.2.2.2.2.1) (q.resolve_left (by decide)),
        fun q => (hJ.2.2.2.2.2.2.2.2.2.2.2.2.2.1) (q.resolve_left (by decide)),
        fun q => (hJ.2.2.2.2.2.2.2.2.2.2.2.2.2.2.1) (q.resolve_left (by decide)),
        fun q => (hJ.2.2.2.2.2.2.2.2.2.2.2.2.2.2.2.1) (q.resolve_left (by decide)),
        fun q => (hJ.2.2.2.2.2.2.2.2.2.2.2.2.2.2.2.2.1) (q.resolve_left (by decide)),
        fun q => (hJ.2.2.2.2.2.2.2.2.2.2.2.2.2.2.2.2.2.1) (q.resolve_left (by decide)),
        fun q => (hJ.2.2.2.2.2.2.2.2.2.2.2.2.2.2.2.2.2.2.1) (q.resolve_left (by decide)),
        fun q => (hJ.2.2.2.2.2.2.2.2.2.2.2.2.2.2.2.2.2.2.2.1) (q.resolve_left (by decide)),
        fun q => (hJ.2.2.2.2.2.2.2.2.2.2.2.2.2.2.2.2.2.2.2.2.1) (q.resolve_left (by decide)),
        fun q => (hJ.2.2.2.2.2.2.2.2.2.2.2.2.2.2.2.2.2.2.2.2.2.1) (q.resolve_left (by decide)),
        fun q => (hJ.2.2.2.2.2.2.2.2.2.2.2.2.2.2.2.2.2.2.2.2.2.2.1) (q.resolve_left (by decide)),
        fun q => (hJ.2.2.2.2.2.2.2.2.2.2.2.2.2.2.2.2.2.2.2.2.2.2.2.1) (q.resolve_left (by decide)),
        fun q => (hJ.2.2.2.2.2.2.2.2.2.2.2.2.2.2.2.2.2.2.2.2.2.2.2.2.1) (q.resolve_left (by decide)),
        fun q => (hJ.2.2.2.2.2.2.2.2.2.2.2.2.2.2.2.2.2.2.2.2.2.2.2.2.2.1) (q.resolve_left (by decide)),
        fun q => (hJ.2.2.2.2.2.2.2.2.2.2.2.2.2.2.2.2.2.2.2.2.2.2.2.2.2.2.1) (q.resolve_left (by decide)),
        fun q => (hJ.2.2.2.2.2.2.2.2.2.2.2.2.2.2.2.2.2.2.2.2.2.2.2.2.2.2.2.1) (q.resolve_left (by decide)),
        fun q => (hJ.2.2.2.2.2.2.2.2.2.2.2.2.2.2.2.2.2.2.2.2.2.2.2.2.2.2.2.2.1) (q.resolve_left (by decide)),
        fun q => (hJ.2.2.2.2.2.2.2.2.2.2.2.2.2.2.2.2.2.2.2.2.2.2.2.2.2.2.2.2.2.1) (q.resolve_left (by decide)),
        fun _ => by first | exact rfl | exact e20,
        fun _ => rfl,
        fun q => (hJ.2.2.2.2.2.2.2.2.2.2.2.2.2.2.2.2.2.2.2.2.2.2.2.2.2.2.2.2.2.2.2.2.1) (q.resolve_left (by decide)),
        fun q => (hJ.2.2.2.2.2.2.2.2.2.2.2.2.2.2.2.2.2.2.2.2.2.2.2.2.2.2.2.2.2.2.2.2.2.1) (q.resolve_left (by decide)),
        fun q => (hJ.2.2.2.2.2.2.2.2.2.2.2.2.2.2.2.2.2.2.2.2.2.2.2.2.2.2.2.2.2.2.2.2.2.2) (q.resolve_left (by decide))⟩
    refine StepsOk.cons (i := 22) rfl (fun L x G w1 K Q hn hp hJ hK => ?_) ?_
    · skip
      have p21 : L 21 := hp ⟨21, .data⟩ (by simp) rfl
      have e21 := (hJ.2.2.2.2.2.2.2.2.2.2.2.2.2.2.2.2.2.2.2.2.2.2.2.2.2.2.2.2.2.2.2.1) p21
      simp only [putAll, Act.put, List.setIfInBounds_toArray, List.set_cons_zero, List.set_cons_succ]
      go_simp
      refine hK _ G _ (by kernel_rfl) ?_
      exact ⟨(hJ.1),
        (hJ.2.1),
        (hJ.2.2.1),
        (hJ.2.2.2.1),
        (hJ.2.2.2.2.1),
        (hJ.2.2.2.2.2.1),
        fun n => (hJ.2.2.2.2.2.2.1) (fun m => n (.inr m)),
        fun q => (hJ.2.2.2.2.2.2.2.1) (q.resolve_left (by decide)),
        fun q => (hJ.2.2.2.2.2.2.2.2.1) (q.resolve_left (by decide)),
        fun q => (hJ.2.2.2.2.2.2.2.2.2.1) (q.resolve_left (by decide)),
        fun q => (hJ.2.2.2.2.2.2.2.2.2.2.1) (q.resolve_left (by decide)),
        fun q => (hJ.2.2.2.2.2.2.2.2.2.2.2.1) (q.resolve_left (by decide)),
        fun q => (hJ.2.2.2.2.2.2.2.2.2.2.2.2.1) (q.resolve_left (by decide)),
        fun q => (hJ.2.2.2.2.2.2.2.2.2.2.2.2.2.1) (q.resolve_left (by decide)),
        fun q => (hJ.2.2.2.2.2.2.2.2.2.2.2.2.2.2.1) (q.resolve_left (by decide)),
        fun q => (hJ.2.2.2.2.2.2.2.2.2.2.2.2.2.2.2.1) (q.resolve_left (by decide)),
        fun q => (hJ.2.2.2.2.2.2.2.2.2.2.2.2.2.2.2.2.1) (q.resolve_left (by decide)),
        fun q => (hJ.2.2.2.2.2.2.2.2.2.2.2.2.2.2.2.2.2.1) (q.resolve_left (by decide)),
        fun q => (hJ.2.2.2.2.2.2.2.2.2.2.2.2.2.2.2.2.2.2.1) (q.resolve_left (by decide)),
        fun q => (hJ.2.2.2.2.2.2.2.2.2.2.2.2.2.2.2.2.2.2.2.1) (q.resolve_left (by decide)),
        fun q => (hJ.2.2.2.2.2.2.2.2.2.2.2.2.2.2.2.2.2.2.2.2.1) (q.resolve_left (by decide)),
        fun q => (hJ.2.2.2.2.2.2.2.2.2.2.2.2.2.2.2.2.2.2.2.2.2.1) (q.resolve_left (by decide)),
        fun q => (hJ.2.2.2.2.2.2.2.2.2.2.2.2.2.2.2.2.2.2.2.2.2.2.1) (q.resolve_left (by decide)),
        fun q => (hJ.2.2.2.2.2.2.2.2.2.2.2.2.2.2.2.2.2.2.2.2.2.2.2.1) (q.resolve_left (by decide)),
        fun q => (hJ.2.2.2.2.2.2.2.2.2.2.2.2.2.2.2.2.2.2.2.2.2.2.2.2.1) (q.resolve_left (by decide)),
        fun q => (hJ.2.2.2.2.2.2.2.2.2.2.2.2.2.2.2.2.2.2.2.2.2.2.2.2.2.1) (q.resolve_left (by decide)),
        fun q => (hJ.2.2.2.2.2.2.2.2.2.2.2.2.2.2.2.2.2.2.2.2.2.2.2.2.2.2.1) (q.resolve_left (by decide)),
        fun q => (hJ.2.2.2.2.2.2.2.2.2.2.2.2.2.2.2.2.2.2.2.2.2.2.2.2.2.2.2.1) (q.resolve_left (by decide)),
        fun q => (hJ.2.2.2.2.2.2.2.2.2.2.2.2.2.2.2.2.2.2.2.2.2.2.2.2.2.2.2.2.1) (q.resolve_left (by decide)),
        fun q => (hJ.2.2.2.2.2.2.2.2.2.2.2.2.2.2.2.2.2.2.2.2.2.2.2.2.2.2.2.2.2.1) (q.resolve_left (by decide)),
        fun q => (hJ.2.2.2.2.2.2.2.2.2.2.2.2.2.2.2.2.2.2.2.2.2.2.2.2.2.2.2.2.2.2.1) (q.resolve_left (by decide)),
        fun _ => by first | exact rfl | exact e21,
        fun _ => rfl,
        fun q => (hJ.2.2.2.2.2.2.2.2.2.2.2.2.2.2.2.2.2.2.2.2.2.2.2.2.2.2.2.2.2.2.2.2.2.1) (q.resolve_left (by decide)),
        fun q => (hJ.2.2.2.2.2.2.2.2.2.2.2.2.2.2.2.2.2.2.2.2.2.2.2.2.2.2.2.2.2.2.2.2.2.2) (q.resolve_left (by decide))⟩
    refine StepsOk.cons (i := 23) rfl (fun L x G w1 K Q hn hp hJ hK => ?_) ?_
    · skip
      have p21 : L 21 := hp ⟨21, .data⟩ (by simp) rfl
      have e21 := (hJ.2.2.2.2.2.2.2.2.2.2.2.2.2.2.2.2.2.2.2.2.2.2.2.2.2.2.2.2.2.2.2.1) p21
      simp only [putAll, Act.put, List.setIfInBounds_toArray, List.set_cons_zero, List.set_cons_succ]
      go_simp
      refine hK _ G _ (by kernel_rfl) ?_
      exact ⟨(hJ.1),
        (hJ.2.1),
        (hJ.2.2.1),
        (hJ.2.2.2.1),
        (hJ.2.2.2.2.1),
        (hJ.2.2.2.2.2.1),
        fun n => (hJ.2.2.2.2.2.2.1) (fun m => n (.inr m)),
        fun q => (hJ.2.2.2.2.2.2.2.1) (q.resolve_left (by decide)),
        fun q => (hJ.2.2.2.2.2.2.2.2.1) (q.resolve_left (by decide)),
        fun q => (hJ.2.2.2.2.2.2.2.2.2.1) (q.resolve_left (by decide)),
        fun q => (hJ.2.2.2.2.2.2.2.2.2.2.1) (q.resolve_left (by decide)),
        fun q => (hJ.2.2.2.2.2.2.2.2.2.2.2.1) (q.resolve_left (by decide)),
        fun q => (hJ.2.2.2.2.2.2.2.2.2.2.2.2.1) (q.resolve_left (by decide)),
        fun q => (hJ.2.2.2.2.2.2.2.2.2.2.2.2.2.1) (q.resolve_left (by decide)),
        fun q => (hJ.2.2.2.2.2.2.2.2.2.2.2.2.2.2.1) (q.resolve_left (by decide)),
        fun q => (hJ.2.2.2.2.2.2.2.2.2.2.2.2.2.2.2.1) (q.resolve_left (by decide)),
        fun q => (hJ.2.2.2.2.2.2.2.2.2.2.2.2.2.2.2.2.1) (q.resolve_left (by decide)),
        fun q => (hJ.2.2.2.2.2.2.2.2.2.2.2.2.2.2.2.2.2.1) (q.resolve_left (by decide)),
        fun q => (hJ.2.2.2.2.2.2.2.2.2.2.2.2.2.2.2.2.2.2.1) (q.resolve_left (by decide)),
        fun q => (hJ.2.2.2.2.2.2.2.2.2.2.2.2.2.2.2.2.2.2.2.1) (q.resolve_left (by decide)),
        fun q => (hJ.2.2.2.2.2.2.2.2.2.2.2.2.2.2.2.2.2.2.2.2.1) (q.resolve_left (by decide)),
        fun q => (hJ.2.2.2.2.2.2.2.2.2.2.2.2.2.2.2.2.2.2.2.2.2.1) (q.resolve_left (by decide)),
        fun q => (hJ.2.2.2.2.2.2.2.2.2.2.2.2.2.2.2.2.2.2.2.2.2.2.1) (q.resolve_left (by decide)),
        fun q => (hJ.2.2.2.2.2.2.2.2.2.2.2.2.2.2.2.2.2.2.2.2.2.2.2.1) (q.resolve_left (by decide)),
        fun q => (hJ.2.2.2.2.2.2.2.2.2.2.2.2.2.2.2.2.2.2.2.2.2.2.2.2.1) (q.resolve_left (by decide)),
        fun q => (hJ.2.2.2.2.2.2.2.2.2.2.2.2.2.2.2.2.2.2.2.2.2.2.2.2.2.1) (q.resolve_left (by decide)),
        fun q => (hJ.2.2.2.2.2.2.2.2.2.2.2.2.2.2.2.2.2.2.2.2.2.2.2.2.2.2.1) (q.resolve_left (by decide)),
        fun q => (hJ.2.2.2.2.2.2.2.2.2.2.2.2.2.2.2.2.2.2.2.2.2.2.2.2.2.2.2.1) (q.resolve_left (by decide)),
        fun q => (hJ.2.2.2.2.2.2.2.2.2.2.2.2.2.2.2.2.2.2.2.2.2.2.2.2.2.2.2.2.1) (q.resolve_left (by decide)),
        fun q => (hJ.2.2.2.2.2.2.2.2.2.2.2.2.2.2.2.2.2.2.2.2.2.2.2.2.2.2.2.2.2.1) (q.resolve_left (by decide)),
        fun q => (hJ.2.2.2.2.2.2.2.2.2.2.2.2.2.2.2.2.2.2.2.2.2.2.2.2.2.2.2.2.2.2.1) (q.resolve_left (by decide)),
        fun _ => by first | exact rfl | exact e21,
        fun q => (hJ.2.2.2.2.2.2.2.2.2.2.2.2.2.2.2.2.2.2.2.2.2.2.2.2.2.2.2.2.2.2.2.2.1) (q.resolve_left (by decide)),
        fun _ => rfl,
        fun q => (hJ.2.2.2.2.2.2.2.2.2.2.2.2.2.2.2.2.2.2.2.2.2.2.2.2.2.2.2.2.2.2.2.2.2.2) (q.resolve_left (by decide))⟩
    refine StepsOk.cons (i := 24) rfl (fun L x G w1 K Q hn hp hJ hK => ?_) ?_
    · skip
      have p22 : L 22 := hp ⟨22, .data⟩ (by simp) rfl
      have e22 := (hJ.2.2.2.2.2.2.2.2.2.2.2.2.2.2.2.2.2.2.2.2.2.2.2.2.2.2.2.2.2.2.2.2.1) p22
      have hc := Blk.open2 (((hJ.2.2.2.2.2.2.1) hn))
      have c0 := hc.1
      have c1 := hc.2.1
      have c2 := hc.2.2.1
      have c3 := hc.2.2.2
      clear hc
      simp only [putAll, Act.put, List.setIfInBounds_toArray, List.set_cons_zero, List.set_cons_succ]
      go_simp
      refine hK _ G _ (by kernel_rfl) ?_
      exact ⟨bst (bst ((hJ.1)) (p := ⟨w.heap.size + 1 + 1, 0, none⟩) (by first | (simp; done) | (simp; omega) | omega) (.int .i64 ((Iv.rs (Iv.mnU (four (l * l') (l * h') (h * l') (h * h')) 4) (Iv.mxU (four (l * l') (l * h') (h * l') (h * h')) 4)).lo))) (p := ⟨w.heap.size + 1 + 1, 1, none⟩) (by first | (simp; done) | (simp; omega) | omega) (.int .i64 ((Iv.rs (Iv.mnU (four (l * l') (l * h') (h * l') (h * h')) 4) (Iv.mxU (four (l * l') (l * h') (h * l') (h * h')) 4)).hi)),
        by simpa using (hJ.2.1),
        Blk.far (Blk.far ((hJ.2.2.1)) (p := ⟨w.heap.size + 1 + 1, 0, none⟩) (by first | (simp; done) | (simp; omega) | omega) (.int .i64 ((Iv.rs (Iv.mnU (four (l * l') (l * h') (h * l') (h * h')) 4) (Iv.mxU (four (l * l') (l * h') (h * l') (h * h')) 4)).lo))) (p := ⟨w.heap.size + 1 + 1, 1, none⟩) (by first | (simp; done) | (simp; omega) | omega) (.int .i64 ((Iv.rs (Iv.mnU (four (l * l') (l * h') (h * l') (h * h')) 4) (Iv.mxU (four (l * l') (l * h') (h * l') (h * h')) 4)).hi)),
        by simpa using (hJ.2.2.2.1),
        Blk.far (Blk.far ((hJ.2.2.2.2.1)) (p := ⟨w.heap.size + 1 + 1, 0, none⟩) (by first | (simp; done) | (simp; omega) | omega) (.int .i64 ((Iv.rs (Iv.mnU (four (l * l') (l * h') (h * l') (h * h')) 4) (Iv.mxU (four (l * l') (l * h') (h * l') (h * h')) 4)).lo))) (p := ⟨w.heap.size + 1 + 1, 1, none⟩) (by first | (simp; done) | (simp; omega) | omega) (.int .i64 ((Iv.rs (Iv.mnU (four (l * l') (l * h') (h * l') (h * h')) 4) (Iv.mxU (four (l * l') (l * h') (h * l') (h * h')) 4)).hi)),
        by simpa using (hJ.2.2.2.2.2.1),
        fun n => absurd (.inl rfl) n,
        fun _ => by simpa using Blk.set_ (Blk.set_ (((hJ.2.2.2.2.2.2.1) hn)) 0 (.int .i64 ((Iv.rs (Iv.mnU (four (l * l') (l * h') (h * l') (h * h')) 4) (Iv.mxU (four (l * l') (l * h') (h * l') (h * h')) 4)).lo))) 1 (.int .i64 ((Iv.rs (Iv.mnU (four (l * l') (l * h') (h * l') (h * h')) 4) (Iv.mxU (four (l * l') (l * h') (h * l') (h * h')) 4)).hi)),
        fun q => ⟨((hJ.2.2.2.2.2.2.2.2.1) (q.resolve_left (by decide))).1, by have := ((hJ.2.2.2.2.2.2.2.2.1) (q.resolve_left (by decide))).2.1; simpa using this, ((hJ.2.2.2.2.2.2.2.2.1) (q.resolve_left (by decide))).2.2⟩,
        fun q => Blk.far (Blk.far ((hJ.2.2.2.2.2.2.2.2.2.1) (q.resolve_left (by decide))) (p := ⟨w.heap.size + 1 + 1, 0, none⟩) (Ne.symm ((hJ.2.2.2.2.2.2.2.2.1) (q.resolve_left (by decide))).2.2.2.2) (.int .i64 ((Iv.rs (Iv.mnU (four (l * l') (l * h') (h * l') (h * h')) 4) (Iv.mxU (four (l * l') (l * h') (h * l') (h * h')) 4)).lo))) (p := ⟨w.heap.size + 1 + 1, 1, none⟩) (Ne.symm ((hJ.2.2.2.2.2.2.2.2.1) (q.resolve_left (by decide))).2.2.2.2) (.int .i64 ((Iv.rs (Iv.mnU (four (l * l') (l * h') (h * l') (h * h')) 4) (Iv.mxU (four (l * l') (l * h') (h * l') (h * h')) 4)).hi)),
        fun q => (hJ.2.2.2.2.2.2.2.2.2.2.1) (q.resolve_left (by decide)),
        fun q => (hJ.2.2.2.2.2.2.2.2.2.2.2.1) (q.resolve_left (by decide)),
        fun q => (hJ.2.2.2.2.2.2.2.2.2.2.2.2.1) (q.resolve_left (by decide)),
        fun q => (hJ.2.2.2.2.2.2.2.2.2.2.2.2.2.1) (q.resolve_left (by decide)),
        fun q => (hJ.2.2.2.2.2.2.2.2.2.2.2.2.2.2.1) (q.resolve_left (by decide)),
        fun q => (hJ.2.2.2.2.2.2.2.2.2.2.2.2.2.2.2.1) (q.resolve_left (by decide)),
        fun q => (hJ.2.2.2.2.2.2.2.2.2.2.2.2.2.2.2.2.1) (q.resolve_left (by decide)),
        fun q => (hJ.2.2.2.2.2.2.2.2.2.2.2.2.2.2.2.2.2.1) (q.resolve_left (by decide)),
        fun q => (hJ.2.2.2.2.2.2.2.2.2.2.2.2.2.2.2.2.2.2.1) (q.resolve_left (by decide)),
        fun q => (hJ.2.2.2.2.2.2.2.2.2.2.2.2.2.2.2.2.2.2.2.1) (q.resolve_left (by decide)),
        fun q => (hJ.2.2.2.2.2.2.2.2.2.2.2.2.2.2.2.2.2.2.2.2.1) (q.resolve_left (by decide)),
        fun q => (hJ.2.2.2.2.2.2.2.2.2.2.2.2.2.2.2.2.2.2.2.2.2.1) (q.resolve_left (by decide)),
        fun q => (hJ.2.2.2.2.2.2.2.2.2.2.2.2.2.2.2.2.2.2.2.2.2.2.1) (q.resolve_left (by decide)),
        fun q => (hJ.2.2.2.2.2.2.2.2.2.2.2.2.2.2.2.2.2.2.2.2.2.2.2.1) (q.resolve_left (by decide)),
        fun q => (hJ.2.2.2.2.2.2.2.2.2.2.2.2.2.2.2.2.2.2.2.2.2.2.2.2.1) (q.resolve_left (by decide)),
        fun q => (hJ.2.2.2.2.2.2.2.2.2.2.2.2.2.2.2.2.2.2.2.2.2.2.2.2.2.1) (q.resolve_left (by decide)),
        fun q => (hJ.2.2.2.2.2.2.2.2.2.2.2.2.2.2.2.2.2.2.2.2.2.2.2.2.2.2.1) (q.resolve_left (by decide)),
        fun q => (hJ.2.2.2.2.2.2.2.2.2.2.2.2.2.2.2.2.2.2.2.2.2.2.2.2.2.2.2.1) (q.resolve_left (by decide)),
        fun q => (hJ.2.2.2.2.2.2.2.2.2.2.2.2.2.2.2.2.2.2.2.2.2.2.2.2.2.2.2.2.1) (q.resolve_left (by decide)),
        fun q => (hJ.2.2.2.2.2.2.2.2.2.2.2.2.2.2.2.2.2.2.2.2.2.2.2.2.2.2.2.2.2.1) (q.resolve_left (by decide)),
        fun q => (hJ.2.2.2.2.2.2.2.2.2.2.2.2.2.2.2.2.2.2.2.2.2.2.2.2.2.2.2.2.2.2.1) (q.resolve_left (by decide)),
        fun q => (hJ.2.2.2.2.2.2.2.2.2.2.2.2.2.2.2.2.2.2.2.2.2.2.2.2.2.2.2.2.2.2.2.1) (q.resolve_left (by decide)),
        fun _ => by first | exact rfl | exact e22,
        fun q => (hJ.2.2.2.2.2.2.2.2.2.2.2.2.2.2.2.2.2.2.2.2.2.2.2.2.2.2.2.2.2.2.2.2.2.1) (q.resolve_left (by decide)),
        fun q => (hJ.2.2.2.2.2.2.2.2.2.2.2.2.2.2.2.2.2.2.2.2.2.2.2.2.2.2.2.2.2.2.2.2.2.2) (q.resolve_left (by decide))⟩
    refine StepsOk.cons (i := 25) rfl (fun L x G w1 K Q hn hp hJ hK => ?_) ?_
    · skip
      have p23 : L 23 := hp ⟨23, .data⟩ (by simp) rfl
      have e23 := (hJ.2.2.2.2.2.2.2.2.2.2.2.2.2.2.2.2.2.2.2.2.2.2.2.2.2.2.2.2.2.2.2.2.2.1) p23
      simp only [putAll, Act.put, List.setIfInBounds_toArray, List.set_cons_zero, List.set_cons_succ]
      go_simp
      refine hK _ G _ (by kernel_rfl) ?_
      exact ⟨(hJ.1),
        (hJ.2.1),
        (hJ.2.2.1),
        (hJ.2.2.2.1),
        (hJ.2.2.2.2.1),
        (hJ.2.2.2.2.2.1),
        fun n => (hJ.2.2.2.2.2.2.1) (fun m => n (.inr m)),
        fun q => (hJ.2.2.2.2.2.2.2.1) (q.resolve_left (by decide)),
        fun q => (hJ.2.2.2.2.2.2.2.2.1) (q.resolve_left (by decide)),
        fun q => (hJ.2.2.2.2.2.2.2.2.2.1) (q.resolve_left (by decide)),
        fun q => (hJ.2.2.2.2.2.2.2.2.2.2.1) (q.resolve_left (by decide)),
        fun q => (hJ.2.2.2.2.2.2.2.2.2.2.2.1) (q.resolve_left (by decide)),
        fun q => (hJ.2.2.2.2.2.2.2.2.2.2.2.2.1) (q.resolve_left (by decide)),
        fun q => (hJ.2.2.2.2.2.2.2.2.2.2.2.2.2.1) (q.resolve_left (by decide)),
        fun q => (hJ.2.2.2.2.2.2.2.2.2.2.2.2.2.2.1) (q.resolve_left (by decide)),
        fun q => (hJ.2.2.2.2.2.2.2.2.2.2.2.2.2.2.2.1) (q.resolve_left (by decide)),
        fun q => (hJ.2.2.2.2.2.2.2.2.2.2.2.2.2.2.2.2.1) (q.resolve_left (by decide)),
        fun q => (hJ.2.2.2.2.2.2.2.2.2.2.2.2.2.2.2.2.2.1) (q.resolve_left (by decide)),
        fun q => (hJ.2.2.2.2.2.2.2.2.2.2.2.2.2.2.2.2.2.2.1) (q.resolve_left (by decide)),
        fun q => (hJ.2.2.2.2.2.2.2.2.2.2.2.2.2.2.2.2.2.2.2.1) (q.resolve_left (by decide)),
        fun q => (hJ.2.2.2.2.2.2.2.2.2.2.2.2.2.2.2.2.2.2.2.2.1) (q.resolve_left (by decide)),
        fun q => (hJ.2.2.2.2.2.2.2.2.2.2.2.2.2.2.2.2.2.2.2.2.2.1) (q.resolve_left (by decide)),
        fun q => (hJ.2.2.2.2.2.2.2.2.2.2.2.2.2.2.2.2.2.2.2.2.2.2.1) (q.resolve_left (by decide)),
        fun q => (hJ.2.2.2.2.2.2.2.2.2.2.2.2.2.2.2.2.2.2.2.2.2.2.2.1) (q.resolve_left (by decide)),
        fun q => (hJ.2.2.2.2.2.2.2.2.2.2.2.2.2.2.2.2.2.2.2.2.2.2.2.2.1) (q.resolve_left (by decide)),
        fun q => (hJ.2.2.2.2.2.2.2.2.2.2.2.2.2.2.2.2.2.2.2.2.2.2.2.2.2.1) (q.resolve_left (by decide)),
        fun q => (hJ.2.2.2.2.2.2.2.2.2.2.2.2.2.2.2.2.2.2.2.2.2.2.2.2.2.2.1) (q.resolve_left (by decide)),
        fun q => (hJ.2.2.2.2.2.2.2.2.2.2.2.2.2.2.2.2.2.2.2.2.2.2.2.2.2.2.2.1) (q.resolve_left (by decide)),
        fun q => (hJ.2.2.2.2.2.2.2.2.2.2.2.2.2.2.2.2.2.2.2.2.2.2.2.2.2.2.2.2.1) (q.resolve_left (by decide)),
        fun q => (hJ.2.2.2.2.2.2.2.2.2.2.2.2.2.2.2.2.2.2.2.2.2.2.2.2.2.2.2.2.2.1) (q.resolve_left (by decide)),
        fun q => (hJ.2.2.2.2.2.2.2.2.2.2.2.2.2.2.2.2.2.2.2.2.2.2.2.2.2.2.2.2.2.2.1) (q.resolve_left (by decide)),
        fun q => (hJ.2.2.2.2.2.2.2.2.2.2.2.2.2.2.2.2.2.2.2.2.2.2.2.2.2.2.2.2.2.2.2.1) (q.resolve_left (by decide)),
        fun q => (hJ.2.2.2.2.2.2.2.2.2.2.2.2.2.2.2.2.2.2.2.2.2.2.2.2.2.2.2.2.2.2.2.2.1) (q.resolve_left (by decide)),
        fun _ => by first | exact rfl | exact e23,
        fun _ => rfl⟩
    exact StepsOk.nil
  case fin =>
    intro L x G w3 hall hJ
    replace X := (hJ.2.2.1)
    replace Y := (hJ.2.2.2.2.1)
    replace R := (hJ.2.2.2.2.2.2.2.1) (hall 24 (by decide))
    obtain ⟨haSL, hlSL, hnSLX, hnSLY, hnSLR⟩ := (hJ.2.2.2.2.2.2.2.2.1) (hall 20 (by decide))
    have SL := (hJ.2.2.2.2.2.2.2.2.2.1) (hall 20 (by decide))
    have u0 := hJ.2.2.2.2.2.2.2.2.2.2.1 (hall 0 (by decide))
    have u1 := hJ.2.2.2.2.2.2.2.2.2.2.2.1 (hall 1 (by decide))
    have u2 := hJ.2.2.2.2.2.2.2.2.2.2.2.2.1 (hall 2 (by decide))
    have u3 := hJ.2.2.2.2.2.2.2.2.2.2.2.2.2.1 (hall 3 (by decide))
    have u4 := hJ.2.2.2.2.2.2.2.2.2.2.2.2.2.2.1 (hall 4 (by decide))
    have u5 := hJ.2.2.2.2.2.2.2.2.2.2.2.2.2.2.2.1 (hall 5 (by decide))
    have u6 := hJ.2.2.2.2.2.2.2.2.2.2.2.2.2.2.2.2.1 (hall 6 (by decide))
    have u7 := hJ.2.2.2.2.2.2.2.2.2.2.2.2.2.2.2.2.2.1 (hall 7 (by decide))
    have u8 := hJ.2.2.2.2.2.2.2.2.2.2.2.2.2.2.2.2.2.2.1 (hall 8 (by decide))
    have u9 := hJ.2.2.2.2.2.2.2.2.2.2.2.2.2.2.2.2.2.2.2.1 (hall 9 (by decide))
    have u10 := hJ.2.2.2.2.2.2.2.2.2.2.2.2.2.2.2.2.2.2.2.2.1 (hall 10 (by decide))
    have u11 := hJ.2.2.2.2.2.2.2.2.2.2.2.2.2.2.2.2.2.2.2.2.2.1 (hall 11 (by decide))
    have u12 := hJ.2.2.2.2.2.2.2.2.2.2.2.2.2.2.2.2.2.2.2.2.2.2.1 (hall 12 (by decide))
    have u13 := hJ.2.2.2.2.2.2.2.2.2.2.2.2.2.2.2.2.2.2.2.2.2.2.2.1 (hall 13 (by decide))
    have u14 := hJ.2.2.2.2.2.2.2.2.2.2.2.2.2.2.2.2.2.2.2.2.2.2.2.2.1 (hall 14 (by decide))
    have u15 := hJ.2.2.2.2.2.2.2.2.2.2.2.2.2.2.2.2.2.2.2.2.2.2.2.2.2.1 (hall 15 (by decide))
    have u16 := hJ.2.2.2.2.2.2.2.2.2.2.2.2.2.2.2.2.2.2.2.2.2.2.2.2.2.2.1 (hall 16 (by decide))
    have u17 := hJ.2.2.2.2.2.2.2.2.2.2.2.2.2.2.2.2.2.2.2.2.2.2.2.2.2.2.2.1 (hall 17 (by decide))
    have u18 := hJ.2.2.2.2.2.2.2.2.2.2.2.2.2.2.2.2.2.2.2.2.2.2.2.2.2.2.2.2.1 (hall 18 (by decide))
    have u19 := hJ.2.2.2.2.2.2.2.2.2.2.2.2.2.2.2.2.2.2.2.2.2.2.2.2.2.2.2.2.2.1 (hall 19 (by decide))
    have u20 := hJ.2.2.2.2.2.2.2.2.2.2.2.2.2.2.2.2.2.2.2.2.2.2.2.2.2.2.2.2.2.2.1 (hall 20 (by decide))
    have u21 := hJ.2.2.2.2.2.2.2.2.2.2.2.2.2.2.2.2.2.2.2.2.2.2.2.2.2.2.2.2.2.2.2.1 (hall 21 (by decide))
    have u22 := hJ.2.2.2.2.2.2.2.2.2.2.2.2.2.2.2.2.2.2.2.2.2.2.2.2.2.2.2.2.2.2.2.2.1 (hall 22 (by decide))
    have u23 := hJ.2.2.2.2.2.2.2.2.2.2.2.2.2.2.2.2.2.2.2.2.2.2.2.2.2.2.2.2.2.2.2.2.2.1 (hall 23 (by decide))
    have u25 := hJ.2.2.2.2.2.2.2.2.2.2.2.2.2.2.2.2.2.2.2.2.2.2.2.2.2.2.2.2.2.2.2.2.2.2 (hall 25 (by decide))
    replace hB := hJ.1
    simp only [putAll, Act.put, List.setIfInBounds_toArray, List.set_cons_zero, List.set_cons_succ]
    simp only [u0, u1, u2, u3, u4, u5, u6, u7, u8, u9, u10, u11, u12, u13, u14, u15, u16, u17, u18, u19, u20, u21, u22, u23, u25]
    clear hall hJ u0 u1 u2 u3 u4 u5 u6 u7 u8 u9 u10 u11 u12 u13 u14 u15 u16 u17 u18 u19 u20 u21 u22 u23 u25
    generalize G 20 = gSL at *
    obtain ⟨r00, r01, r02, r03⟩ := R.open2
    go_wp2_with fail
    refine bodyPost_ret (by simp [results, Try.results15, go_sem, r00, r01, r02, r03]; try rfl) rfl ?_
    exact ⟨rfl, by repeat (first | exact Below.refl _ _ | (with_reducible assumption) | (with_reducible apply bal) | (with_reducible apply bdr) | (with_reducible apply bdnl) | (with_reducible refine bst ?_ (by first | (simp; done) | (simp; omega) | omega) _) | (with_reducible refine bt ?_ (by with_reducible assumption)))⟩
end Go.Proofs.Ytclohghongpfkaa
