/-
  Contracts: the reference's quotient and scaled intervals.
-/
import Derived.Test.YtclohghongpfkaaI24
import Derived.Test.YtclohghongpfkaaIPlain3
namespace Go.Proofs.Ytclohghongpfkaa
set_option linter.unusedVariables false
set_option linter.unusedSimpArgs false
open Go.RowKit

theorem mnU4 (F : Nat → Int) : Iv.mnU F 4 = Iv.mn4 (F 0) (F 1) (F 2) (F 3) := by simp [Iv.mnU, Iv.mn4]; (repeat' split) <;> omega
theorem mxU4 (F : Nat → Int) : Iv.mxU F 4 = Iv.mx4 (F 0) (F 1) (F 2) (F 3) := by simp [Iv.mxU, Iv.mx4]; (repeat' split) <;> omega
theorem mnU2 (F : Nat → Int) : Iv.mnU F 2 = min (F 0) (F 1) := by simp [Iv.mnU]; (repeat' split) <;> omega
theorem mxU2 (F : Nat → Int) : Iv.mxU F 2 = max (F 0) (F 1) := by simp [Iv.mxU]; (repeat' split) <;> omega
theorem fl_bdW {x c : Int} (h1 : -170141183460469231731687303715884105727 ≤ x) (h2 : x ≤ 170141183460469231731687303715884105727) (hc : c ≠ 0) : -170141183460469231731687303715884105727 ≤ Iv.fl x c ∧ Iv.fl x c ≤ 170141183460469231731687303715884105727 := by
  have k1 : (-170141183460469231731687303715884105727 : Int) ≤ Iv.fl x c := by
    rcases Int.lt_or_gt_of_ne hc with h | h
    · rw [Iv.le_fl_neg h]; omega
    · rw [Iv.le_fl_pos h]; omega
  refine ⟨k1, Classical.byContradiction fun q => ?_⟩
  have k2 : (170141183460469231731687303715884105728 : Int) ≤ Iv.fl x c := by omega
  rcases Int.lt_or_gt_of_ne hc with h | h
  · rw [Iv.le_fl_neg h] at k2; omega
  · rw [Iv.le_fl_pos h] at k2; omega
theorem q_W {x c : Int} (h1 : -170141183460469231731687303715884105727 ≤ x) (h2 : x ≤ 170141183460469231731687303715884105727) (hc : c ≠ 0) : c ≠ 0 ∧ Wi.inW (Wi.dv x c (-1)) ∧ Wi.inW (Wi.dv x c 1) := by
  have a := fl_bdW h1 h2 hc
  have b := fl_bdW (x := -x) (by omega) (by omega) hc
  have e : Wi.dv x c 1 = -Iv.fl (-x) c := Iv.cl_fl
  refine ⟨hc, ?_, ?_⟩
  · unfold Iv.fl at a; unfold Wi.inW; omega
  · rw [e]; unfold Wi.inW; omega
theorem mulB {a b : Int} (h1 : -4611686018427387904 ≤ a) (h2 : a ≤ 4611686018427387904) (h3 : -9223372036854775808 ≤ b) (h4 : b ≤ 9223372036854775807) : -170141183460469231731687303715884105727 ≤ a * b ∧ a * b ≤ 170141183460469231731687303715884105727 :=
  ⟨Iv.mul_low h1 h2 h3 h4 (by omega) (by omega) (by omega) (by omega), Iv.mul_high h1 h2 h3 h4 (by omega) (by omega) (by omega) (by omega)⟩

set_option maxRecDepth 100000 in
set_option maxHeartbeats 4000000 in
theorem rquo_ci (l h l' h' : Int) (w : World) : Calls Try.prog 18 #[.agg #[.int .i64 l, .int .i64 h], .agg #[.int .i64 l', .int .i64 h']] w fun e w' =>
    e = .returned (.tuple #[.agg #[.int .i64 (Iv.quo l h l' h').lo, .int .i64 (Iv.quo l h l' h').hi], .int .i64 (Iv.quo l h l' h').er]) ∧ Below w.heap.size w w' := by
  unfold Iv.quo
  by_cases v : Iv.Vd l h
  rotate_left
  · rw [if_neg (fun q => by unfold Iv.Qo at q; exact v q.1)]
    have e1 := Lib.hid (Iv.vb_no v)
    clear v
    go_enter Try.func18, Try.ntmps18
    have X := Blk.new w 23 #[.int .i64 (l), .int .i64 (h)]
    have hB := ba w (.cells #[.int .i64 (l), .int .i64 (h)] 23)
    have Y := Blk.new1 w (.cells #[.int .i64 (l), .int .i64 (h)] 23) 23 #[.int .i64 (l'), .int .i64 (h')]
    replace X := X.alloc (.cells #[.int .i64 (l'), .int .i64 (h')] 23)
    replace hB := bal hB (.cells #[.int .i64 (l'), .int .i64 (h')] 23)
    have R := Blk.new2 w (.cells #[.int .i64 (l), .int .i64 (h)] 23) (.cells #[.int .i64 (l'), .int .i64 (h')] 23) 23 #[.int .i64 (0), .int .i64 (0)]
    replace X := X.alloc (.cells #[.int .i64 (0), .int .i64 (0)] 23)
    replace Y := Y.alloc (.cells #[.int .i64 (0), .int .i64 (0)] 23)
    replace hB := bal hB (.cells #[.int .i64 (0), .int .i64 (0)] 23)
    obtain ⟨c00, c01, c02, c03⟩ := X.open2
    go_wp2_with fail
    refine (rvalid_c _ _ _).mono ?_
    rw [e1.out]
    rintro e w1 ⟨rfl, hb⟩
    clear c00 c01 c02 c03
    replace X := X.keep hb
    replace Y := Y.keep hb
    replace R := R.keep hb
    replace hB := bt hB hb
    clear hb
    obtain ⟨r00, r01, r02, r03⟩ := R.open2
    go_wp2_with fail
    refine bodyPost_ret (by simp [results, Try.results18, go_sem, r00, r01, r02, r03]; try rfl) rfl ?_
    exact ⟨rfl, by repeat (first | exact Below.refl _ _ | (with_reducible assumption) | (with_reducible apply bal) | (with_reducible apply bdr) | (with_reducible apply bdnl) | (with_reducible refine bst ?_ (by first | (simp; done) | (simp; omega) | omega) _) | (with_reducible refine bt ?_ (by with_reducible assumption)))⟩
  by_cases v2 : Iv.Vd l' h'
  rotate_left
  · rw [if_neg (fun q => by unfold Iv.Qo at q; exact v2 q.2.1)]
    have e1 := Lib.hid (Iv.vb_yes v)
    have e2 := Lib.hid (Iv.vb_no v2)
    clear v v2
    go_enter Try.func18, Try.ntmps18
    have X := Blk.new w 23 #[.int .i64 (l), .int .i64 (h)]
    have hB := ba w (.cells #[.int .i64 (l), .int .i64 (h)] 23)
    have Y := Blk.new1 w (.cells #[.int .i64 (l), .int .i64 (h)] 23) 23 #[.int .i64 (l'), .int .i64 (h')]
    replace X := X.alloc (.cells #[.int .i64 (l'), .int .i64 (h')] 23)
    replace hB := bal hB (.cells #[.int .i64 (l'), .int .i64 (h')] 23)
    have R := Blk.new2 w (.cells #[.int .i64 (l), .int .i64 (h)] 23) (.cells #[.int .i64 (l'), .int .i64 (h')] 23) 23 #[.int .i64 (0), .int .i64 (0)]
    replace X := X.alloc (.cells #[.int .i64 (0), .int .i64 (0)] 23)
    replace Y := Y.alloc (.cells #[.int .i64 (0), .int .i64 (0)] 23)
    replace hB := bal hB (.cells #[.int .i64 (0), .int .i64 (0)] 23)
    obtain ⟨c00, c01, c02, c03⟩ := X.open2
    go_wp2_with fail
    refine (rvalid_c _ _ _).mono ?_
    rw [e1.out]
    rintro e w1 ⟨rfl, hb⟩
    clear c00 c01 c02 c03
    replace X := X.keep hb
    replace Y := Y.keep hb
    replace R := R.keep hb
    replace hB := bt hB hb
    clear hb
    obtain ⟨c00, c01, c02, c03⟩ := Y.open2
    go_wp2_with fail
    refine (rvalid_c _ _ _).mono ?_
    rw [e2.out]
    rintro e w2 ⟨rfl, hb⟩
    clear c00 c01 c02 c03
    replace X := X.keep hb
    replace Y := Y.keep hb
    replace R := R.keep hb
    replace hB := bt hB hb
    clear hb
    obtain ⟨r00, r01, r02, r03⟩ := R.open2
    go_wp2_with fail
    refine bodyPost_ret (by simp [results, Try.results18, go_sem, r00, r01, r02, r03]; try rfl) rfl ?_
    exact ⟨rfl, by repeat (first | exact Below.refl _ _ | (with_reducible assumption) | (with_reducible apply bal) | (with_reducible apply bdr) | (with_reducible apply bdnl) | (with_reducible refine bst ?_ (by first | (simp; done) | (simp; omega) | omega) _) | (with_reducible refine bt ?_ (by with_reducible assumption)))⟩
  by_cases hz : 0 < l' ∨ h' < 0
  rotate_left
  · rw [if_neg (fun q => by unfold Iv.Qo at q; exact hz q.2.2)]
    have e1 := Lib.hid (Iv.vb_yes v)
    have e2 := Lib.hid (Iv.vb_yes v2)
    have e3 := Lib.hid (show Iv.hs l' h' 0 = true from by unfold Iv.hs; rw [Iv.vb_yes v2]; simp; omega)
    clear v v2 hz
    go_enter Try.func18, Try.ntmps18
    have X := Blk.new w 23 #[.int .i64 (l), .int .i64 (h)]
    have hB := ba w (.cells #[.int .i64 (l), .int .i64 (h)] 23)
    have Y := Blk.new1 w (.cells #[.int .i64 (l), .int .i64 (h)] 23) 23 #[.int .i64 (l'), .int .i64 (h')]
    replace X := X.alloc (.cells #[.int .i64 (l'), .int .i64 (h')] 23)
    replace hB := bal hB (.cells #[.int .i64 (l'), .int .i64 (h')] 23)
    have R := Blk.new2 w (.cells #[.int .i64 (l), .int .i64 (h)] 23) (.cells #[.int .i64 (l'), .int .i64 (h')] 23) 23 #[.int .i64 (0), .int .i64 (0)]
    replace X := X.alloc (.cells #[.int .i64 (0), .int .i64 (0)] 23)
    replace Y := Y.alloc (.cells #[.int .i64 (0), .int .i64 (0)] 23)
    replace hB := bal hB (.cells #[.int .i64 (0), .int .i64 (0)] 23)
    obtain ⟨c00, c01, c02, c03⟩ := X.open2
    go_wp2_with fail
    refine (rvalid_c _ _ _).mono ?_
    rw [e1.out]
    rintro e w1 ⟨rfl, hb⟩
    clear c00 c01 c02 c03
    replace X := X.keep hb
    replace Y := Y.keep hb
    replace R := R.keep hb
    replace hB := bt hB hb
    clear hb
    obtain ⟨c00, c01, c02, c03⟩ := Y.open2
    go_wp2_with fail
    refine (rvalid_c _ _ _).mono ?_
    rw [e2.out]
    rintro e w2 ⟨rfl, hb⟩
    clear c00 c01 c02 c03
    replace X := X.keep hb
    replace Y := Y.keep hb
    replace R := R.keep hb
    replace hB := bt hB hb
    clear hb
    obtain ⟨c00, c01, c02, c03⟩ := Y.open2
    go_wp2_with fail
    refine (rhas_c _ _ _ _).mono ?_
    rw [e3.out]
    rintro e w3 ⟨rfl, hb⟩
    clear c00 c01 c02 c03
    replace X := X.keep hb
    replace Y := Y.keep hb
    replace R := R.keep hb
    replace hB := bt hB hb
    clear hb
    obtain ⟨r00, r01, r02, r03⟩ := R.open2
    go_wp2_with fail
    refine bodyPost_ret (by simp [results, Try.results18, go_sem, r00, r01, r02, r03]; try rfl) rfl ?_
    exact ⟨rfl, by repeat (first | exact Below.refl _ _ | (with_reducible assumption) | (with_reducible apply bal) | (with_reducible apply bdr) | (with_reducible apply bdnl) | (with_reducible refine bst ?_ (by first | (simp; done) | (simp; omega) | omega) _) | (with_reducible refine bt ?_ (by with_reducible assumption)))⟩
  rw [if_pos (by unfold Iv.Qo; exact ⟨v, v2, hz⟩)]
  have e1 := Lib.hid (Iv.vb_yes v)
  have e2 := Lib.hid (Iv.vb_yes v2)
  have e3 := Lib.hid (show Iv.hs l' h' 0 = false from by unfold Iv.hs; rw [Iv.vb_yes v2]; simp; omega)
  have z1 : l' ≠ 0 := by unfold Iv.Vd at v2; omega
  have z2 : h' ≠ 0 := by unfold Iv.Vd at v2; omega
  have x1 : -4611686018427387904 ≤ l := by unfold Iv.Vd at v; omega
  have x2 : l ≤ 4611686018427387904 := by unfold Iv.Vd at v; omega
  have xx1 : -4611686018427387904 ≤ h := by unfold Iv.Vd at v; omega
  have xx2 : h ≤ 4611686018427387904 := by unfold Iv.Vd at v; omega
  have y1 : -9223372036854775808 ≤ l' := by unfold Iv.Vd at v2; omega
  have y2 : l' ≤ 9223372036854775807 := by unfold Iv.Vd at v2; omega
  have yy1 : -9223372036854775808 ≤ h' := by unfold Iv.Vd at v2; omega
  have yy2 : h' ≤ 9223372036854775807 := by unfold Iv.Vd at v2; omega
  have HQ4 : ∀ i, i < 4 → (four l' h' l' h') i ≠ 0 ∧ Wi.inW (Wi.dv ((four l l h h) i) ((four l' h' l' h') i) (-1)) ∧ Wi.inW (Wi.dv ((four l l h h) i) ((four l' h' l' h') i) 1) := fun i hi => by
    match i, hi with
    | 0, _ => exact q_W (x := l) (c := l') (by omega) (by omega) z1
    | 1, _ => exact q_W (x := l) (c := h') (by omega) (by omega) z2
    | 2, _ => exact q_W (x := h) (c := l') (by omega) (by omega) z1
    | 3, _ => exact q_W (x := h) (c := h') (by omega) (by omega) z2
  have i1 : Wi.inW l := by unfold Wi.inW; omega
  have i2 : Wi.inW h := by unfold Wi.inW; omega
  have i3 : Wi.inW l' := by unfold Wi.inW; omega
  have i4 : Wi.inW h' := by unfold Wi.inW; omega
  have E := Lib.hid (show Iv.rs (Iv.mnU (fun i => Wi.dv ((four l l h h) i) ((four l' h' l' h') i) (-1)) 4) (Iv.mxU (fun i => Wi.dv ((four l l h h) i) ((four l' h' l' h') i) 1) 4) = Iv.rs (Iv.mn4 (Iv.fl l l') (Iv.fl l h') (Iv.fl h l') (Iv.fl h h')) (Iv.mx4 (Iv.cl l l') (Iv.cl l h') (Iv.cl h l') (Iv.cl h h')) from by rw [mnU4, mxU4]; rfl)
  replace HQ4 := Lib.hid HQ4
  have xa : -9223372036854775808 ≤ l := by omega
  have xb : l ≤ 9223372036854775807 := by omega
  have xc : -9223372036854775808 ≤ h := by omega
  have xd : h ≤ 9223372036854775807 := by omega
  clear v v2 hz
  go_enter Try.func18, Try.ntmps18
  have X := Blk.new w 23 #[.int .i64 (l), .int .i64 (h)]
  have hB := ba w (.cells #[.int .i64 (l), .int .i64 (h)] 23)
  have Y := Blk.new1 w (.cells #[.int .i64 (l), .int .i64 (h)] 23) 23 #[.int .i64 (l'), .int .i64 (h')]
  replace X := X.alloc (.cells #[.int .i64 (l'), .int .i64 (h')] 23)
  replace hB := bal hB (.cells #[.int .i64 (l'), .int .i64 (h')] 23)
  have R := Blk.new2 w (.cells #[.int .i64 (l), .int .i64 (h)] 23) (.cells #[.int .i64 (l'), .int .i64 (h')] 23) 23 #[.int .i64 (0), .int .i64 (0)]
  replace X := X.alloc (.cells #[.int .i64 (0), .int .i64 (0)] 23)
  replace Y := Y.alloc (.cells #[.int .i64 (0), .int .i64 (0)] 23)
  replace hB := bal hB (.cells #[.int .i64 (0), .int .i64 (0)] 23)
  obtain ⟨c00, c01, c02, c03⟩ := X.open2
  go_wp2_with fail
  refine (rvalid_c _ _ _).mono ?_
  rw [e1.out]
  rintro e w1 ⟨rfl, hb⟩
  clear c00 c01 c02 c03
  replace X := X.keep hb
  replace Y := Y.keep hb
  replace R := R.keep hb
  replace hB := bt hB hb
  clear hb
  obtain ⟨c00, c01, c02, c03⟩ := Y.open2
  go_wp2_with fail
  refine (rvalid_c _ _ _).mono ?_
  rw [e2.out]
  rintro e w2 ⟨rfl, hb⟩
  clear c00 c01 c02 c03
  replace X := X.keep hb
  replace Y := Y.keep hb
  replace R := R.keep hb
  replace hB := bt hB hb
  clear hb
  obtain ⟨c00, c01, c02, c03⟩ := Y.open2
  go_wp2_with fail
  refine (rhas_c _ _ _ _).mono ?_
  rw [e3.out]
  rintro e w3 ⟨rfl, hb⟩
  clear c00 c01 c02 c03
  replace X := X.keep hb
  replace Y := Y.keep hb
  replace R := R.keep hb
  replace hB := bt hB hb
  clear hb
  go_wp2_with fail
  refine wp_region_inv (fun L x G wx => (((((Below w.heap.size w wx
        ∧ w.heap.size < wx.heap.size)
        ∧ (Blk wx (w.heap.size) 23 #[.int .i64 (l), .int .i64 (h)]
        ∧ (w.heap.size + 1 < wx.heap.size
        ∧ Blk wx (w.heap.size + 1) 23 #[.int .i64 (l'), .int .i64 (h')])))
        ∧ ((w.heap.size + 1 + 1 < wx.heap.size
        ∧ (Blk wx (w.heap.size + 1 + 1) 23 #[.int .i64 (0), .int .i64 (0)]
        ∧ (L 12 → w.heap.size ≤ G 12 ∧ G 12 < wx.heap.size ∧ w.heap.size ≠ G 12 ∧ w.heap.size + 1 ≠ G 12 ∧ w.heap.size + 1 + 1 ≠ G 12)))
        ∧ ((L 12 → ¬ L 16 → Blk wx (G 12) 40 #[.int .i64 (0), .int .u64 (0)])
        ∧ ((L 16 → Blk wx (G 12) 40 #[.int .i64 (Wi.Hq (l)), .int .u64 (Wi.Lr (l))])
        ∧ (L 16 → L 12)))))
        ∧ ((((L 13 → w.heap.size ≤ G 13 ∧ G 13 < wx.heap.size ∧ w.heap.size ≠ G 13 ∧ w.heap.size + 1 ≠ G 13 ∧ w.heap.size + 1 + 1 ≠ G 13)
        ∧ (L 13 → ¬ L 17 → Blk wx (G 13) 40 #[.int .i64 (0), .int .u64 (0)]))
        ∧ ((L 17 → Blk wx (G 13) 40 #[.int .i64 (Wi.Hq (h)), .int .u64 (Wi.Lr (h))])
        ∧ ((L 17 → L 13)
        ∧ (L 14 → w.heap.size ≤ G 14 ∧ G 14 < wx.heap.size ∧ w.heap.size ≠ G 14 ∧ w.heap.size + 1 ≠ G 14 ∧ w.heap.size + 1 + 1 ≠ G 14))))
        ∧ (((L 14 → ¬ L 18 → Blk wx (G 14) 40 #[.int .i64 (0), .int .u64 (0)])
        ∧ ((L 18 → Blk wx (G 14) 40 #[.int .i64 (Wi.Hq (l')), .int .u64 (Wi.Lr (l'))])
        ∧ (L 18 → L 14)))
        ∧ ((L 15 → w.heap.size ≤ G 15 ∧ G 15 < wx.heap.size ∧ w.heap.size ≠ G 15 ∧ w.heap.size + 1 ≠ G 15 ∧ w.heap.size + 1 + 1 ≠ G 15)
        ∧ ((L 15 → ¬ L 19 → Blk wx (G 15) 40 #[.int .i64 (0), .int .u64 (0)])
        ∧ (L 19 → Blk wx (G 15) 40 #[.int .i64 (Wi.Hq (h')), .int .u64 (Wi.Lr (h'))]))))))
        ∧ (((((L 19 → L 15)
        ∧ (L 13 → L 12 → G 13 ≠ G 12))
        ∧ ((L 14 → L 12 → G 14 ≠ G 12)
        ∧ ((L 14 → L 13 → G 14 ≠ G 13)
        ∧ (L 15 → L 12 → G 15 ≠ G 12))))
        ∧ (((L 15 → L 13 → G 15 ≠ G 13)
        ∧ ((L 15 → L 14 → G 15 ≠ G 14)
        ∧ (L 0 → x 23 = .pointer (some ⟨w.heap.size, 0, none⟩))))
        ∧ ((L 1 → x 24 = .int .i64 (l))
        ∧ ((L 2 → x 25 = .agg #[.int .i64 (Wi.Hq (l)), .int .u64 (Wi.Lr (l))])
        ∧ (L 3 → x 26 = .pointer (some ⟨w.heap.size, 1, none⟩))))))
        ∧ ((((L 4 → x 27 = .int .i64 (h))
        ∧ ((L 5 → x 28 = .agg #[.int .i64 (Wi.Hq (h)), .int .u64 (Wi.Lr (h))])
        ∧ (L 6 → x 29 = .pointer (some ⟨w.heap.size + 1, 0, none⟩))))
        ∧ ((L 7 → x 30 = .int .i64 (l'))
        ∧ ((L 8 → x 31 = .agg #[.int .i64 (Wi.Hq (l')), .int .u64 (Wi.Lr (l'))])
        ∧ (L 9 → x 32 = .pointer (some ⟨w.heap.size + 1, 1, none⟩)))))
        ∧ (((L 10 → x 33 = .int .i64 (h'))
        ∧ ((L 11 → x 34 = .agg #[.int .i64 (Wi.Hq (h')), .int .u64 (Wi.Lr (h'))])
        ∧ (L 12 → x 6 = .pointer (some ⟨G 12, 0, none⟩))))
        ∧ ((L 13 → x 7 = .pointer (some ⟨G 13, 0, none⟩))
        ∧ ((L 14 → x 8 = .pointer (some ⟨G 14, 0, none⟩))
        ∧ (L 15 → x 9 = .pointer (some ⟨G 15, 0, none⟩))))))))) [23, 24, 25, 26, 27, 28, 29, 30, 31, 32, 33, 34, 6, 7, 8, 9] 20 (by kernel_rfl) (by kernel_rfl) (by kernel_rfl) ?h0 ?st ?fin
  case h0 =>
    exact ⟨⟨⟨⟨⟨bdr hB, Blk.lt X.drew⟩, ⟨X.drew, ⟨Blk.lt Y.drew, Y.drew⟩⟩⟩, ⟨⟨Blk.lt R.drew, ⟨R.drew, fun q => q.elim⟩⟩, ⟨fun q => q.elim, ⟨fun q => q.elim, fun q => q.elim⟩⟩⟩⟩, ⟨⟨⟨fun q => q.elim, fun q => q.elim⟩, ⟨fun q => q.elim, ⟨fun q => q.elim, fun q => q.elim⟩⟩⟩, ⟨⟨fun q => q.elim, ⟨fun q => q.elim, fun q => q.elim⟩⟩, ⟨fun q => q.elim, ⟨fun q => q.elim, fun q => q.elim⟩⟩⟩⟩⟩, ⟨⟨⟨⟨fun q => q.elim, fun q _ => q.elim⟩, ⟨fun q _ => q.elim, ⟨fun q _ => q.elim, fun q _ => q.elim⟩⟩⟩, ⟨⟨fun q _ => q.elim, ⟨fun q _ => q.elim, fun q => q.elim⟩⟩, ⟨fun q => q.elim, ⟨fun q => q.elim, fun q => q.elim⟩⟩⟩⟩, ⟨⟨⟨fun q => q.elim, ⟨fun q => q.elim, fun q => q.elim⟩⟩, ⟨fun q => q.elim, ⟨fun q => q.elim, fun q => q.elim⟩⟩⟩, ⟨⟨fun q => q.elim, ⟨fun q => q.elim, fun q => q.elim⟩⟩, ⟨fun q => q.elim, ⟨fun q => q.elim, fun q => q.elim⟩⟩⟩⟩⟩⟩
  case st =>
    refine StepsOk.cons (i := 0) rfl (fun L x G w1 K Q hn hp hJ hK => ?_) ?_
    · skip
      simp only [putAll, Act.put, List.setIfInBounds_toArray, List.set_cons_zero, List.set_cons_succ]
      go_simp
      refine hK _ G _ (by kernel_rfl) ?_
      exact ⟨⟨⟨⟨⟨(hJ.1.1.1.1.1), (hJ.1.1.1.1.2)⟩, ⟨(hJ.1.1.1.2.1), ⟨(hJ.1.1.1.2.2.1), (hJ.1.1.1.2.2.2)⟩⟩⟩, ⟨⟨(hJ.1.1.2.1.1), ⟨(hJ.1.1.2.1.2.1), fun q => (hJ.1.1.2.1.2.2) (rl q)⟩⟩, ⟨fun q n => (hJ.1.1.2.2.1) (rl q) (fun m => n (.inr m)), ⟨fun q => (hJ.1.1.2.2.2.1) (rl q), fun q => .inr ((hJ.1.1.2.2.2.2) (rl q))⟩⟩⟩⟩, ⟨⟨⟨fun q => (hJ.1.2.1.1.1) (rl q), fun q n => (hJ.1.2.1.1.2) (rl q) (fun m => n (.inr m))⟩, ⟨fun q => (hJ.1.2.1.2.1) (rl q), ⟨fun q => .inr ((hJ.1.2.1.2.2.1) (rl q)), fun q => (hJ.1.2.1.2.2.2) (rl q)⟩⟩⟩, ⟨⟨fun q n => (hJ.1.2.2.1.1) (rl q) (fun m => n (.inr m)), ⟨fun q => (hJ.1.2.2.1.2.1) (rl q), fun q => .inr ((hJ.1.2.2.1.2.2) (rl q))⟩⟩, ⟨fun q => (hJ.1.2.2.2.1) (rl q), ⟨fun q n => (hJ.1.2.2.2.2.1) (rl q) (fun m => n (.inr m)), fun q => (hJ.1.2.2.2.2.2) (rl q)⟩⟩⟩⟩⟩, ⟨⟨⟨⟨fun q => .inr ((hJ.2.1.1.1.1) (rl q)), fun q r => (hJ.2.1.1.1.2) (rl q) (rl r)⟩, ⟨fun q r => (hJ.2.1.1.2.1) (rl q) (rl r), ⟨fun q r => (hJ.2.1.1.2.2.1) (rl q) (rl r), fun q r => (hJ.2.1.1.2.2.2) (rl q) (rl r)⟩⟩⟩, ⟨⟨fun q r => (hJ.2.1.2.1.1) (rl q) (rl r), ⟨fun q r => (hJ.2.1.2.1.2.1) (rl q) (rl r), fun _ => rfl⟩⟩, ⟨fun q => (hJ.2.1.2.2.1) (rl q), ⟨fun q => (hJ.2.1.2.2.2.1) (rl q), fun q => (hJ.2.1.2.2.2.2) (rl q)⟩⟩⟩⟩, ⟨⟨⟨fun q => (hJ.2.2.1.1.1) (rl q), ⟨fun q => (hJ.2.2.1.1.2.1) (rl q), fun q => (hJ.2.2.1.1.2.2) (rl q)⟩⟩, ⟨fun q => (hJ.2.2.1.2.1) (rl q), ⟨fun q => (hJ.2.2.1.2.2.1) (rl q), fun q => (hJ.2.2.1.2.2.2) (rl q)⟩⟩⟩, ⟨⟨fun q => (hJ.2.2.2.1.1) (rl q), ⟨fun q => (hJ.2.2.2.1.2.1) (rl q), fun q => (hJ.2.2.2.1.2.2) (rl q)⟩⟩, ⟨fun q => (hJ.2.2.2.2.1) (rl q), ⟨fun q => (hJ.2.2.2.2.2.1) (rl q), fun q => (hJ.2.2.2.2.2.2) (rl q)⟩⟩⟩⟩⟩⟩
    refine StepsOk.cons (i := 1) rfl (fun L x G w1 K Q hn hp hJ hK => ?_) ?_
    · skip
      have p0 : L 0 := hp ⟨0, .data⟩ (by simp) rfl
      have e0 := (hJ.2.1.2.1.2.2) p0
      have hc := Blk.open2 ((hJ.1.1.1.2.1))
      have c0 := hc.1
      have c1 := hc.2.1
      have c2 := hc.2.2.1
      have c3 := hc.2.2.2
      clear hc
      simp only [putAll, Act.put, List.setIfInBounds_toArray, List.set_cons_zero, List.set_cons_succ]
      go_simp
      refine hK _ G _ (by kernel_rfl) ?_
      exact ⟨⟨⟨⟨⟨(hJ.1.1.1.1.1), (hJ.1.1.1.1.2)⟩, ⟨(hJ.1.1.1.2.1), ⟨(hJ.1.1.1.2.2.1), (hJ.1.1.1.2.2.2)⟩⟩⟩, ⟨⟨(hJ.1.1.2.1.1), ⟨(hJ.1.1.2.1.2.1), fun q => (hJ.1.1.2.1.2.2) (rl q)⟩⟩, ⟨fun q n => (hJ.1.1.2.2.1) (rl q) (fun m => n (.inr m)), ⟨fun q => (hJ.1.1.2.2.2.1) (rl q), fun q => .inr ((hJ.1.1.2.2.2.2) (rl q))⟩⟩⟩⟩, ⟨⟨⟨fun q => (hJ.1.2.1.1.1) (rl q), fun q n => (hJ.1.2.1.1.2) (rl q) (fun m => n (.inr m))⟩, ⟨fun q => (hJ.1.2.1.2.1) (rl q), ⟨fun q => .inr ((hJ.1.2.1.2.2.1) (rl q)), fun q => (hJ.1.2.1.2.2.2) (rl q)⟩⟩⟩, ⟨⟨fun q n => (hJ.1.2.2.1.1) (rl q) (fun m => n (.inr m)), ⟨fun q => (hJ.1.2.2.1.2.1) (rl q), fun q => .inr ((hJ.1.2.2.1.2.2) (rl q))⟩⟩, ⟨fun q => (hJ.1.2.2.2.1) (rl q), ⟨fun q n => (hJ.1.2.2.2.2.1) (rl q) (fun m => n (.inr m)), fun q => (hJ.1.2.2.2.2.2) (rl q)⟩⟩⟩⟩⟩, ⟨⟨⟨⟨fun q => .inr ((hJ.2.1.1.1.1) (rl q)), fun q r => (hJ.2.1.1.1.2) (rl q) (rl r)⟩, ⟨fun q r => (hJ.2.1.1.2.1) (rl q) (rl r), ⟨fun q r => (hJ.2.1.1.2.2.1) (rl q) (rl r), fun q r => (hJ.2.1.1.2.2.2) (rl q) (rl r)⟩⟩⟩, ⟨⟨fun q r => (hJ.2.1.2.1.1) (rl q) (rl r), ⟨fun q r => (hJ.2.1.2.1.2.1) (rl q) (rl r), fun _ => by first | exact rfl | exact e0⟩⟩, ⟨fun _ => rfl, ⟨fun q => (hJ.2.1.2.2.2.1) (rl q), fun q => (hJ.2.1.2.2.2.2) (rl q)⟩⟩⟩⟩, ⟨⟨⟨fun q => (hJ.2.2.1.1.1) (rl q), ⟨fun q => (hJ.2.2.1.1.2.1) (rl q), fun q => (hJ.2.2.1.1.2.2) (rl q)⟩⟩, ⟨fun q => (hJ.2.2.1.2.1) (rl q), ⟨fun q => (hJ.2.2.1.2.2.1) (rl q), fun q => (hJ.2.2.1.2.2.2) (rl q)⟩⟩⟩, ⟨⟨fun q => (hJ.2.2.2.1.1) (rl q), ⟨fun q => (hJ.2.2.2.1.2.1) (rl q), fun q => (hJ.2.2.2.1.2.2) (rl q)⟩⟩, ⟨fun q => (hJ.2.2.2.2.1) (rl q), ⟨fun q => (hJ.2.2.2.2.2.1) (rl q), fun q => (hJ.2.2.2.2.2.2) (rl q)⟩⟩⟩⟩⟩⟩
    refine StepsOk.cons (i := 2) rfl (fun L x G w1 K Q hn hp hJ hK => ?_) ?_
    · skip
      have p1 : L 1 := hp ⟨1, .data⟩ (by simp) rfl
      have e1 := (hJ.2.1.2.2.1) p1
      simp only [putAll, Act.put, List.setIfInBounds_toArray, List.set_cons_zero, List.set_cons_succ]
      go_simp
      refine (rof_c _ _ xa xb).mono ?_
      rintro e w2 ⟨rfl, hb⟩
      have hz := hb.size
      try go_simp
      refine hK _ G _ (by kernel_rfl) ?_
      exact ⟨⟨⟨⟨⟨bt (hJ.1.1.1.1.1) hb, Nat.lt_of_lt_of_le (hJ.1.1.1.1.2) hb.size⟩, ⟨Blk.keep ((hJ.1.1.1.2.1)) hb, ⟨Nat.lt_of_lt_of_le (hJ.1.1.1.2.2.1) hb.size, Blk.keep ((hJ.1.1.1.2.2.2)) hb⟩⟩⟩, ⟨⟨Nat.lt_of_lt_of_le (hJ.1.1.2.1.1) hb.size, ⟨Blk.keep ((hJ.1.1.2.1.2.1)) hb, fun q => ⟨((hJ.1.1.2.1.2.2) (rl q)).1, by have := ((hJ.1.1.2.1.2.2) (rl q)).2.1; omega, ((hJ.1.1.2.1.2.2) (rl q)).2.2⟩⟩⟩, ⟨fun q n => Blk.keep ((hJ.1.1.2.2.1) (rl q) (fun m => n (.inr m))) hb, ⟨fun q => Blk.keep ((hJ.1.1.2.2.2.1) (rl q)) hb, fun q => .inr ((hJ.1.1.2.2.2.2) (rl q))⟩⟩⟩⟩, ⟨⟨⟨fun q => ⟨((hJ.1.2.1.1.1) (rl q)).1, by have := ((hJ.1.2.1.1.1) (rl q)).2.1; omega, ((hJ.1.2.1.1.1) (rl q)).2.2⟩, fun q n => Blk.keep ((hJ.1.2.1.1.2) (rl q) (fun m => n (.inr m))) hb⟩, ⟨fun q => Blk.keep ((hJ.1.2.1.2.1) (rl q)) hb, ⟨fun q => .inr ((hJ.1.2.1.2.2.1) (rl q)), fun q => ⟨((hJ.1.2.1.2.2.2) (rl q)).1, by have := ((hJ.1.2.1.2.2.2) (rl q)).2.1; omega, ((hJ.1.2.1.2.2.2) (rl q)).2.2⟩⟩⟩⟩, ⟨⟨fun q n => Blk.keep ((hJ.1.2.2.1.1) (rl q) (fun m => n (.inr m))) hb, ⟨fun q => Blk.keep ((hJ.1.2.2.1.2.1) (rl q)) hb, fun q => .inr ((hJ.1.2.2.1.2.2) (rl q))⟩⟩, ⟨fun q => ⟨((hJ.1.2.2.2.1) (rl q)).1, by have := ((hJ.1.2.2.2.1) (rl q)).2.1; omega, ((hJ.1.2.2.2.1) (rl q)).2.2⟩, ⟨fun q n => Blk.keep ((hJ.1.2.2.2.2.1) (rl q) (fun m => n (.inr m))) hb, fun q => Blk.keep ((hJ.1.2.2.2.2.2) (rl q)) hb⟩⟩⟩⟩⟩, ⟨⟨⟨⟨fun q => .inr ((hJ.2.1.1.1.1) (rl q)), fun q r => (hJ.2.1.1.1.2) (rl q) (rl r)⟩, ⟨fun q r => (hJ.2.1.1.2.1) (rl q) (rl r), ⟨fun q r => (hJ.2.1.1.2.2.1) (rl q) (rl r), fun q r => (hJ.2.1.1.2.2.2) (rl q) (rl r)⟩⟩⟩, ⟨⟨fun q r => (hJ.2.1.2.1.1) (rl q) (rl r), ⟨fun q r => (hJ.2.1.2.1.2.1) (rl q) (rl r), fun q => (hJ.2.1.2.1.2.2) (rl q)⟩⟩, ⟨fun _ => by first | exact rfl | exact e1, ⟨fun _ => rfl, fun q => (hJ.2.1.2.2.2.2) (rl q)⟩⟩⟩⟩, ⟨⟨⟨fun q => (hJ.2.2.1.1.1) (rl q), ⟨fun q => (hJ.2.2.1.1.2.1) (rl q), fun q => (hJ.2.2.1.1.2.2) (rl q)⟩⟩, ⟨fun q => (hJ.2.2.1.2.1) (rl q), ⟨fun q => (hJ.2.2.1.2.2.1) (rl q), fun q => (hJ.2.2.1.2.2.2) (rl q)⟩⟩⟩, ⟨⟨fun q => (hJ.2.2.2.1.1) (rl q), ⟨fun q => (hJ.2.2.2.1.2.1) (rl q), fun q => (hJ.2.2.2.1.2.2) (rl q)⟩⟩, ⟨fun q => (hJ.2.2.2.2.1) (rl q), ⟨fun q => (hJ.2.2.2.2.2.1) (rl q), fun q => (hJ.2.2.2.2.2.2) (rl q)⟩⟩⟩⟩⟩⟩
    refine StepsOk.cons (i := 3) rfl (fun L x G w1 K Q hn hp hJ hK => ?_) ?_
    · skip
      simp only [putAll, Act.put, List.setIfInBounds_toArray, List.set_cons_zero, List.set_cons_succ]
      go_simp
      refine hK _ G _ (by kernel_rfl) ?_
      exact ⟨⟨⟨⟨⟨(hJ.1.1.1.1.1), (hJ.1.1.1.1.2)⟩, ⟨(hJ.1.1.1.2.1), ⟨(hJ.1.1.1.2.2.1), (hJ.1.1.1.2.2.2)⟩⟩⟩, ⟨⟨(hJ.1.1.2.1.1), ⟨(hJ.1.1.2.1.2.1), fun q => (hJ.1.1.2.1.2.2) (rl q)⟩⟩, ⟨fun q n => (hJ.1.1.2.2.1) (rl q) (fun m => n (.inr m)), ⟨fun q => (hJ.1.1.2.2.2.1) (rl q), fun q => .inr ((hJ.1.1.2.2.2.2) (rl q))⟩⟩⟩⟩, ⟨⟨⟨fun q => (hJ.1.2.1.1.1) (rl q), fun q n => (hJ.1.2.1.1.2) (rl q) (fun m => n (.inr m))⟩, ⟨fun q => (hJ.1.2.1.2.1) (rl q), ⟨fun q => .inr ((hJ.1.2.1.2.2.1) (rl q)), fun q => (hJ.1.2.1.2.2.2) (rl q)⟩⟩⟩, ⟨⟨fun q n => (hJ.1.2.2.1.1) (rl q) (fun m => n (.inr m)), ⟨fun q => (hJ.1.2.2.1.2.1) (rl q), fun q => .inr ((hJ.1.2.2.1.2.2) (rl q))⟩⟩, ⟨fun q => (hJ.1.2.2.2.1) (rl q), ⟨fun q n => (hJ.1.2.2.2.2.1) (rl q) (fun m => n (.inr m)), fun q => (hJ.1.2.2.2.2.2) (rl q)⟩⟩⟩⟩⟩, ⟨⟨⟨⟨fun q => .inr ((hJ.2.1.1.1.1) (rl q)), fun q r => (hJ.2.1.1.1.2) (rl q) (rl r)⟩, ⟨fun q r => (hJ.2.1.1.2.1) (rl q) (rl r), ⟨fun q r => (hJ.2.1.1.2.2.1) (rl q) (rl r), fun q r => (hJ.2.1.1.2.2.2) (rl q) (rl r)⟩⟩⟩, ⟨⟨fun q r => (hJ.2.1.2.1.1) (rl q) (rl r), ⟨fun q r => (hJ.2.1.2.1.2.1) (rl q) (rl r), fun q => (hJ.2.1.2.1.2.2) (rl q)⟩⟩, ⟨fun q => (hJ.2.1.2.2.1) (rl q), ⟨fun q => (hJ.2.1.2.2.2.1) (rl q), fun _ => rfl⟩⟩⟩⟩, ⟨⟨⟨fun q => (hJ.2.2.1.1.1) (rl q), ⟨fun q => (hJ.2.2.1.1.2.1) (rl q), fun q => (hJ.2.2.1.1.2.2) (rl q)⟩⟩, ⟨fun q => (hJ.2.2.1.2.1) (rl q), ⟨fun q => (hJ.2.2.1.2.2.1) (rl q), fun q => (hJ.2.2.1.2.2.2) (rl q)⟩⟩⟩, ⟨⟨fun q => (hJ.2.2.2.1.1) (rl q), ⟨fun q => (hJ.2.2.2.1.2.1) (rl q), fun q => (hJ.2.2.2.1.2.2) (rl q)⟩⟩, ⟨fun q => (hJ.2.2.2.2.1) (rl q), ⟨fun q => (hJ.2.2.2.2.2.1) (rl q), fun q => (hJ.2.2.2.2.2.2) (rl q)⟩⟩⟩⟩⟩⟩
    refine StepsOk.cons (i := 4) rfl (fun L x G w1 K Q hn hp hJ hK => ?_) ?_
    · skip
      have p3 : L 3 := hp ⟨3, .data⟩ (by simp) rfl
      have e3 := (hJ.2.1.2.2.2.2) p3
      have hc := Blk.open2 ((hJ.1.1.1.2.1))
      have c0 := hc.1
      have c1 := hc.2.1
      have c2 := hc.2.2.1
      have c3 := hc.2.2.2
      clear hc
      simp only [putAll, Act.put, List.setIfInBounds_toArray, List.set_cons_zero, List.set_cons_succ]
      go_simp
      refine hK _ G _ (by kernel_rfl) ?_
      exact ⟨⟨⟨⟨⟨(hJ.1.1.1.1.1), (hJ.1.1.1.1.2)⟩, ⟨(hJ.1.1.1.2.1), ⟨(hJ.1.1.1.2.2.1), (hJ.1.1.1.2.2.2)⟩⟩⟩, ⟨⟨(hJ.1.1.2.1.1), ⟨(hJ.1.1.2.1.2.1), fun q => (hJ.1.1.2.1.2.2) (rl q)⟩⟩, ⟨fun q n => (hJ.1.1.2.2.1) (rl q) (fun m => n (.inr m)), ⟨fun q => (hJ.1.1.2.2.2.1) (rl q), fun q => .inr ((hJ.1.1.2.2.2.2) (rl q))⟩⟩⟩⟩, ⟨⟨⟨fun q => (hJ.1.2.1.1.1) (rl q), fun q n => (hJ.1.2.1.1.2) (rl q) (fun m => n (.inr m))⟩, ⟨fun q => (hJ.1.2.1.2.1) (rl q), ⟨fun q => .inr ((hJ.1.2.1.2.2.1) (rl q)), fun q => (hJ.1.2.1.2.2.2) (rl q)⟩⟩⟩, ⟨⟨fun q n => (hJ.1.2.2.1.1) (rl q) (fun m => n (.inr m)), ⟨fun q => (hJ.1.2.2.1.2.1) (rl q), fun q => .inr ((hJ.1.2.2.1.2.2) (rl q))⟩⟩, ⟨fun q => (hJ.1.2.2.2.1) (rl q), ⟨fun q n => (hJ.1.2.2.2.2.1) (rl q) (fun m => n (.inr m)), fun q => (hJ.1.2.2.2.2.2) (rl q)⟩⟩⟩⟩⟩, ⟨⟨⟨⟨fun q => .inr ((hJ.2.1.1.1.1) (rl q)), fun q r => (hJ.2.1.1.1.2) (rl q) (rl r)⟩, ⟨fun q r => (hJ.2.1.1.2.1) (rl q) (rl r), ⟨fun q r => (hJ.2.1.1.2.2.1) (rl q) (rl r), fun q r => (hJ.2.1.1.2.2.2) (rl q) (rl r)⟩⟩⟩, ⟨⟨fun q r => (hJ.2.1.2.1.1) (rl q) (rl r), ⟨fun q r => (hJ.2.1.2.1.2.1) (rl q) (rl r), fun q => (hJ.2.1.2.1.2.2) (rl q)⟩⟩, ⟨fun q => (hJ.2.1.2.2.1) (rl q), ⟨fun q => (hJ.2.1.2.2.2.1) (rl q), fun _ => by first | exact rfl | exact e3⟩⟩⟩⟩, ⟨⟨⟨fun _ => rfl, ⟨fun q => (hJ.2.2.1.1.2.1) (rl q), fun q => (hJ.2.2.1.1.2.2) (rl q)⟩⟩, ⟨fun q => (hJ.2.2.1.2.1) (rl q), ⟨fun q => (hJ.2.2.1.2.2.1) (rl q), fun q => (hJ.2.2.1.2.2.2) (rl q)⟩⟩⟩, ⟨⟨fun q => (hJ.2.2.2.1.1) (rl q), ⟨fun q => (hJ.2.2.2.1.2.1) (rl q), fun q => (hJ.2.2.2.1.2.2) (rl q)⟩⟩, ⟨fun q => (hJ.2.2.2.2.1) (rl q), ⟨fun q => (hJ.2.2.2.2.2.1) (rl q), fun q => (hJ.2.2.2.2.2.2) (rl q)⟩⟩⟩⟩⟩⟩
    refine StepsOk.cons (i := 5) rfl (fun L x G w1 K Q hn hp hJ hK => ?_) ?_
    · skip
      have p4 : L 4 := hp ⟨4, .data⟩ (by simp) rfl
      have e4 := (hJ.2.2.1.1.1) p4
      simp only [putAll, Act.put, List.setIfInBounds_toArray, List.set_cons_zero, List.set_cons_succ]
      go_simp
      refine (rof_c _ _ xc xd).mono ?_
      rintro e w2 ⟨rfl, hb⟩
      have hz := hb.size
      try go_simp
      refine hK _ G _ (by kernel_rfl) ?_
      exact ⟨⟨⟨⟨⟨bt (hJ.1.1.1.1.1) hb, Nat.lt_of_lt_of_le (hJ.1.1.1.1.2) hb.size⟩, ⟨Blk.keep ((hJ.1.1.1.2.1)) hb, ⟨Nat.lt_of_lt_of_le (hJ.1.1.1.2.2.1) hb.size, Blk.keep ((hJ.1.1.1.2.2.2)) hb⟩⟩⟩, ⟨⟨Nat.lt_of_lt_of_le (hJ.1.1.2.1.1) hb.size, ⟨Blk.keep ((hJ.1.1.2.1.2.1)) hb, fun q => ⟨((hJ.1.1.2.1.2.2) (rl q)).1, by have := ((hJ.1.1.2.1.2.2) (rl q)).2.1; omega, ((hJ.1.1.2.1.2.2) (rl q)).2.2⟩⟩⟩, ⟨fun q n => Blk.keep ((hJ.1.1.2.2.1) (rl q) (fun m => n (.inr m))) hb, ⟨fun q => Blk.keep ((hJ.1.1.2.2.2.1) (rl q)) hb, fun q => .inr ((hJ.1.1.2.2.2.2) (rl q))⟩⟩⟩⟩, ⟨⟨⟨fun q => ⟨((hJ.1.2.1.1.1) (rl q)).1, by have := ((hJ.1.2.1.1.1) (rl q)).2.1; omega, ((hJ.1.2.1.1.1) (rl q)).2.2⟩, fun q n => Blk.keep ((hJ.1.2.1.1.2) (rl q) (fun m => n (.inr m))) hb⟩, ⟨fun q => Blk.keep ((hJ.1.2.1.2.1) (rl q)) hb, ⟨fun q => .inr ((hJ.1.2.1.2.2.1) (rl q)), fun q => ⟨((hJ.1.2.1.2.2.2) (rl q)).1, by have := ((hJ.1.2.1.2.2.2) (rl q)).2.1; omega, ((hJ.1.2.1.2.2.2) (rl q)).2.2⟩⟩⟩⟩, ⟨⟨fun q n => Blk.keep ((hJ.1.2.2.1.1) (rl q) (fun m => n (.inr m))) hb, ⟨fun q => Blk.keep ((hJ.1.2.2.1.2.1) (rl q)) hb, fun q => .inr ((hJ.1.2.2.1.2.2) (rl q))⟩⟩, ⟨fun q => ⟨((hJ.1.2.2.2.1) (rl q)).1, by have := ((hJ.1.2.2.2.1) (rl q)).2.1; omega, ((hJ.1.2.2.2.1) (rl q)).2.2⟩, ⟨fun q n => Blk.keep ((hJ.1.2.2.2.2.1) (rl q) (fun m => n (.inr m))) hb, fun q => Blk.keep ((hJ.1.2.2.2.2.2) (rl q)) hb⟩⟩⟩⟩⟩, ⟨⟨⟨⟨fun q => .inr ((hJ.2.1.1.1.1) (rl q)), fun q r => (hJ.2.1.1.1.2) (rl q) (rl r)⟩, ⟨fun q r => (hJ.2.1.1.2.1) (rl q) (rl r), ⟨fun q r => (hJ.2.1.1.2.2.1) (rl q) (rl r), fun q r => (hJ.2.1.1.2.2.2) (rl q) (rl r)⟩⟩⟩, ⟨⟨fun q r => (hJ.2.1.2.1.1) (rl q) (rl r), ⟨fun q r => (hJ.2.1.2.1.2.1) (rl q) (rl r), fun q => (hJ.2.1.2.1.2.2) (rl q)⟩⟩, ⟨fun q => (hJ.2.1.2.2.1) (rl q), ⟨fun q => (hJ.2.1.2.2.2.1) (rl q), fun q => (hJ.2.1.2.2.2.2) (rl q)⟩⟩⟩⟩, ⟨⟨⟨fun _ => by first | exact rfl | exact e4, ⟨fun _ => rfl, fun q => (hJ.2.2.1.1.2.2) (rl q)⟩⟩, ⟨fun q => (hJ.2.2.1.2.1) (rl q), ⟨fun q => (hJ.2.2.1.2.2.1) (rl q), fun q => (hJ.2.2.1.2.2.2) (rl q)⟩⟩⟩, ⟨⟨fun q => (hJ.2.2.2.1.1) (rl q), ⟨fun q => (hJ.2.2.2.1.2.1) (rl q), fun q => (hJ.2.2.2.1.2.2) (rl q)⟩⟩, ⟨fun q => (hJ.2.2.2.2.1) (rl q), ⟨fun q => (hJ.2.2.2.2.2.1) (rl q), fun q => (hJ.2.2.2.2.2.2) (rl q)⟩⟩⟩⟩⟩⟩
    refine StepsOk.cons (i := 6) rfl (fun L x G w1 K Q hn hp hJ hK => ?_) ?_
    · skip
      simp only [putAll, Act.put, List.setIfInBounds_toArray, List.set_cons_zero, List.set_cons_succ]
      go_simp
      refine hK _ G _ (by kernel_rfl) ?_
      exact ⟨⟨⟨⟨⟨(hJ.1.1.1.1.1), (hJ.1.1.1.1.2)⟩, ⟨(hJ.1.1.1.2.1), ⟨(hJ.1.1.1.2.2.1), (hJ.1.1.1.2.2.2)⟩⟩⟩, ⟨⟨(hJ.1.1.2.1.1), ⟨(hJ.1.1.2.1.2.1), fun q => (hJ.1.1.2.1.2.2) (rl q)⟩⟩, ⟨fun q n => (hJ.1.1.2.2.1) (rl q) (fun m => n (.inr m)), ⟨fun q => (hJ.1.1.2.2.2.1) (rl q), fun q => .inr ((hJ.1.1.2.2.2.2) (rl q))⟩⟩⟩⟩, ⟨⟨⟨fun q => (hJ.1.2.1.1.1) (rl q), fun q n => (hJ.1.2.1.1.2) (rl q) (fun m => n (.inr m))⟩, ⟨fun q => (hJ.1.2.1.2.1) (rl q), ⟨fun q => .inr ((hJ.1.2.1.2.2.1) (rl q)), fun q => (hJ.1.2.1.2.2.2) (rl q)⟩⟩⟩, ⟨⟨fun q n => (hJ.1.2.2.1.1) (rl q) (fun m => n (.inr m)), ⟨fun q => (hJ.1.2.2.1.2.1) (rl q), fun q => .inr ((hJ.1.2.2.1.2.2) (rl q))⟩⟩, ⟨fun q => (hJ.1.2.2.2.1) (rl q), ⟨fun q n => (hJ.1.2.2.2.2.1) (rl q) (fun m => n (.inr m)), fun q => (hJ.1.2.2.2.2.2) (rl q)⟩⟩⟩⟩⟩, ⟨⟨⟨⟨fun q => .inr ((hJ.2.1.1.1.1) (rl q)), fun q r => (hJ.2.1.1.1.2) (rl q) (rl r)⟩, ⟨fun q r => (hJ.2.1.1.2.1) (rl q) (rl r), ⟨fun q r => (hJ.2.1.1.2.2.1) (rl q) (rl r), fun q r => (hJ.2.1.1.2.2.2) (rl q) (rl r)⟩⟩⟩, ⟨⟨fun q r => (hJ.2.1.2.1.1) (rl q) (rl r), ⟨fun q r => (hJ.2.1.2.1.2.1) (rl q) (rl r), fun q => (hJ.2.1.2.1.2.2) (rl q)⟩⟩, ⟨fun q => (hJ.2.1.2.2.1) (rl q), ⟨fun q => (hJ.2.1.2.2.2.1) (rl q), fun q => (hJ.2.1.2.2.2.2) (rl q)⟩⟩⟩⟩, ⟨⟨⟨fun q => (hJ.2.2.1.1.1) (rl q), ⟨fun q => (hJ.2.2.1.1.2.1) (rl q), fun _ => rfl⟩⟩, ⟨fun q => (hJ.2.2.1.2.1) (rl q), ⟨fun q => (hJ.2.2.1.2.2.1) (rl q), fun q => (hJ.2.2.1.2.2.2) (rl q)⟩⟩⟩, ⟨⟨fun q => (hJ.2.2.2.1.1) (rl q), ⟨fun q => (hJ.2.2.2.1.2.1) (rl q), fun q => (hJ.2.2.2.1.2.2) (rl q)⟩⟩, ⟨fun q => (hJ.2.2.2.2.1) (rl q), ⟨fun q => (hJ.2.2.2.2.2.1) (rl q), fun q => (hJ.2.2.2.2.2.2) (rl q)⟩⟩⟩⟩⟩⟩
    refine StepsOk.cons (i := 7) rfl (fun L x G w1 K Q hn hp hJ hK => ?_) ?_
    · skip
      have p6 : L 6 := hp ⟨6, .data⟩ (by simp) rfl
      have e6 := (hJ.2.2.1.1.2.2) p6
      have hc := Blk.open2 ((hJ.1.1.1.2.2.2))
      have c0 := hc.1
      have c1 := hc.2.1
      have c2 := hc.2.2.1
      have c3 := hc.2.2.2
      clear hc
      simp only [putAll, Act.put, List.setIfInBounds_toArray, List.set_cons_zero, List.set_cons_succ]
      go_simp
      refine hK _ G _ (by kernel_rfl) ?_
      exact ⟨⟨⟨⟨⟨(hJ.1.1.1.1.1), (hJ.1.1.1.1.2)⟩, ⟨(hJ.1.1.1.2.1), ⟨(hJ.1.1.1.2.2.1), (hJ.1.1.1.2.2.2)⟩⟩⟩, ⟨⟨(hJ.1.1.2.1.1), ⟨(hJ.1.1.2.1.2.1), fun q => (hJ.1.1.2.1.2.2) (rl q)⟩⟩, ⟨fun q n => (hJ.1.1.2.2.1) (rl q) (fun m => n (.inr m)), ⟨fun q => (hJ.1.1.2.2.2.1) (rl q), fun q => .inr ((hJ.1.1.2.2.2.2) (rl q))⟩⟩⟩⟩, ⟨⟨⟨fun q => (hJ.1.2.1.1.1) (rl q), fun q n => (hJ.1.2.1.1.2) (rl q) (fun m => n (.inr m))⟩, ⟨fun q => (hJ.1.2.1.2.1) (rl q), ⟨fun q => .inr ((hJ.1.2.1.2.2.1) (rl q)), fun q => (hJ.1.2.1.2.2.2) (rl q)⟩⟩⟩, ⟨⟨fun q n => (hJ.1.2.2.1.1) (rl q) (fun m => n (.inr m)), ⟨fun q => (hJ.1.2.2.1.2.1) (rl q), fun q => .inr ((hJ.1.2.2.1.2.2) (rl q))⟩⟩, ⟨fun q => (hJ.1.2.2.2.1) (rl q), ⟨fun q n => (hJ.1.2.2.2.2.1) (rl q) (fun m => n (.inr m)), fun q => (hJ.1.2.2.2.2.2) (rl q)⟩⟩⟩⟩⟩, ⟨⟨⟨⟨fun q => .inr ((hJ.2.1.1.1.1) (rl q)), fun q r => (hJ.2.1.1.1.2) (rl q) (rl r)⟩, ⟨fun q r => (hJ.2.1.1.2.1) (rl q) (rl r), ⟨fun q r => (hJ.2.1.1.2.2.1) (rl q) (rl r), fun q r => (hJ.2.1.1.2.2.2) (rl q) (rl r)⟩⟩⟩, ⟨⟨fun q r => (hJ.2.1.2.1.1) (rl q) (rl r), ⟨fun q r => (hJ.2.1.2.1.2.1) (rl q) (rl r), fun q => (hJ.2.1.2.1.2.2) (rl q)⟩⟩, ⟨fun q => (hJ.2.1.2.2.1) (rl q), ⟨fun q => (hJ.2.1.2.2.2.1) (rl q), fun q => (hJ.2.1.2.2.2.2) (rl q)⟩⟩⟩⟩, ⟨⟨⟨fun q => (hJ.2.2.1.1.1) (rl q), ⟨fun q => (hJ.2.2.1.1.2.1) (rl q), fun _ => by first | exact rfl | exact e6⟩⟩, ⟨fun _ => rfl, ⟨fun q => (hJ.2.2.1.2.2.1) (rl q), fun q => (hJ.2.2.1.2.2.2) (rl q)⟩⟩⟩, ⟨⟨fun q => (hJ.2.2.2.1.1) (rl q), ⟨fun q => (hJ.2.2.2.1.2.1) (rl q), fun q => (hJ.2.2.2.1.2.2) (rl q)⟩⟩, ⟨fun q => (hJ.2.2.2.2.1) (rl q), ⟨fun q => (hJ.2.2.2.2.2.1) (rl q), fun q => (hJ.2.2.2.2.2.2) (rl q)⟩⟩⟩⟩⟩⟩
    refine StepsOk.cons (i := 8) rfl (fun L x G w1 K Q hn hp hJ hK => ?_) ?_
    · skip
      have p7 : L 7 := hp ⟨7, .data⟩ (by simp) rfl
      have e7 := (hJ.2.2.1.2.1) p7
      simp only [putAll, Act.put, List.setIfInBounds_toArray, List.set_cons_zero, List.set_cons_succ]
      go_simp
      refine (rof_c _ _ y1 y2).mono ?_
      rintro e w2 ⟨rfl, hb⟩
      have hz := hb.size
      try go_simp
      refine hK _ G _ (by kernel_rfl) ?_
      exact ⟨⟨⟨⟨⟨bt (hJ.1.1.1.1.1) hb, Nat.lt_of_lt_of_le (hJ.1.1.1.1.2) hb.size⟩, ⟨Blk.keep ((hJ.1.1.1.2.1)) hb, ⟨Nat.lt_of_lt_of_le (hJ.1.1.1.2.2.1) hb.size, Blk.keep ((hJ.1.1.1.2.2.2)) hb⟩⟩⟩, ⟨⟨Nat.lt_of_lt_of_le (hJ.1.1.2.1.1) hb.size, ⟨Blk.keep ((hJ.1.1.2.1.2.1)) hb, fun q => ⟨((hJ.1.1.2.1.2.2) (rl q)).1, by have := ((hJ.1.1.2.1.2.2) (rl q)).2.1; omega, ((hJ.1.1.2.1.2.2) (rl q)).2.2⟩⟩⟩, ⟨fun q n => Blk.keep ((hJ.1.1.2.2.1) (rl q) (fun m => n (.inr m))) hb, ⟨fun q => Blk.keep ((hJ.1.1.2.2.2.1) (rl q)) hb, fun q => .inr ((hJ.1.1.2.2.2.2) (rl q))⟩⟩⟩⟩, ⟨⟨⟨fun q => ⟨((hJ.1.2.1.1.1) (rl q)).1, by have := ((hJ.1.2.1.1.1) (rl q)).2.1; omega, ((hJ.1.2.1.1.1) (rl q)).2.2⟩, fun q n => Blk.keep ((hJ.1.2.1.1.2) (rl q) (fun m => n (.inr m))) hb⟩, ⟨fun q => Blk.keep ((hJ.1.2.1.2.1) (rl q)) hb, ⟨fun q => .inr ((hJ.1.2.1.2.2.1) (rl q)), fun q => ⟨((hJ.1.2.1.2.2.2) (rl q)).1, by have := ((hJ.1.2.1.2.2.2) (rl q)).2.1; omega, ((hJ.1.2.1.2.2.2) (rl q)).2.2⟩⟩⟩⟩, ⟨⟨fun q n => Blk.keep ((hJ.1.2.2.1.1) (rl q) (fun m => n (.inr m))) hb, ⟨fun q => Blk.keep ((hJ.1.2.2.1.2.1) (rl q)) hb, fun q => .inr ((hJ.1.2.2.1.2.2) (rl q))⟩⟩, ⟨fun q => ⟨((hJ.1.2.2.2.1) (rl q)).1, by have := ((hJ.1.2.2.2.1) (rl q)).2.1; omega, ((hJ.1.2.2.2.1) (rl q)).2.2⟩, ⟨fun q n => Blk.keep ((hJ.1.2.2.2.2.1) (rl q) (fun m => n (.inr m))) hb, fun q => Blk.keep ((hJ.1.2.2.2.2.2) (rl q)) hb⟩⟩⟩⟩⟩, ⟨⟨⟨⟨fun q => .inr ((hJ.2.1.1.1.1) (rl q)), fun q r => (hJ.2.1.1.1.2) (rl q) (rl r)⟩, ⟨fun q r => (hJ.2.1.1.2.1) (rl q) (rl r), ⟨fun q r => (hJ.2.1.1.2.2.1) (rl q) (rl r), fun q r => (hJ.2.1.1.2.2.2) (rl q) (rl r)⟩⟩⟩, ⟨⟨fun q r => (hJ.2.1.2.1.1) (rl q) (rl r), ⟨fun q r => (hJ.2.1.2.1.2.1) (rl q) (rl r), fun q => (hJ.2.1.2.1.2.2) (rl q)⟩⟩, ⟨fun q => (hJ.2.1.2.2.1) (rl q), ⟨fun q => (hJ.2.1.2.2.2.1) (rl q), fun q => (hJ.2.1.2.2.2.2) (rl q)⟩⟩⟩⟩, ⟨⟨⟨fun q => (hJ.2.2.1.1.1) (rl q), ⟨fun q => (hJ.2.2.1.1.2.1) (rl q), fun q => (hJ.2.2.1.1.2.2) (rl q)⟩⟩, ⟨fun _ => by first | exact rfl | exact e7, ⟨fun _ => rfl, fun q => (hJ.2.2.1.2.2.2) (rl q)⟩⟩⟩, ⟨⟨fun q => (hJ.2.2.2.1.1) (rl q), ⟨fun q => (hJ.2.2.2.1.2.1) (rl q), fun q => (hJ.2.2.2.1.2.2) (rl q)⟩⟩, ⟨fun q => (hJ.2.2.2.2.1) (rl q), ⟨fun q => (hJ.2.2.2.2.2.1) (rl q), fun q => (hJ.2.2.2.2.2.2) (rl q)⟩⟩⟩⟩⟩⟩
    refine StepsOk.cons (i := 9) rfl (fun L x G w1 K Q hn hp hJ hK => ?_) ?_
    · skip
      simp only [putAll, Act.put, List.setIfInBounds_toArray, List.set_cons_zero, List.set_cons_succ]
      go_simp
      refine hK _ G _ (by kernel_rfl) ?_
      exact ⟨⟨⟨⟨⟨(hJ.1.1.1.1.1), (hJ.1.1.1.1.2)⟩, ⟨(hJ.1.1.1.2.1), ⟨(hJ.1.1.1.2.2.1), (hJ.1.1.1.2.2.2)⟩⟩⟩, ⟨⟨(hJ.1.1.2.1.1), ⟨(hJ.1.1.2.1.2.1), fun q => (hJ.1.1.2.1.2.2) (rl q)⟩⟩, ⟨fun q n => (hJ.1.1.2.2.1) (rl q) (fun m => n (.inr m)), ⟨fun q => (hJ.1.1.2.2.2.1) (rl q), fun q => .inr ((hJ.1.1.2.2.2.2) (rl q))⟩⟩⟩⟩, ⟨⟨⟨fun q => (hJ.1.2.1.1.1) (rl q), fun q n => (hJ.1.2.1.1.2) (rl q) (fun m => n (.inr m))⟩, ⟨fun q => (hJ.1.2.1.2.1) (rl q), ⟨fun q => .inr ((hJ.1.2.1.2.2.1) (rl q)), fun q => (hJ.1.2.1.2.2.2) (rl q)⟩⟩⟩, ⟨⟨fun q n => (hJ.1.2.2.1.1) (rl q) (fun m => n (.inr m)), ⟨fun q => (hJ.1.2.2.1.2.1) (rl q), fun q => .inr ((hJ.1.2.2.1.2.2) (rl q))⟩⟩, ⟨fun q => (hJ.1.2.2.2.1) (rl q), ⟨fun q n => (hJ.1.2.2.2.2.1) (rl q) (fun m => n (.inr m)), fun q => (hJ.1.2.2.2.2.2) (rl q)⟩⟩⟩⟩⟩, ⟨⟨⟨⟨fun q => .inr ((hJ.2.1.1.1.1) (rl q)), fun q r => (hJ.2.1.1.1.2) (rl q) (rl r)⟩, ⟨fun q r => (hJ.2.1.1.2.1) (rl q) (rl r), ⟨fun q r => (hJ.2.1.1.2.2.1) (rl q) (rl r), fun q r => (hJ.2.1.1.2.2.2) (rl q) (rl r)⟩⟩⟩, ⟨⟨fun q r => (hJ.2.1.2.1.1) (rl q) (rl r), ⟨fun q r => (hJ.2.1.2.1.2.1) (rl q) (rl r), fun q => (hJ.2.1.2.1.2.2) (rl q)⟩⟩, ⟨fun q => (hJ.2.1.2.2.1) (rl q), ⟨fun q => (hJ.2.1.2.2.2.1) (rl q), fun q => (hJ.2.1.2.2.2.2) (rl q)⟩⟩⟩⟩, ⟨⟨⟨fun q => (hJ.2.2.1.1.1) (rl q), ⟨fun q => (hJ.2.2.1.1.2.1) (rl q), fun q => (hJ.2.2.1.1.2.2) (rl q)⟩⟩, ⟨fun q => (hJ.2.2.1.2.1) (rl q), ⟨fun q => (hJ.2.2.1.2.2.1) (rl q), fun _ => rfl⟩⟩⟩, ⟨⟨fun q => (hJ.2.2.2.1.1) (rl q), ⟨fun q => (hJ.2.2.2.1.2.1) (rl q), fun q => (hJ.2.2.2.1.2.2) (rl q)⟩⟩, ⟨fun q => (hJ.2.2.2.2.1) (rl q), ⟨fun q => (hJ.2.2.2.2.2.1) (rl q), fun q => (hJ.2.2.2.2.2.2) (rl q)⟩⟩⟩⟩⟩⟩
    refine StepsOk.cons (i := 10) rfl (fun L x G w1 K Q hn hp hJ hK => ?_) ?_
    · skip
      have p9 : L 9 := hp ⟨9, .data⟩ (by simp) rfl
      have e9 := (hJ.2.2.1.2.2.2) p9
      have hc := Blk.open2 ((hJ.1.1.1.2.2.2))
      have c0 := hc.1
      have c1 := hc.2.1
      have c2 := hc.2.2.1
      have c3 := hc.2.2.2
      clear hc
      simp only [putAll, Act.put, List.setIfInBounds_toArray, List.set_cons_zero, List.set_cons_succ]
      go_simp
      refine hK _ G _ (by kernel_rfl) ?_
      exact ⟨⟨⟨⟨⟨(hJ.1.1.1.1.1), (hJ.1.1.1.1.2)⟩, ⟨(hJ.1.1.1.2.1), ⟨(hJ.1.1.1.2.2.1), (hJ.1.1.1.2.2.2)⟩⟩⟩, ⟨⟨(hJ.1.1.2.1.1), ⟨(hJ.1.1.2.1.2.1), fun q => (hJ.1.1.2.1.2.2) (rl q)⟩⟩, ⟨fun q n => (hJ.1.1.2.2.1) (rl q) (fun m => n (.inr m)), ⟨fun q => (hJ.1.1.2.2.2.1) (rl q), fun q => .inr ((hJ.1.1.2.2.2.2) (rl q))⟩⟩⟩⟩, ⟨⟨⟨fun q => (hJ.1.2.1.1.1) (rl q), fun q n => (hJ.1.2.1.1.2) (rl q) (fun m => n (.inr m))⟩, ⟨fun q => (hJ.1.2.1.2.1) (rl q), ⟨fun q => .inr ((hJ.1.2.1.2.2.1) (rl q)), fun q => (hJ.1.2.1.2.2.2) (rl q)⟩⟩⟩, ⟨⟨fun q n => (hJ.1.2.2.1.1) (rl q) (fun m => n (.inr m)), ⟨fun q => (hJ.1.2.2.1.2.1) (rl q), fun q => .inr ((hJ.1.2.2.1.2.2) (rl q))⟩⟩, ⟨fun q => (hJ.1.2.2.2.1) (rl q), ⟨fun q n => (hJ.1.2.2.2.2.1) (rl q) (fun m => n (.inr m)), fun q => (hJ.1.2.2.2.2.2) (rl q)⟩⟩⟩⟩⟩, ⟨⟨⟨⟨fun q => .inr ((hJ.2.1.1.1.1) (rl q)), fun q r => (hJ.2.1.1.1.2) (rl q) (rl r)⟩, ⟨fun q r => (hJ.2.1.1.2.1) (rl q) (rl r), ⟨fun q r => (hJ.2.1.1.2.2.1) (rl q) (rl r), fun q r => (hJ.2.1.1.2.2.2) (rl q) (rl r)⟩⟩⟩, ⟨⟨fun q r => (hJ.2.1.2.1.1) (rl q) (rl r), ⟨fun q r => (hJ.2.1.2.1.2.1) (rl q) (rl r), fun q => (hJ.2.1.2.1.2.2) (rl q)⟩⟩, ⟨fun q => (hJ.2.1.2.2.1) (rl q), ⟨fun q => (hJ.2.1.2.2.2.1) (rl q), fun q => (hJ.2.1.2.2.2.2) (rl q)⟩⟩⟩⟩, ⟨⟨⟨fun q => (hJ.2.2.1.1.1) (rl q), ⟨fun q => (hJ.2.2.1.1.2.1) (rl q), fun q => (hJ.2.2.1.1.2.2) (rl q)⟩⟩, ⟨fun q => (hJ.2.2.1.2.1) (rl q), ⟨fun q => (hJ.2.2.1.2.2.1) (rl q), fun _ => by first | exact rfl | exact e9⟩⟩⟩, ⟨⟨fun _ => rfl, ⟨fun q => (hJ.2.2.2.1.2.1) (rl q), fun q => (hJ.2.2.2.1.2.2) (rl q)⟩⟩, ⟨fun q => (hJ.2.2.2.2.1) (rl q), ⟨fun q => (hJ.2.2.2.2.2.1) (rl q), fun q => (hJ.2.2.2.2.2.2) (rl q)⟩⟩⟩⟩⟩⟩
    refine StepsOk.cons (i := 11) rfl (fun L x G w1 K Q hn hp hJ hK => ?_) ?_
    · skip
      have p10 : L 10 := hp ⟨10, .data⟩ (by simp) rfl
      have e10 := (hJ.2.2.2.1.1) p10
      simp only [putAll, Act.put, List.setIfInBounds_toArray, List.set_cons_zero, List.set_cons_succ]
      go_simp
      refine (rof_c _ _ yy1 yy2).mono ?_
      rintro e w2 ⟨rfl, hb⟩
      have hz := hb.size
      try go_simp
      refine hK _ G _ (by kernel_rfl) ?_
      exact ⟨⟨⟨⟨⟨bt (hJ.1.1.1.1.1) hb, Nat.lt_of_lt_of_le (hJ.1.1.1.1.2) hb.size⟩, ⟨Blk.keep ((hJ.1.1.1.2.1)) hb, ⟨Nat.lt_of_lt_of_le (hJ.1.1.1.2.2.1) hb.size, Blk.keep ((hJ.1.1.1.2.2.2)) hb⟩⟩⟩, ⟨⟨Nat.lt_of_lt_of_le (hJ.1.1.2.1.1) hb.size, ⟨Blk.keep ((hJ.1.1.2.1.2.1)) hb, fun q => ⟨((hJ.1.1.2.1.2.2) (rl q)).1, by have := ((hJ.1.1.2.1.2.2) (rl q)).2.1; omega, ((hJ.1.1.2.1.2.2) (rl q)).2.2⟩⟩⟩, ⟨fun q n => Blk.keep ((hJ.1.1.2.2.1) (rl q) (fun m => n (.inr m))) hb, ⟨fun q => Blk.keep ((hJ.1.1.2.2.2.1) (rl q)) hb, fun q => .inr ((hJ.1.1.2.2.2.2) (rl q))⟩⟩⟩⟩, ⟨⟨⟨fun q => ⟨((hJ.1.2.1.1.1) (rl q)).1, by have := ((hJ.1.2.1.1.1) (rl q)).2.1; omega, ((hJ.1.2.1.1.1) (rl q)).2.2⟩, fun q n => Blk.keep ((hJ.1.2.1.1.2) (rl q) (fun m => n (.inr m))) hb⟩, ⟨fun q => Blk.keep ((hJ.1.2.1.2.1) (rl q)) hb, ⟨fun q => .inr ((hJ.1.2.1.2.2.1) (rl q)), fun q => ⟨((hJ.1.2.1.2.2.2) (rl q)).1, by have := ((hJ.1.2.1.2.2.2) (rl q)).2.1; omega, ((hJ.1.2.1.2.2.2) (rl q)).2.2⟩⟩⟩⟩, ⟨⟨fun q n => Blk.keep ((hJ.1.2.2.1.1) (rl q) (fun m => n (.inr m))) hb, ⟨fun q => Blk.keep ((hJ.1.2.2.1.2.1) (rl q)) hb, fun q => .inr ((hJ.1.2.2.1.2.2) (rl q))⟩⟩, ⟨fun q => ⟨((hJ.1.2.2.2.1) (rl q)).1, by have := ((hJ.1.2.2.2.1) (rl q)).2.1; omega, ((hJ.1.2.2.2.1) (rl q)).2.2⟩, ⟨fun q n => Blk.keep ((hJ.1.2.2.2.2.1) (rl q) (fun m => n (.inr m))) hb, fun q => Blk.keep ((hJ.1.2.2.2.2.2) (rl q)) hb⟩⟩⟩⟩⟩, ⟨⟨⟨⟨fun q => .inr ((hJ.2.1.1.1.1) (rl q)), fun q r => (hJ.2.1.1.1.2) (rl q) (rl r)⟩, ⟨fun q r => (hJ.2.1.1.2.1) (rl q) (rl r), ⟨fun q r => (hJ.2.1.1.2.2.1) (rl q) (rl r), fun q r => (hJ.2.1.1.2.2.2) (rl q) (rl r)⟩⟩⟩, ⟨⟨fun q r => (hJ.2.1.2.1.1) (rl q) (rl r), ⟨fun q r => (hJ.2.1.2.1.2.1) (rl q) (rl r), fun q => (hJ.2.1.2.1.2.2) (rl q)⟩⟩, ⟨fun q => (hJ.2.1.2.2.1) (rl q), ⟨fun q => (hJ.2.1.2.2.2.1) (rl q), fun q => (hJ.2.1.2.2.2.2) (rl q)⟩⟩⟩⟩, ⟨⟨⟨fun q => (hJ.2.2.1.1.1) (rl q), ⟨fun q => (hJ.2.2.1.1.2.1) (rl q), fun q => (hJ.2.2.1.1.2.2) (rl q)⟩⟩, ⟨fun q => (hJ.2.2.1.2.1) (rl q), ⟨fun q => (hJ.2.2.1.2.2.1) (rl q), fun q => (hJ.2.2.1.2.2.2) (rl q)⟩⟩⟩, ⟨⟨fun _ => by first | exact rfl | exact e10, ⟨fun _ => rfl, fun q => (hJ.2.2.2.1.2.2) (rl q)⟩⟩, ⟨fun q => (hJ.2.2.2.2.1) (rl q), ⟨fun q => (hJ.2.2.2.2.2.1) (rl q), fun q => (hJ.2.2.2.2.2.2) (rl q)⟩⟩⟩⟩⟩⟩
    refine StepsOk.cons (i := 12) rfl (fun L x G w1 K Q hn hp hJ hK => ?_) ?_
    · skip
      simp only [putAll, Act.put, List.setIfInBounds_toArray, List.set_cons_zero, List.set_cons_succ]
      go_simp
      refine hK _ (fun t => if t = 12 then w1.heap.size else G t) _ (by kernel_rfl) ?_
      exact ⟨⟨⟨⟨⟨bal (hJ.1.1.1.1.1) _, by simp; omega⟩, ⟨Blk.alloc ((hJ.1.1.1.2.1)) _, ⟨by simp; omega, Blk.alloc ((hJ.1.1.1.2.2.2)) _⟩⟩⟩, ⟨⟨by simp; omega, ⟨Blk.alloc ((hJ.1.1.2.1.2.1)) _, fun _ => ⟨(hJ.1.1.1.1.1).size, by simp, Nat.ne_of_lt (hJ.1.1.1.1.2), Nat.ne_of_lt (hJ.1.1.1.2.2.1), Nat.ne_of_lt (hJ.1.1.2.1.1)⟩⟩⟩, ⟨fun _ _ => Blk.new w1 _ _, ⟨fun q => absurd ((hJ.1.1.2.2.2.2) (rl q)) hn, fun q => .inr ((hJ.1.1.2.2.2.2) (rl q))⟩⟩⟩⟩, ⟨⟨⟨fun q => ⟨((hJ.1.2.1.1.1) (rl q)).1, by have := ((hJ.1.2.1.1.1) (rl q)).2.1; simp; omega, ((hJ.1.2.1.1.1) (rl q)).2.2⟩, fun q n => Blk.alloc ((hJ.1.2.1.1.2) (rl q) (fun m => n (.inr m))) _⟩, ⟨fun q => Blk.alloc ((hJ.1.2.1.2.1) (rl q)) _, ⟨fun q => .inr ((hJ.1.2.1.2.2.1) (rl q)), fun q => ⟨((hJ.1.2.1.2.2.2) (rl q)).1, by have := ((hJ.1.2.1.2.2.2) (rl q)).2.1; simp; omega, ((hJ.1.2.1.2.2.2) (rl q)).2.2⟩⟩⟩⟩, ⟨⟨fun q n => Blk.alloc ((hJ.1.2.2.1.1) (rl q) (fun m => n (.inr m))) _, ⟨fun q => Blk.alloc ((hJ.1.2.2.1.2.1) (rl q)) _, fun q => .inr ((hJ.1.2.2.1.2.2) (rl q))⟩⟩, ⟨fun q => ⟨((hJ.1.2.2.2.1) (rl q)).1, by have := ((hJ.1.2.2.2.1) (rl q)).2.1; simp; omega, ((hJ.1.2.2.2.1) (rl q)).2.2⟩, ⟨fun q n => Blk.alloc ((hJ.1.2.2.2.2.1) (rl q) (fun m => n (.inr m))) _, fun q => Blk.alloc ((hJ.1.2.2.2.2.2) (rl q)) _⟩⟩⟩⟩⟩, ⟨⟨⟨⟨fun q => .inr ((hJ.2.1.1.1.1) (rl q)), fun q _ => Nat.ne_of_lt ((hJ.1.2.1.1.1) (rl q)).2.1⟩, ⟨fun q _ => Nat.ne_of_lt ((hJ.1.2.1.2.2.2) (rl q)).2.1, ⟨fun q r => (hJ.2.1.1.2.2.1) (rl q) (rl r), fun q _ => Nat.ne_of_lt ((hJ.1.2.2.2.1) (rl q)).2.1⟩⟩⟩, ⟨⟨fun q r => (hJ.2.1.2.1.1) (rl q) (rl r), ⟨fun q r => (hJ.2.1.2.1.2.1) (rl q) (rl r), fun q => (hJ.2.1.2.1.2.2) (rl q)⟩⟩, ⟨fun q => (hJ.2.1.2.2.1) (rl q), ⟨fun q => (hJ.2.1.2.2.2.1) (rl q), fun q => (hJ.2.1.2.2.2.2) (rl q)⟩⟩⟩⟩, ⟨⟨⟨fun q => (hJ.2.2.1.1.1) (rl q), ⟨fun q => (hJ.2.2.1.1.2.1) (rl q), fun q => (hJ.2.2.1.1.2.2) (rl q)⟩⟩, ⟨fun q => (hJ.2.2.1.2.1) (rl q), ⟨fun q => (hJ.2.2.1.2.2.1) (rl q), fun q => (hJ.2.2.1.2.2.2) (rl q)⟩⟩⟩, ⟨⟨fun q => (hJ.2.2.2.1.1) (rl q), ⟨fun q => (hJ.2.2.2.1.2.1) (rl q), fun _ => rfl⟩⟩, ⟨fun q => (hJ.2.2.2.2.1) (rl q), ⟨fun q => (hJ.2.2.2.2.2.1) (rl q), fun q => (hJ.2.2.2.2.2.2) (rl q)⟩⟩⟩⟩⟩⟩
    refine StepsOk.cons (i := 13) rfl (fun L x G w1 K Q hn hp hJ hK => ?_) ?_
    · skip
      simp only [putAll, Act.put, List.setIfInBounds_toArray, List.set_cons_zero, List.set_cons_succ]
      go_simp
      refine hK _ (fun t => if t = 13 then w1.heap.size else G t) _ (by kernel_rfl) ?_
      exact ⟨⟨⟨⟨⟨bal (hJ.1.1.1.1.1) _, by simp; omega⟩, ⟨Blk.alloc ((hJ.1.1.1.2.1)) _, ⟨by simp; omega, Blk.alloc ((hJ.1.1.1.2.2.2)) _⟩⟩⟩, ⟨⟨by simp; omega, ⟨Blk.alloc ((hJ.1.1.2.1.2.1)) _, fun q => ⟨((hJ.1.1.2.1.2.2) (rl q)).1, by have := ((hJ.1.1.2.1.2.2) (rl q)).2.1; simp; omega, ((hJ.1.1.2.1.2.2) (rl q)).2.2⟩⟩⟩, ⟨fun q n => Blk.alloc ((hJ.1.1.2.2.1) (rl q) (fun m => n (.inr m))) _, ⟨fun q => Blk.alloc ((hJ.1.1.2.2.2.1) (rl q)) _, fun q => .inr ((hJ.1.1.2.2.2.2) (rl q))⟩⟩⟩⟩, ⟨⟨⟨fun _ => ⟨(hJ.1.1.1.1.1).size, by simp, Nat.ne_of_lt (hJ.1.1.1.1.2), Nat.ne_of_lt (hJ.1.1.1.2.2.1), Nat.ne_of_lt (hJ.1.1.2.1.1)⟩, fun _ _ => Blk.new w1 _ _⟩, ⟨fun q => absurd ((hJ.1.2.1.2.2.1) (rl q)) hn, ⟨fun q => .inr ((hJ.1.2.1.2.2.1) (rl q)), fun q => ⟨((hJ.1.2.1.2.2.2) (rl q)).1, by have := ((hJ.1.2.1.2.2.2) (rl q)).2.1; simp; omega, ((hJ.1.2.1.2.2.2) (rl q)).2.2⟩⟩⟩⟩, ⟨⟨fun q n => Blk.alloc ((hJ.1.2.2.1.1) (rl q) (fun m => n (.inr m))) _, ⟨fun q => Blk.alloc ((hJ.1.2.2.1.2.1) (rl q)) _, fun q => .inr ((hJ.1.2.2.1.2.2) (rl q))⟩⟩, ⟨fun q => ⟨((hJ.1.2.2.2.1) (rl q)).1, by have := ((hJ.1.2.2.2.1) (rl q)).2.1; simp; omega, ((hJ.1.2.2.2.1) (rl q)).2.2⟩, ⟨fun q n => Blk.alloc ((hJ.1.2.2.2.2.1) (rl q) (fun m => n (.inr m))) _, fun q => Blk.alloc ((hJ.1.2.2.2.2.2) (rl q)) _⟩⟩⟩⟩⟩, ⟨⟨⟨⟨fun q => .inr ((hJ.2.1.1.1.1) (rl q)), fun _ r => Nat.ne_of_gt ((hJ.1.1.2.1.2.2) (rl r)).2.1⟩, ⟨fun q r => (hJ.2.1.1.2.1) (rl q) (rl r), ⟨fun q _ => Nat.ne_of_lt ((hJ.1.2.1.2.2.2) (rl q)).2.1, fun q r => (hJ.2.1.1.2.2.2) (rl q) (rl r)⟩⟩⟩, ⟨⟨fun q _ => Nat.ne_of_lt ((hJ.1.2.2.2.1) (rl q)).2.1, ⟨fun q r => (hJ.2.1.2.1.2.1) (rl q) (rl r), fun q => (hJ.2.1.2.1.2.2) (rl q)⟩⟩, ⟨fun q => (hJ.2.1.2.2.1) (rl q), ⟨fun q => (hJ.2.1.2.2.2.1) (rl q), fun q => (hJ.2.1.2.2.2.2) (rl q)⟩⟩⟩⟩, ⟨⟨⟨fun q => (hJ.2.2.1.1.1) (rl q), ⟨fun q => (hJ.2.2.1.1.2.1) (rl q), fun q => (hJ.2.2.1.1.2.2) (rl q)⟩⟩, ⟨fun q => (hJ.2.2.1.2.1) (rl q), ⟨fun q => (hJ.2.2.1.2.2.1) (rl q), fun q => (hJ.2.2.1.2.2.2) (rl q)⟩⟩⟩, ⟨⟨fun q => (hJ.2.2.2.1.1) (rl q), ⟨fun q => (hJ.2.2.2.1.2.1) (rl q), fun q => (hJ.2.2.2.1.2.2) (rl q)⟩⟩, ⟨fun _ => rfl, ⟨fun q => (hJ.2.2.2.2.2.1) (rl q), fun q => (hJ.2.2.2.2.2.2) (rl q)⟩⟩⟩⟩⟩⟩
    refine StepsOk.cons (i := 14) rfl (fun L x G w1 K Q hn hp hJ hK => ?_) ?_
    · skip
      simp only [putAll, Act.put, List.setIfInBounds_toArray, List.set_cons_zero, List.set_cons_succ]
      go_simp
      refine hK _ (fun t => if t = 14 then w1.heap.size else G t) _ (by kernel_rfl) ?_
      exact ⟨⟨⟨⟨⟨bal (hJ.1.1.1.1.1) _, by simp; omega⟩, ⟨Blk.alloc ((hJ.1.1.1.2.1)) _, ⟨by simp; omega, Blk.alloc ((hJ.1.1.1.2.2.2)) _⟩⟩⟩, ⟨⟨by simp; omega, ⟨Blk.alloc ((hJ.1.1.2.1.2.1)) _, fun q => ⟨((hJ.1.1.2.1.2.2) (rl q)).1, by have := ((hJ.1.1.2.1.2.2) (rl q)).2.1; simp; omega, ((hJ.1.1.2.1.2.2) (rl q)).2.2⟩⟩⟩, ⟨fun q n => Blk.alloc ((hJ.1.1.2.2.1) (rl q) (fun m => n (.inr m))) _, ⟨fun q => Blk.alloc ((hJ.1.1.2.2.2.1) (rl q)) _, fun q => .inr ((hJ.1.1.2.2.2.2) (rl q))⟩⟩⟩⟩, ⟨⟨⟨fun q => ⟨((hJ.1.2.1.1.1) (rl q)).1, by have := ((hJ.1.2.1.1.1) (rl q)).2.1; simp; omega, ((hJ.1.2.1.1.1) (rl q)).2.2⟩, fun q n => Blk.alloc ((hJ.1.2.1.1.2) (rl q) (fun m => n (.inr m))) _⟩, ⟨fun q => Blk.alloc ((hJ.1.2.1.2.1) (rl q)) _, ⟨fun q => .inr ((hJ.1.2.1.2.2.1) (rl q)), fun _ => ⟨(hJ.1.1.1.1.1).size, by simp, Nat.ne_of_lt (hJ.1.1.1.1.2), Nat.ne_of_lt (hJ.1.1.1.2.2.1), Nat.ne_of_lt (hJ.1.1.2.1.1)⟩⟩⟩⟩, ⟨⟨fun _ _ => Blk.new w1 _ _, ⟨fun q => absurd ((hJ.1.2.2.1.2.2) (rl q)) hn, fun q => .inr ((hJ.1.2.2.1.2.2) (rl q))⟩⟩, ⟨fun q => ⟨((hJ.1.2.2.2.1) (rl q)).1, by have := ((hJ.1.2.2.2.1) (rl q)).2.1; simp; omega, ((hJ.1.2.2.2.1) (rl q)).2.2⟩, ⟨fun q n => Blk.alloc ((hJ.1.2.2.2.2.1) (rl q) (fun m => n (.inr m))) _, fun q => Blk.alloc ((hJ.1.2.2.2.2.2) (rl q)) _⟩⟩⟩⟩⟩, ⟨⟨⟨⟨fun q => .inr ((hJ.2.1.1.1.1) (rl q)), fun q r => (hJ.2.1.1.1.2) (rl q) (rl r)⟩, ⟨fun _ r => Nat.ne_of_gt ((hJ.1.1.2.1.2.2) (rl r)).2.1, ⟨fun _ r => Nat.ne_of_gt ((hJ.1.2.1.1.1) (rl r)).2.1, fun q r => (hJ.2.1.1.2.2.2) (rl q) (rl r)⟩⟩⟩, ⟨⟨fun q r => (hJ.2.1.2.1.1) (rl q) (rl r), ⟨fun q _ => Nat.ne_of_lt ((hJ.1.2.2.2.1) (rl q)).2.1, fun q => (hJ.2.1.2.1.2.2) (rl q)⟩⟩, ⟨fun q => (hJ.2.1.2.2.1) (rl q), ⟨fun q => (hJ.2.1.2.2.2.1) (rl q), fun q => (hJ.2.1.2.2.2.2) (rl q)⟩⟩⟩⟩, ⟨⟨⟨fun q => (hJ.2.2.1.1.1) (rl q), ⟨fun q => (hJ.2.2.1.1.2.1) (rl q), fun q => (hJ.2.2.1.1.2.2) (rl q)⟩⟩, ⟨fun q => (hJ.2.2.1.2.1) (rl q), ⟨fun q => (hJ.2.2.1.2.2.1) (rl q), fun q => (hJ.2.2.1.2.2.2) (rl q)⟩⟩⟩, ⟨⟨fun q => (hJ.2.2.2.1.1) (rl q), ⟨fun q => (hJ.2.2.2.1.2.1) (rl q), fun q => (hJ.2.2.2.1.2.2) (rl q)⟩⟩, ⟨fun q => (hJ.2.2.2.2.1) (rl q), ⟨fun _ => rfl, fun q => (hJ.2.2.2.2.2.2) (rl q)⟩⟩⟩⟩⟩⟩
    refine StepsOk.cons (i := 15) rfl (fun L x G w1 K Q hn hp hJ hK => ?_) ?_
    · skip
      simp only [putAll, Act.put, List.setIfInBounds_toArray, List.set_cons_zero, List.set_cons_succ]
      go_simp
      refine hK _ (fun t => if t = 15 then w1.heap.size else G t) _ (by kernel_rfl) ?_
      exact ⟨⟨⟨⟨⟨bal (hJ.1.1.1.1.1) _, by simp; omega⟩, ⟨Blk.alloc ((hJ.1.1.1.2.1)) _, ⟨by simp; omega, Blk.alloc ((hJ.1.1.1.2.2.2)) _⟩⟩⟩, ⟨⟨by simp; omega, ⟨Blk.alloc ((hJ.1.1.2.1.2.1)) _, fun q => ⟨((hJ.1.1.2.1.2.2) (rl q)).1, by have := ((hJ.1.1.2.1.2.2) (rl q)).2.1; simp; omega, ((hJ.1.1.2.1.2.2) (rl q)).2.2⟩⟩⟩, ⟨fun q n => Blk.alloc ((hJ.1.1.2.2.1) (rl q) (fun m => n (.inr m))) _, ⟨fun q => Blk.alloc ((hJ.1.1.2.2.2.1) (rl q)) _, fun q => .inr ((hJ.1.1.2.2.2.2) (rl q))⟩⟩⟩⟩, ⟨⟨⟨fun q => ⟨((hJ.1.2.1.1.1) (rl q)).1, by have := ((hJ.1.2.1.1.1) (rl q)).2.1; simp; omega, ((hJ.1.2.1.1.1) (rl q)).2.2⟩, fun q n => Blk.alloc ((hJ.1.2.1.1.2) (rl q) (fun m => n (.inr m))) _⟩, ⟨fun q => Blk.alloc ((hJ.1.2.1.2.1) (rl q)) _, ⟨fun q => .inr ((hJ.1.2.1.2.2.1) (rl q)), fun q => ⟨((hJ.1.2.1.2.2.2) (rl q)).1, by have := ((hJ.1.2.1.2.2.2) (rl q)).2.1; simp; omega, ((hJ.1.2.1.2.2.2) (rl q)).2.2⟩⟩⟩⟩, ⟨⟨fun q n => Blk.alloc ((hJ.1.2.2.1.1) (rl q) (fun m => n (.inr m))) _, ⟨fun q => Blk.alloc ((hJ.1.2.2.1.2.1) (rl q)) _, fun q => .inr ((hJ.1.2.2.1.2.2) (rl q))⟩⟩, ⟨fun _ => ⟨(hJ.1.1.1.1.1).size, by simp, Nat.ne_of_lt (hJ.1.1.1.1.2), Nat.ne_of_lt (hJ.1.1.1.2.2.1), Nat.ne_of_lt (hJ.1.1.2.1.1)⟩, ⟨fun _ _ => Blk.new w1 _ _, fun q => absurd ((hJ.2.1.1.1.1) (rl q)) hn⟩⟩⟩⟩⟩, ⟨⟨⟨⟨fun q => .inr ((hJ.2.1.1.1.1) (rl q)), fun q r => (hJ.2.1.1.1.2) (rl q) (rl r)⟩, ⟨fun q r => (hJ.2.1.1.2.1) (rl q) (rl r), ⟨fun q r => (hJ.2.1.1.2.2.1) (rl q) (rl r), fun _ r => Nat.ne_of_gt ((hJ.1.1.2.1.2.2) (rl r)).2.1⟩⟩⟩, ⟨⟨fun _ r => Nat.ne_of_gt ((hJ.1.2.1.1.1) (rl r)).2.1, ⟨fun _ r => Nat.ne_of_gt ((hJ.1.2.1.2.2.2) (rl r)).2.1, fun q => (hJ.2.1.2.1.2.2) (rl q)⟩⟩, ⟨fun q => (hJ.2.1.2.2.1) (rl q), ⟨fun q => (hJ.2.1.2.2.2.1) (rl q), fun q => (hJ.2.1.2.2.2.2) (rl q)⟩⟩⟩⟩, ⟨⟨⟨fun q => (hJ.2.2.1.1.1) (rl q), ⟨fun q => (hJ.2.2.1.1.2.1) (rl q), fun q => (hJ.2.2.1.1.2.2) (rl q)⟩⟩, ⟨fun q => (hJ.2.2.1.2.1) (rl q), ⟨fun q => (hJ.2.2.1.2.2.1) (rl q), fun q => (hJ.2.2.1.2.2.2) (rl q)⟩⟩⟩, ⟨⟨fun q => (hJ.2.2.2.1.1) (rl q), ⟨fun q => (hJ.2.2.2.1.2.1) (rl q), fun q => (hJ.2.2.2.1.2.2) (rl q)⟩⟩, ⟨fun q => (hJ.2.2.2.2.1) (rl q), ⟨fun q => (hJ.2.2.2.2.2.1) (rl q), fun _ => rfl⟩⟩⟩⟩⟩⟩
    refine StepsOk.cons (i := 16) rfl (fun L x G w1 K Q hn hp hJ hK => ?_) ?_
    · skip
      have p2 : L 2 := hp ⟨2, .data⟩ (by simp) rfl
      have e2 := (hJ.2.1.2.2.2.1) p2
      have p12 : L 12 := hp ⟨12, .data⟩ (by simp) rfl
      have e12 := (hJ.2.2.2.1.2.2) p12
      have hc := Blk.open2 (((hJ.1.1.2.2.1) p12 hn))
      have c0 := hc.1
      have c1 := hc.2.1
      have c2 := hc.2.2.1
      have c3 := hc.2.2.2
      clear hc
      simp only [putAll, Act.put, List.setIfInBounds_toArray, List.set_cons_zero, List.set_cons_succ]
      go_simp
      refine hK _ G _ (by kernel_rfl) ?_
      exact ⟨⟨⟨⟨⟨bst (bst ((hJ.1.1.1.1.1)) (p := ⟨G 12, 0, none⟩) ((hJ.1.1.2.1.2.2) p12).1 (.int .i64 (Wi.Hq (l)))) (p := ⟨G 12, 1, none⟩) ((hJ.1.1.2.1.2.2) p12).1 (.int .u64 (Wi.Lr (l))), by simpa using (hJ.1.1.1.1.2)⟩, ⟨Blk.far (Blk.far ((hJ.1.1.1.2.1)) (p := ⟨G 12, 0, none⟩) (((hJ.1.1.2.1.2.2) p12).2.2.1) (.int .i64 (Wi.Hq (l)))) (p := ⟨G 12, 1, none⟩) (((hJ.1.1.2.1.2.2) p12).2.2.1) (.int .u64 (Wi.Lr (l))), ⟨by simpa using (hJ.1.1.1.2.2.1), Blk.far (Blk.far ((hJ.1.1.1.2.2.2)) (p := ⟨G 12, 0, none⟩) (((hJ.1.1.2.1.2.2) p12).2.2.2.1) (.int .i64 (Wi.Hq (l)))) (p := ⟨G 12, 1, none⟩) (((hJ.1.1.2.1.2.2) p12).2.2.2.1) (.int .u64 (Wi.Lr (l)))⟩⟩⟩, ⟨⟨by simpa using (hJ.1.1.2.1.1), ⟨Blk.far (Blk.far ((hJ.1.1.2.1.2.1)) (p := ⟨G 12, 0, none⟩) (((hJ.1.1.2.1.2.2) p12).2.2.2.2) (.int .i64 (Wi.Hq (l)))) (p := ⟨G 12, 1, none⟩) (((hJ.1.1.2.1.2.2) p12).2.2.2.2) (.int .u64 (Wi.Lr (l))), fun q => ⟨((hJ.1.1.2.1.2.2) (rl q)).1, by have := ((hJ.1.1.2.1.2.2) (rl q)).2.1; simpa using this, ((hJ.1.1.2.1.2.2) (rl q)).2.2⟩⟩⟩, ⟨fun _ n => absurd (.inl rfl) n, ⟨fun _ => by simpa using Blk.set_ (Blk.set_ (((hJ.1.1.2.2.1) p12 hn)) 0 (.int .i64 (Wi.Hq (l)))) 1 (.int .u64 (Wi.Lr (l))), fun _ => .inr p12⟩⟩⟩⟩, ⟨⟨⟨fun q => ⟨((hJ.1.2.1.1.1) (rl q)).1, by have := ((hJ.1.2.1.1.1) (rl q)).2.1; simpa using this, ((hJ.1.2.1.1.1) (rl q)).2.2⟩, fun q n => Blk.far (Blk.far ((hJ.1.2.1.1.2) (rl q) (fun m => n (.inr m))) (p := ⟨G 12, 0, none⟩) ((hJ.2.1.1.1.2) (rl q) p12) (.int .i64 (Wi.Hq (l)))) (p := ⟨G 12, 1, none⟩) ((hJ.2.1.1.1.2) (rl q) p12) (.int .u64 (Wi.Lr (l)))⟩, ⟨fun q => Blk.far (Blk.far ((hJ.1.2.1.2.1) (rl q)) (p := ⟨G 12, 0, none⟩) ((hJ.2.1.1.1.2) ((hJ.1.2.1.2.2.1) (rl q)) p12) (.int .i64 (Wi.Hq (l)))) (p := ⟨G 12, 1, none⟩) ((hJ.2.1.1.1.2) ((hJ.1.2.1.2.2.1) (rl q)) p12) (.int .u64 (Wi.Lr (l))), ⟨fun q => .inr ((hJ.1.2.1.2.2.1) (rl q)), fun q => ⟨((hJ.1.2.1.2.2.2) (rl q)).1, by have := ((hJ.1.2.1.2.2.2) (rl q)).2.1; simpa using this, ((hJ.1.2.1.2.2.2) (rl q)).2.2⟩⟩⟩⟩, ⟨⟨fun q n => Blk.far (Blk.far ((hJ.1.2.2.1.1) (rl q) (fun m => n (.inr m))) (p := ⟨G 12, 0, none⟩) ((hJ.2.1.1.2.1) (rl q) p12) (.int .i64 (Wi.Hq (l)))) (p := ⟨G 12, 1, none⟩) ((hJ.2.1.1.2.1) (rl q) p12) (.int .u64 (Wi.Lr (l))), ⟨fun q => Blk.far (Blk.far ((hJ.1.2.2.1.2.1) (rl q)) (p := ⟨G 12, 0, none⟩) ((hJ.2.1.1.2.1) ((hJ.1.2.2.1.2.2) (rl q)) p12) (.int .i64 (Wi.Hq (l)))) (p := ⟨G 12, 1, none⟩) ((hJ.2.1.1.2.1) ((hJ.1.2.2.1.2.2) (rl q)) p12) (.int .u64 (Wi.Lr (l))), fun q => .inr ((hJ.1.2.2.1.2.2) (rl q))⟩⟩, ⟨fun q => ⟨((hJ.1.2.2.2.1) (rl q)).1, by have := ((hJ.1.2.2.2.1) (rl q)).2.1; simpa using this, ((hJ.1.2.2.2.1) (rl q)).2.2⟩, ⟨fun q n => Blk.far (Blk.far ((hJ.1.2.2.2.2.1) (rl q) (fun m => n (.inr m))) (p := ⟨G 12, 0, none⟩) ((hJ.2.1.1.2.2.2) (rl q) p12) (.int .i64 (Wi.Hq (l)))) (p := ⟨G 12, 1, none⟩) ((hJ.2.1.1.2.2.2) (rl q) p12) (.int .u64 (Wi.Lr (l))), fun q => Blk.far (Blk.far ((hJ.1.2.2.2.2.2) (rl q)) (p := ⟨G 12, 0, none⟩) ((hJ.2.1.1.2.2.2) ((hJ.2.1.1.1.1) (rl q)) p12) (.int .i64 (Wi.Hq (l)))) (p := ⟨G 12, 1, none⟩) ((hJ.2.1.1.2.2.2) ((hJ.2.1.1.1.1) (rl q)) p12) (.int .u64 (Wi.Lr (l)))⟩⟩⟩⟩⟩, ⟨⟨⟨⟨fun q => .inr ((hJ.2.1.1.1.1) (rl q)), fun q r => (hJ.2.1.1.1.2) (rl q) (rl r)⟩, ⟨fun q r => (hJ.2.1.1.2.1) (rl q) (rl r), ⟨fun q r => (hJ.2.1.1.2.2.1) (rl q) (rl r), fun q r => (hJ.2.1.1.2.2.2) (rl q) (rl r)⟩⟩⟩, ⟨⟨fun q r => (hJ.2.1.2.1.1) (rl q) (rl r), ⟨fun q r => (hJ.2.1.2.1.2.1) (rl q) (rl r), fun q => (hJ.2.1.2.1.2.2) (rl q)⟩⟩, ⟨fun q => (hJ.2.1.2.2.1) (rl q), ⟨fun _ => by first | exact rfl | exact e2, fun q => (hJ.2.1.2.2.2.2) (rl q)⟩⟩⟩⟩, ⟨⟨⟨fun q => (hJ.2.2.1.1.1) (rl q), ⟨fun q => (hJ.2.2.1.1.2.1) (rl q), fun q => (hJ.2.2.1.1.2.2) (rl q)⟩⟩, ⟨fun q => (hJ.2.2.1.2.1) (rl q), ⟨fun q => (hJ.2.2.1.2.2.1) (rl q), fun q => (hJ.2.2.1.2.2.2) (rl q)⟩⟩⟩, ⟨⟨fun q => (hJ.2.2.2.1.1) (rl q), ⟨fun q => (hJ.2.2.2.1.2.1) (rl q), fun _ => by first | exact rfl | exact e12⟩⟩, ⟨fun q => (hJ.2.2.2.2.1) (rl q), ⟨fun q => (hJ.2.2.2.2.2.1) (rl q), fun q => (hJ.2.2.2.2.2.2) (rl q)⟩⟩⟩⟩⟩⟩
    refine StepsOk.cons (i := 17) rfl (fun L x G w1 K Q hn hp hJ hK => ?_) ?_
    · skip
      have p5 : L 5 := hp ⟨5, .data⟩ (by simp) rfl
      have e5 := (hJ.2.2.1.1.2.1) p5
      have p13 : L 13 := hp ⟨13, .data⟩ (by simp) rfl
      have e13 := (hJ.2.2.2.2.1) p13
      have hc := Blk.open2 (((hJ.1.2.1.1.2) p13 hn))
      have c0 := hc.1
      have c1 := hc.2.1
      have c2 := hc.2.2.1
      have c3 := hc.2.2.2
      clear hc
      simp only [putAll, Act.put, List.setIfInBounds_toArray, List.set_cons_zero, List.set_cons_succ]
      go_simp
      refine hK _ G _ (by kernel_rfl) ?_
      exact ⟨⟨⟨⟨⟨bst (bst ((hJ.1.1.1.1.1)) (p := ⟨G 13, 0, none⟩) ((hJ.1.2.1.1.1) p13).1 (.int .i64 (Wi.Hq (h)))) (p := ⟨G 13, 1, none⟩) ((hJ.1.2.1.1.1) p13).1 (.int .u64 (Wi.Lr (h))), by simpa using (hJ.1.1.1.1.2)⟩, ⟨Blk.far (Blk.far ((hJ.1.1.1.2.1)) (p := ⟨G 13, 0, none⟩) (((hJ.1.2.1.1.1) p13).2.2.1) (.int .i64 (Wi.Hq (h)))) (p := ⟨G 13, 1, none⟩) (((hJ.1.2.1.1.1) p13).2.2.1) (.int .u64 (Wi.Lr (h))), ⟨by simpa using (hJ.1.1.1.2.2.1), Blk.far (Blk.far ((hJ.1.1.1.2.2.2)) (p := ⟨G 13, 0, none⟩) (((hJ.1.2.1.1.1) p13).2.2.2.1) (.int .i64 (Wi.Hq (h)))) (p := ⟨G 13, 1, none⟩) (((hJ.1.2.1.1.1) p13).2.2.2.1) (.int .u64 (Wi.Lr (h)))⟩⟩⟩, ⟨⟨by simpa using (hJ.1.1.2.1.1), ⟨Blk.far (Blk.far ((hJ.1.1.2.1.2.1)) (p := ⟨G 13, 0, none⟩) (((hJ.1.2.1.1.1) p13).2.2.2.2) (.int .i64 (Wi.Hq (h)))) (p := ⟨G 13, 1, none⟩) (((hJ.1.2.1.1.1) p13).2.2.2.2) (.int .u64 (Wi.Lr (h))), fun q => ⟨((hJ.1.1.2.1.2.2) (rl q)).1, by have := ((hJ.1.1.2.1.2.2) (rl q)).2.1; simpa using this, ((hJ.1.1.2.1.2.2) (rl q)).2.2⟩⟩⟩, ⟨fun q n => Blk.far (Blk.far ((hJ.1.1.2.2.1) (rl q) (fun m => n (.inr m))) (p := ⟨G 13, 0, none⟩) (Ne.symm ((hJ.2.1.1.1.2) p13 (rl q))) (.int .i64 (Wi.Hq (h)))) (p := ⟨G 13, 1, none⟩) (Ne.symm ((hJ.2.1.1.1.2) p13 (rl q))) (.int .u64 (Wi.Lr (h))), ⟨fun q => Blk.far (Blk.far ((hJ.1.1.2.2.2.1) (rl q)) (p := ⟨G 13, 0, none⟩) (Ne.symm ((hJ.2.1.1.1.2) p13 ((hJ.1.1.2.2.2.2) (rl q)))) (.int .i64 (Wi.Hq (h)))) (p := ⟨G 13, 1, none⟩) (Ne.symm ((hJ.2.1.1.1.2) p13 ((hJ.1.1.2.2.2.2) (rl q)))) (.int .u64 (Wi.Lr (h))), fun q => .inr ((hJ.1.1.2.2.2.2) (rl q))⟩⟩⟩⟩, ⟨⟨⟨fun q => ⟨((hJ.1.2.1.1.1) (rl q)).1, by have := ((hJ.1.2.1.1.1) (rl q)).2.1; simpa using this, ((hJ.1.2.1.1.1) (rl q)).2.2⟩, fun _ n => absurd (.inl rfl) n⟩, ⟨fun _ => by simpa using Blk.set_ (Blk.set_ (((hJ.1.2.1.1.2) p13 hn)) 0 (.int .i64 (Wi.Hq (h)))) 1 (.int .u64 (Wi.Lr (h))), ⟨fun _ => .inr p13, fun q => ⟨((hJ.1.2.1.2.2.2) (rl q)).1, by have := ((hJ.1.2.1.2.2.2) (rl q)).2.1; simpa using this, ((hJ.1.2.1.2.2.2) (rl q)).2.2⟩⟩⟩⟩, ⟨⟨fun q n => Blk.far (Blk.far ((hJ.1.2.2.1.1) (rl q) (fun m => n (.inr m))) (p := ⟨G 13, 0, none⟩) ((hJ.2.1.1.2.2.1) (rl q) p13) (.int .i64 (Wi.Hq (h)))) (p := ⟨G 13, 1, none⟩) ((hJ.2.1.1.2.2.1) (rl q) p13) (.int .u64 (Wi.Lr (h))), ⟨fun q => Blk.far (Blk.far ((hJ.1.2.2.1.2.1) (rl q)) (p := ⟨G 13, 0, none⟩) ((hJ.2.1.1.2.2.1) ((hJ.1.2.2.1.2.2) (rl q)) p13) (.int .i64 (Wi.Hq (h)))) (p := ⟨G 13, 1, none⟩) ((hJ.2.1.1.2.2.1) ((hJ.1.2.2.1.2.2) (rl q)) p13) (.int .u64 (Wi.Lr (h))), fun q => .inr ((hJ.1.2.2.1.2.2) (rl q))⟩⟩, ⟨fun q => ⟨((hJ.1.2.2.2.1) (rl q)).1, by have := ((hJ.1.2.2.2.1) (rl q)).2.1; simpa using this, ((hJ.1.2.2.2.1) (rl q)).2.2⟩, ⟨fun q n => Blk.far (Blk.far ((hJ.1.2.2.2.2.1) (rl q) (fun m => n (.inr m))) (p := ⟨G 13, 0, none⟩) ((hJ.2.1.2.1.1) (rl q) p13) (.int .i64 (Wi.Hq (h)))) (p := ⟨G 13, 1, none⟩) ((hJ.2.1.2.1.1) (rl q) p13) (.int .u64 (Wi.Lr (h))), fun q => Blk.far (Blk.far ((hJ.1.2.2.2.2.2) (rl q)) (p := ⟨G 13, 0, none⟩) ((hJ.2.1.2.1.1) ((hJ.2.1.1.1.1) (rl q)) p13) (.int .i64 (Wi.Hq (h)))) (p := ⟨G 13, 1, none⟩) ((hJ.2.1.2.1.1) ((hJ.2.1.1.1.1) (rl q)) p13) (.int .u64 (Wi.Lr (h)))⟩⟩⟩⟩⟩, ⟨⟨⟨⟨fun q => .inr ((hJ.2.1.1.1.1) (rl q)), fun q r => (hJ.2.1.1.1.2) (rl q) (rl r)⟩, ⟨fun q r => (hJ.2.1.1.2.1) (rl q) (rl r), ⟨fun q r => (hJ.2.1.1.2.2.1) (rl q) (rl r), fun q r => (hJ.2.1.1.2.2.2) (rl q) (rl r)⟩⟩⟩, ⟨⟨fun q r => (hJ.2.1.2.1.1) (rl q) (rl r), ⟨fun q r => (hJ.2.1.2.1.2.1) (rl q) (rl r), fun q => (hJ.2.1.2.1.2.2) (rl q)⟩⟩, ⟨fun q => (hJ.2.1.2.2.1) (rl q), ⟨fun q => (hJ.2.1.2.2.2.1) (rl q), fun q => (hJ.2.1.2.2.2.2) (rl q)⟩⟩⟩⟩, ⟨⟨⟨fun q => (hJ.2.2.1.1.1) (rl q), ⟨fun _ => by first | exact rfl | exact e5, fun q => (hJ.2.2.1.1.2.2) (rl q)⟩⟩, ⟨fun q => (hJ.2.2.1.2.1) (rl q), ⟨fun q => (hJ.2.2.1.2.2.1) (rl q), fun q => (hJ.2.2.1.2.2.2) (rl q)⟩⟩⟩, ⟨⟨fun q => (hJ.2.2.2.1.1) (rl q), ⟨fun q => (hJ.2.2.2.1.2.1) (rl q), fun q => (hJ.2.2.2.1.2.2) (rl q)⟩⟩, ⟨fun _ => by first | exact rfl | exact e13, ⟨fun q => (hJ.2.2.2.2.2.1) (rl q), fun q => (hJ.2.2.2.2.2.2) (rl q)⟩⟩⟩⟩⟩⟩
    refine StepsOk.cons (i := 18) rfl (fun L x G w1 K Q hn hp hJ hK => ?_) ?_
    · skip
      have p8 : L 8 := hp ⟨8, .data⟩ (by simp) rfl
      have e8 := (hJ.2.2.1.2.2.1) p8
      have p14 : L 14 := hp ⟨14, .data⟩ (by simp) rfl
      have e14 := (hJ.2.2.2.2.2.1) p14
      have hc := Blk.open2 (((hJ.1.2.2.1.1) p14 hn))
      have c0 := hc.1
      have c1 := hc.2.1
      have c2 := hc.2.2.1
      have c3 := hc.2.2.2
      clear hc
      simp only [putAll, Act.put, List.setIfInBounds_toArray, List.set_cons_zero, List.set_cons_succ]
      go_simp
      refine hK _ G _ (by kernel_rfl) ?_
      exact ⟨⟨⟨⟨⟨bst (bst ((hJ.1.1.1.1.1)) (p := ⟨G 14, 0, none⟩) ((hJ.1.2.1.2.2.2) p14).1 (.int .i64 (Wi.Hq (l')))) (p := ⟨G 14, 1, none⟩) ((hJ.1.2.1.2.2.2) p14).1 (.int .u64 (Wi.Lr (l'))), by simpa using (hJ.1.1.1.1.2)⟩, ⟨Blk.far (Blk.far ((hJ.1.1.1.2.1)) (p := ⟨G 14, 0, none⟩) (((hJ.1.2.1.2.2.2) p14).2.2.1) (.int .i64 (Wi.Hq (l')))) (p := ⟨G 14, 1, none⟩) (((hJ.1.2.1.2.2.2) p14).2.2.1) (.int .u64 (Wi.Lr (l'))), ⟨by simpa using (hJ.1.1.1.2.2.1), Blk.far (Blk.far ((hJ.1.1.1.2.2.2)) (p := ⟨G 14, 0, none⟩) (((hJ.1.2.1.2.2.2) p14).2.2.2.1) (.int .i64 (Wi.Hq (l')))) (p := ⟨G 14, 1, none⟩) (((hJ.1.2.1.2.2.2) p14).2.2.2.1) (.int .u64 (Wi.Lr (l')))⟩⟩⟩, ⟨⟨by simpa using (hJ.1.1.2.1.1), ⟨Blk.far (Blk.far ((hJ.1.1.2.1.2.1)) (p := ⟨G 14, 0, none⟩) (((hJ.1.2.1.2.2.2) p14).2.2.2.2) (.int .i64 (Wi.Hq (l')))) (p := ⟨G 14, 1, none⟩) (((hJ.1.2.1.2.2.2) p14).2.2.2.2) (.int .u64 (Wi.Lr (l'))), fun q => ⟨((hJ.1.1.2.1.2.2) (rl q)).1, by have := ((hJ.1.1.2.1.2.2) (rl q)).2.1; simpa using this, ((hJ.1.1.2.1.2.2) (rl q)).2.2⟩⟩⟩, ⟨fun q n => Blk.far (Blk.far ((hJ.1.1.2.2.1) (rl q) (fun m => n (.inr m))) (p := ⟨G 14, 0, none⟩) (Ne.symm ((hJ.2.1.1.2.1) p14 (rl q))) (.int .i64 (Wi.Hq (l')))) (p := ⟨G 14, 1, none⟩) (Ne.symm ((hJ.2.1.1.2.1) p14 (rl q))) (.int .u64 (Wi.Lr (l'))), ⟨fun q => Blk.far (Blk.far ((hJ.1.1.2.2.2.1) (rl q)) (p := ⟨G 14, 0, none⟩) (Ne.symm ((hJ.2.1.1.2.1) p14 ((hJ.1.1.2.2.2.2) (rl q)))) (.int .i64 (Wi.Hq (l')))) (p := ⟨G 14, 1, none⟩) (Ne.symm ((hJ.2.1.1.2.1) p14 ((hJ.1.1.2.2.2.2) (rl q)))) (.int .u64 (Wi.Lr (l'))), fun q => .inr ((hJ.1.1.2.2.2.2) (rl q))⟩⟩⟩⟩, ⟨⟨⟨fun q => ⟨((hJ.1.2.1.1.1) (rl q)).1, by have := ((hJ.1.2.1.1.1) (rl q)).2.1; simpa using this, ((hJ.1.2.1.1.1) (rl q)).2.2⟩, fun q n => Blk.far (Blk.far ((hJ.1.2.1.1.2) (rl q) (fun m => n (.inr m))) (p := ⟨G 14, 0, none⟩) (Ne.symm ((hJ.2.1.1.2.2.1) p14 (rl q))) (.int .i64 (Wi.Hq (l')))) (p := ⟨G 14, 1, none⟩) (Ne.symm ((hJ.2.1.1.2.2.1) p14 (rl q))) (.int .u64 (Wi.Lr (l')))⟩, ⟨fun q => Blk.far (Blk.far ((hJ.1.2.1.2.1) (rl q)) (p := ⟨G 14, 0, none⟩) (Ne.symm ((hJ.2.1.1.2.2.1) p14 ((hJ.1.2.1.2.2.1) (rl q)))) (.int .i64 (Wi.Hq (l')))) (p := ⟨G 14, 1, none⟩) (Ne.symm ((hJ.2.1.1.2.2.1) p14 ((hJ.1.2.1.2.2.1) (rl q)))) (.int .u64 (Wi.Lr (l'))), ⟨fun q => .inr ((hJ.1.2.1.2.2.1) (rl q)), fun q => ⟨((hJ.1.2.1.2.2.2) (rl q)).1, by have := ((hJ.1.2.1.2.2.2) (rl q)).2.1; simpa using this, ((hJ.1.2.1.2.2.2) (rl q)).2.2⟩⟩⟩⟩, ⟨⟨fun _ n => absurd (.inl rfl) n, ⟨fun _ => by simpa using Blk.set_ (Blk.set_ (((hJ.1.2.2.1.1) p14 hn)) 0 (.int .i64 (Wi.Hq (l')))) 1 (.int .u64 (Wi.Lr (l'))), fun _ => .inr p14⟩⟩, ⟨fun q => ⟨((hJ.1.2.2.2.1) (rl q)).1, by have := ((hJ.1.2.2.2.1) (rl q)).2.1; simpa using this, ((hJ.1.2.2.2.1) (rl q)).2.2⟩, ⟨fun q n => Blk.far (Blk.far ((hJ.1.2.2.2.2.1) (rl q) (fun m => n (.inr m))) (p := ⟨G 14, 0, none⟩) ((hJ.2.1.2.1.2.1) (rl q) p14) (.int .i64 (Wi.Hq (l')))) (p := ⟨G 14, 1, none⟩) ((hJ.2.1.2.1.2.1) (rl q) p14) (.int .u64 (Wi.Lr (l'))), fun q => Blk.far (Blk.far ((hJ.1.2.2.2.2.2) (rl q)) (p := ⟨G 14, 0, none⟩) ((hJ.2.1.2.1.2.1) ((hJ.2.1.1.1.1) (rl q)) p14) (.int .i64 (Wi.Hq (l')))) (p := ⟨G 14, 1, none⟩) ((hJ.2.1.2.1.2.1) ((hJ.2.1.1.1.1) (rl q)) p14) (.int .u64 (Wi.Lr (l')))⟩⟩⟩⟩⟩, ⟨⟨⟨⟨fun q => .inr ((hJ.2.1.1.1.1) (rl q)), fun q r => (hJ.2.1.1.1.2) (rl q) (rl r)⟩, ⟨fun q r => (hJ.2.1.1.2.1) (rl q) (rl r), ⟨fun q r => (hJ.2.1.1.2.2.1) (rl q) (rl r), fun q r => (hJ.2.1.1.2.2.2) (rl q) (rl r)⟩⟩⟩, ⟨⟨fun q r => (hJ.2.1.2.1.1) (rl q) (rl r), ⟨fun q r => (hJ.2.1.2.1.2.1) (rl q) (rl r), fun q => (hJ.2.1.2.1.2.2) (rl q)⟩⟩, ⟨fun q => (hJ.2.1.2.2.1) (rl q), ⟨fun q => (hJ.2.1.2.2.2.1) (rl q), fun q => (hJ.2.1.2.2.2.2) (rl q)⟩⟩⟩⟩, ⟨⟨⟨fun q => (hJ.2.2.1.1.1) (rl q), ⟨fun q => (hJ.2.2.1.1.2.1) (rl q), fun q => (hJ.2.2.1.1.2.2) (rl q)⟩⟩, ⟨fun q => (hJ.2.2.1.2.1) (rl q), ⟨fun _ => by first | exact rfl | exact e8, fun q => (hJ.2.2.1.2.2.2) (rl q)⟩⟩⟩, ⟨⟨fun q => (hJ.2.2.2.1.1) (rl q), ⟨fun q => (hJ.2.2.2.1.2.1) (rl q), fun q => (hJ.2.2.2.1.2.2) (rl q)⟩⟩, ⟨fun q => (hJ.2.2.2.2.1) (rl q), ⟨fun _ => by first | exact rfl | exact e14, fun q => (hJ.2.2.2.2.2.2) (rl q)⟩⟩⟩⟩⟩⟩
    refine StepsOk.cons (i := 19) rfl (fun L x G w1 K Q hn hp hJ hK => ?_) ?_
    · skip
      have p11 : L 11 := hp ⟨11, .data⟩ (by simp) rfl
      have e11 := (hJ.2.2.2.1.2.1) p11
      have p15 : L 15 := hp ⟨15, .data⟩ (by simp) rfl
      have e15 := (hJ.2.2.2.2.2.2) p15
      have hc := Blk.open2 (((hJ.1.2.2.2.2.1) p15 hn))
      have c0 := hc.1
      have c1 := hc.2.1
      have c2 := hc.2.2.1
      have c3 := hc.2.2.2
      clear hc
      simp only [putAll, Act.put, List.setIfInBounds_toArray, List.set_cons_zero, List.set_cons_succ]
      go_simp
      refine hK _ G _ (by kernel_rfl) ?_
      exact ⟨⟨⟨⟨⟨bst (bst ((hJ.1.1.1.1.1)) (p := ⟨G 15, 0, none⟩) ((hJ.1.2.2.2.1) p15).1 (.int .i64 (Wi.Hq (h')))) (p := ⟨G 15, 1, none⟩) ((hJ.1.2.2.2.1) p15).1 (.int .u64 (Wi.Lr (h'))), by simpa using (hJ.1.1.1.1.2)⟩, ⟨Blk.far (Blk.far ((hJ.1.1.1.2.1)) (p := ⟨G 15, 0, none⟩) (((hJ.1.2.2.2.1) p15).2.2.1) (.int .i64 (Wi.Hq (h')))) (p := ⟨G 15, 1, none⟩) (((hJ.1.2.2.2.1) p15).2.2.1) (.int .u64 (Wi.Lr (h'))), ⟨by simpa using (hJ.1.1.1.2.2.1), Blk.far (Blk.far ((hJ.1.1.1.2.2.2)) (p := ⟨G 15, 0, none⟩) (((hJ.1.2.2.2.1) p15).2.2.2.1) (.int .i64 (Wi.Hq (h')))) (p := ⟨G 15, 1, none⟩) (((hJ.1.2.2.2.1) p15).2.2.2.1) (.int .u64 (Wi.Lr (h')))⟩⟩⟩, ⟨⟨by simpa using (hJ.1.1.2.1.1), ⟨Blk.far (Blk.far ((hJ.1.1.2.1.2.1)) (p := ⟨G 15, 0, none⟩) (((hJ.1.2.2.2.1) p15).2.2.2.2) (.int .i64 (Wi.Hq (h')))) (p := ⟨G 15, 1, none⟩) (((hJ.1.2.2.2.1) p15).2.2.2.2) (.int .u64 (Wi.Lr (h'))), fun q => ⟨((hJ.1.1.2.1.2.2) (rl q)).1, by have := ((hJ.1.1.2.1.2.2) (rl q)).2.1; simpa using this, ((hJ.1.1.2.1.2.2) (rl q)).2.2⟩⟩⟩, ⟨fun q n => Blk.far (Blk.far ((hJ.1.1.2.2.1) (rl q) (fun m => n (.inr m))) (p := ⟨G 15, 0, none⟩) (Ne.symm ((hJ.2.1.1.2.2.2) p15 (rl q))) (.int .i64 (Wi.Hq (h')))) (p := ⟨G 15, 1, none⟩) (Ne.symm ((hJ.2.1.1.2.2.2) p15 (rl q))) (.int .u64 (Wi.Lr (h'))), ⟨fun q => Blk.far (Blk.far ((hJ.1.1.2.2.2.1) (rl q)) (p := ⟨G 15, 0, none⟩) (Ne.symm ((hJ.2.1.1.2.2.2) p15 ((hJ.1.1.2.2.2.2) (rl q)))) (.int .i64 (Wi.Hq (h')))) (p := ⟨G 15, 1, none⟩) (Ne.symm ((hJ.2.1.1.2.2.2) p15 ((hJ.1.1.2.2.2.2) (rl q)))) (.int .u64 (Wi.Lr (h'))), fun q => .inr ((hJ.1.1.2.2.2.2) (rl q))⟩⟩⟩⟩, ⟨⟨⟨fun q => ⟨((hJ.1.2.1.1.1) (rl q)).1, by have := ((hJ.1.2.1.1.1) (rl q)).2.1; simpa using this, ((hJ.1.2.1.1.1) (rl q)).2.2⟩, fun q n => Blk.far (Blk.far ((hJ.1.2.1.1.2) (rl q) (fun m => n (.inr m))) (p := ⟨G 15, 0, none⟩) (Ne.symm ((hJ.2.1.2.1.1) p15 (rl q))) (.int .i64 (Wi.Hq (h')))) (p := ⟨G 15, 1, none⟩) (Ne.symm ((hJ.2.1.2.1.1) p15 (rl q))) (.int .u64 (Wi.Lr (h')))⟩, ⟨fun q => Blk.far (Blk.far ((hJ.1.2.1.2.1) (rl q)) (p := ⟨G 15, 0, none⟩) (Ne.symm ((hJ.2.1.2.1.1) p15 ((hJ.1.2.1.2.2.1) (rl q)))) (.int .i64 (Wi.Hq (h')))) (p := ⟨G 15, 1, none⟩) (Ne.symm ((hJ.2.1.2.1.1) p15 ((hJ.1.2.1.2.2.1) (rl q)))) (.int .u64 (Wi.Lr (h'))), ⟨fun q => .inr ((hJ.1.2.1.2.2.1) (rl q)), fun q => ⟨((hJ.1.2.1.2.2.2) (rl q)).1, by have := ((hJ.1.2.1.2.2.2) (rl q)).2.1; simpa using this, ((hJ.1.2.1.2.2.2) (rl q)).2.2⟩⟩⟩⟩, ⟨⟨fun q n => Blk.far (Blk.far ((hJ.1.2.2.1.1) (rl q) (fun m => n (.inr m))) (p := ⟨G 15, 0, none⟩) (Ne.symm ((hJ.2.1.2.1.2.1) p15 (rl q))) (.int .i64 (Wi.Hq (h')))) (p := ⟨G 15, 1, none⟩) (Ne.symm ((hJ.2.1.2.1.2.1) p15 (rl q))) (.int .u64 (Wi.Lr (h'))), ⟨fun q => Blk.far (Blk.far ((hJ.1.2.2.1.2.1) (rl q)) (p := ⟨G 15, 0, none⟩) (Ne.symm ((hJ.2.1.2.1.2.1) p15 ((hJ.1.2.2.1.2.2) (rl q)))) (.int .i64 (Wi.Hq (h')))) (p := ⟨G 15, 1, none⟩) (Ne.symm ((hJ.2.1.2.1.2.1) p15 ((hJ.1.2.2.1.2.2) (rl q)))) (.int .u64 (Wi.Lr (h'))), fun q => .inr ((hJ.1.2.2.1.2.2) (rl q))⟩⟩, ⟨fun q => ⟨((hJ.1.2.2.2.1) (rl q)).1, by have := ((hJ.1.2.2.2.1) (rl q)).2.1; simpa using this, ((hJ.1.2.2.2.1) (rl q)).2.2⟩, ⟨fun _ n => absurd (.inl rfl) n, fun _ => by simpa using Blk.set_ (Blk.set_ (((hJ.1.2.2.2.2.1) p15 hn)) 0 (.int .i64 (Wi.Hq (h')))) 1 (.int .u64 (Wi.Lr (h')))⟩⟩⟩⟩⟩, ⟨⟨⟨⟨fun _ => .inr p15, fun q r => (hJ.2.1.1.1.2) (rl q) (rl r)⟩, ⟨fun q r => (hJ.2.1.1.2.1) (rl q) (rl r), ⟨fun q r => (hJ.2.1.1.2.2.1) (rl q) (rl r), fun q r => (hJ.2.1.1.2.2.2) (rl q) (rl r)⟩⟩⟩, ⟨⟨fun q r => (hJ.2.1.2.1.1) (rl q) (rl r), ⟨fun q r => (hJ.2.1.2.1.2.1) (rl q) (rl r), fun q => (hJ.2.1.2.1.2.2) (rl q)⟩⟩, ⟨fun q => (hJ.2.1.2.2.1) (rl q), ⟨fun q => (hJ.2.1.2.2.2.1) (rl q), fun q => (hJ.2.1.2.2.2.2) (rl q)⟩⟩⟩⟩, ⟨⟨⟨fun q => (hJ.2.2.1.1.1) (rl q), ⟨fun q => (hJ.2.2.1.1.2.1) (rl q), fun q => (hJ.2.2.1.1.2.2) (rl q)⟩⟩, ⟨fun q => (hJ.2.2.1.2.1) (rl q), ⟨fun q => (hJ.2.2.1.2.2.1) (rl q), fun q => (hJ.2.2.1.2.2.2) (rl q)⟩⟩⟩, ⟨⟨fun q => (hJ.2.2.2.1.1) (rl q), ⟨fun _ => by first | exact rfl | exact e11, fun q => (hJ.2.2.2.1.2.2) (rl q)⟩⟩, ⟨fun q => (hJ.2.2.2.2.1) (rl q), ⟨fun q => (hJ.2.2.2.2.2.1) (rl q), fun _ => by first | exact rfl | exact e15⟩⟩⟩⟩⟩⟩
    exact StepsOk.nil
  case fin =>
    intro L x G w4 hall hJ
    replace X := (hJ.1.1.1.2.1)
    replace Y := (hJ.1.1.1.2.2.2)
    replace R := (hJ.1.1.2.1.2.1)
    obtain ⟨haMA, hlMA, hnMAX, hnMAY, hnMAR⟩ := (hJ.1.1.2.1.2.2) (hall 12 (by decide))
    have MA := (hJ.1.1.2.2.2.1) (hall 16 (by decide))
    obtain ⟨haMB, hlMB, hnMBX, hnMBY, hnMBR⟩ := (hJ.1.2.1.1.1) (hall 13 (by decide))
    have MB := (hJ.1.2.1.2.1) (hall 17 (by decide))
    obtain ⟨haMC, hlMC, hnMCX, hnMCY, hnMCR⟩ := (hJ.1.2.1.2.2.2) (hall 14 (by decide))
    have MC := (hJ.1.2.2.1.2.1) (hall 18 (by decide))
    obtain ⟨haMD, hlMD, hnMDX, hnMDY, hnMDR⟩ := (hJ.1.2.2.2.1) (hall 15 (by decide))
    have MD := (hJ.1.2.2.2.2.2) (hall 19 (by decide))
    have n_dMBMA := (hJ.2.1.1.1.2) (hall 13 (by decide)) (hall 12 (by decide))
    have n_dMCMA := (hJ.2.1.1.2.1) (hall 14 (by decide)) (hall 12 (by decide))
    have n_dMCMB := (hJ.2.1.1.2.2.1) (hall 14 (by decide)) (hall 13 (by decide))
    have n_dMDMA := (hJ.2.1.1.2.2.2) (hall 15 (by decide)) (hall 12 (by decide))
    have n_dMDMB := (hJ.2.1.2.1.1) (hall 15 (by decide)) (hall 13 (by decide))
    have n_dMDMC := (hJ.2.1.2.1.2.1) (hall 15 (by decide)) (hall 14 (by decide))
    have u0 := hJ.2.1.2.1.2.2 (hall 0 (by decide))
    have u1 := hJ.2.1.2.2.1 (hall 1 (by decide))
    have u2 := hJ.2.1.2.2.2.1 (hall 2 (by decide))
    have u3 := hJ.2.1.2.2.2.2 (hall 3 (by decide))
    have u4 := hJ.2.2.1.1.1 (hall 4 (by decide))
    have u5 := hJ.2.2.1.1.2.1 (hall 5 (by decide))
    have u6 := hJ.2.2.1.1.2.2 (hall 6 (by decide))
    have u7 := hJ.2.2.1.2.1 (hall 7 (by decide))
    have u8 := hJ.2.2.1.2.2.1 (hall 8 (by decide))
    have u9 := hJ.2.2.1.2.2.2 (hall 9 (by decide))
    have u10 := hJ.2.2.2.1.1 (hall 10 (by decide))
    have u11 := hJ.2.2.2.1.2.1 (hall 11 (by decide))
    have u12 := hJ.2.2.2.1.2.2 (hall 12 (by decide))
    have u13 := hJ.2.2.2.2.1 (hall 13 (by decide))
    have u14 := hJ.2.2.2.2.2.1 (hall 14 (by decide))
    have u15 := hJ.2.2.2.2.2.2 (hall 15 (by decide))
    replace hB := hJ.1.1.1.1.1
    simp only [putAll, Act.put, List.setIfInBounds_toArray, List.set_cons_zero, List.set_cons_succ]
    simp only [u0, u1, u2, u3, u4, u5, u6, u7, u8, u9, u10, u11, u12, u13, u14, u15]
    clear hall hJ u0 u1 u2 u3 u4 u5 u6 u7 u8 u9 u10 u11 u12 u13 u14 u15
    generalize G 12 = gMA at *
    generalize G 13 = gMB at *
    generalize G 14 = gMC at *
    generalize G 15 = gMD at *
    obtain ⟨c00, c01, c02, c03⟩ := MA.open2
    obtain ⟨c10, c11, c12, c13⟩ := MB.open2
    obtain ⟨c20, c21, c22, c23⟩ := MC.open2
    obtain ⟨c30, c31, c32, c33⟩ := MD.open2
    obtain ⟨c40, c41, c42, c43⟩ := R.open2
    go_wp2_with fail
    have hz4 := hB.size
    have l4X := X.lt
    have l4Y := Y.lt
    have l4R := R.lt
    have l4MA := MA.lt
    have l4MB := MB.lt
    have l4MC := MC.lt
    have l4MD := MD.lt
    replace X := X.alloc (.cells #[.int .i64 (Wi.Hq (l)), .int .u64 (Wi.Lr (l)), .int .i64 (Wi.Hq (l)), .int .u64 (Wi.Lr (l)), .int .i64 (Wi.Hq (h)), .int .u64 (Wi.Lr (h)), .int .i64 (Wi.Hq (h)), .int .u64 (Wi.Lr (h))] 40)
    replace Y := Y.alloc (.cells #[.int .i64 (Wi.Hq (l)), .int .u64 (Wi.Lr (l)), .int .i64 (Wi.Hq (l)), .int .u64 (Wi.Lr (l)), .int .i64 (Wi.Hq (h)), .int .u64 (Wi.Lr (h)), .int .i64 (Wi.Hq (h)), .int .u64 (Wi.Lr (h))] 40)
    replace R := R.alloc (.cells #[.int .i64 (Wi.Hq (l)), .int .u64 (Wi.Lr (l)), .int .i64 (Wi.Hq (l)), .int .u64 (Wi.Lr (l)), .int .i64 (Wi.Hq (h)), .int .u64 (Wi.Lr (h)), .int .i64 (Wi.Hq (h)), .int .u64 (Wi.Lr (h))] 40)
    replace MA := MA.alloc (.cells #[.int .i64 (Wi.Hq (l)), .int .u64 (Wi.Lr (l)), .int .i64 (Wi.Hq (l)), .int .u64 (Wi.Lr (l)), .int .i64 (Wi.Hq (h)), .int .u64 (Wi.Lr (h)), .int .i64 (Wi.Hq (h)), .int .u64 (Wi.Lr (h))] 40)
    replace MB := MB.alloc (.cells #[.int .i64 (Wi.Hq (l)), .int .u64 (Wi.Lr (l)), .int .i64 (Wi.Hq (l)), .int .u64 (Wi.Lr (l)), .int .i64 (Wi.Hq (h)), .int .u64 (Wi.Lr (h)), .int .i64 (Wi.Hq (h)), .int .u64 (Wi.Lr (h))] 40)
    replace MC := MC.alloc (.cells #[.int .i64 (Wi.Hq (l)), .int .u64 (Wi.Lr (l)), .int .i64 (Wi.Hq (l)), .int .u64 (Wi.Lr (l)), .int .i64 (Wi.Hq (h)), .int .u64 (Wi.Lr (h)), .int .i64 (Wi.Hq (h)), .int .u64 (Wi.Lr (h))] 40)
    replace MD := MD.alloc (.cells #[.int .i64 (Wi.Hq (l)), .int .u64 (Wi.Lr (l)), .int .i64 (Wi.Hq (l)), .int .u64 (Wi.Lr (l)), .int .i64 (Wi.Hq (h)), .int .u64 (Wi.Lr (h)), .int .i64 (Wi.Hq (h)), .int .u64 (Wi.Lr (h))] 40)
    replace hB := bal hB (.cells #[.int .i64 (Wi.Hq (l)), .int .u64 (Wi.Lr (l)), .int .i64 (Wi.Hq (l)), .int .u64 (Wi.Lr (l)), .int .i64 (Wi.Hq (h)), .int .u64 (Wi.Lr (h)), .int .i64 (Wi.Hq (h)), .int .u64 (Wi.Lr (h))] 40)
    have SL1 := Blk.new w4 40 #[.int .i64 (Wi.Hq (l)), .int .u64 (Wi.Lr (l)), .int .i64 (Wi.Hq (l)), .int .u64 (Wi.Lr (l)), .int .i64 (Wi.Hq (h)), .int .u64 (Wi.Lr (h)), .int .i64 (Wi.Hq (h)), .int .u64 (Wi.Lr (h))]
    replace X := X.alloc (.cells #[.int .i64 (Wi.Hq (l')), .int .u64 (Wi.Lr (l')), .int .i64 (Wi.Hq (h')), .int .u64 (Wi.Lr (h')), .int .i64 (Wi.Hq (l')), .int .u64 (Wi.Lr (l')), .int .i64 (Wi.Hq (h')), .int .u64 (Wi.Lr (h'))] 40)
    replace Y := Y.alloc (.cells #[.int .i64 (Wi.Hq (l')), .int .u64 (Wi.Lr (l')), .int .i64 (Wi.Hq (h')), .int .u64 (Wi.Lr (h')), .int .i64 (Wi.Hq (l')), .int .u64 (Wi.Lr (l')), .int .i64 (Wi.Hq (h')), .int .u64 (Wi.Lr (h'))] 40)
    replace R := R.alloc (.cells #[.int .i64 (Wi.Hq (l')), .int .u64 (Wi.Lr (l')), .int .i64 (Wi.Hq (h')), .int .u64 (Wi.Lr (h')), .int .i64 (Wi.Hq (l')), .int .u64 (Wi.Lr (l')), .int .i64 (Wi.Hq (h')), .int .u64 (Wi.Lr (h'))] 40)
    replace MA := MA.alloc (.cells #[.int .i64 (Wi.Hq (l')), .int .u64 (Wi.Lr (l')), .int .i64 (Wi.Hq (h')), .int .u64 (Wi.Lr (h')), .int .i64 (Wi.Hq (l')), .int .u64 (Wi.Lr (l')), .int .i64 (Wi.Hq (h')), .int .u64 (Wi.Lr (h'))] 40)
    replace MB := MB.alloc (.cells #[.int .i64 (Wi.Hq (l')), .int .u64 (Wi.Lr (l')), .int .i64 (Wi.Hq (h')), .int .u64 (Wi.Lr (h')), .int .i64 (Wi.Hq (l')), .int .u64 (Wi.Lr (l')), .int .i64 (Wi.Hq (h')), .int .u64 (Wi.Lr (h'))] 40)
    replace MC := MC.alloc (.cells #[.int .i64 (Wi.Hq (l')), .int .u64 (Wi.Lr (l')), .int .i64 (Wi.Hq (h')), .int .u64 (Wi.Lr (h')), .int .i64 (Wi.Hq (l')), .int .u64 (Wi.Lr (l')), .int .i64 (Wi.Hq (h')), .int .u64 (Wi.Lr (h'))] 40)
    replace MD := MD.alloc (.cells #[.int .i64 (Wi.Hq (l')), .int .u64 (Wi.Lr (l')), .int .i64 (Wi.Hq (h')), .int .u64 (Wi.Lr (h')), .int .i64 (Wi.Hq (l')), .int .u64 (Wi.Lr (l')), .int .i64 (Wi.Hq (h')), .int .u64 (Wi.Lr (h'))] 40)
    replace SL1 := SL1.alloc (.cells #[.int .i64 (Wi.Hq (l')), .int .u64 (Wi.Lr (l')), .int .i64 (Wi.Hq (h')), .int .u64 (Wi.Lr (h')), .int .i64 (Wi.Hq (l')), .int .u64 (Wi.Lr (l')), .int .i64 (Wi.Hq (h')), .int .u64 (Wi.Lr (h'))] 40)
    replace hB := bal hB (.cells #[.int .i64 (Wi.Hq (l')), .int .u64 (Wi.Lr (l')), .int .i64 (Wi.Hq (h')), .int .u64 (Wi.Lr (h')), .int .i64 (Wi.Hq (l')), .int .u64 (Wi.Lr (l')), .int .i64 (Wi.Hq (h')), .int .u64 (Wi.Lr (h'))] 40)
    have SL2 := Blk.new1 w4 (.cells #[.int .i64 (Wi.Hq (l)), .int .u64 (Wi.Lr (l)), .int .i64 (Wi.Hq (l)), .int .u64 (Wi.Lr (l)), .int .i64 (Wi.Hq (h)), .int .u64 (Wi.Lr (h)), .int .i64 (Wi.Hq (h)), .int .u64 (Wi.Lr (h))] 40) 40 #[.int .i64 (Wi.Hq (l')), .int .u64 (Wi.Lr (l')), .int .i64 (Wi.Hq (h')), .int .u64 (Wi.Lr (h')), .int .i64 (Wi.Hq (l')), .int .u64 (Wi.Lr (l')), .int .i64 (Wi.Hq (h')), .int .u64 (Wi.Lr (h'))]
    refine (rquot_c _ _ 4 4 4 (four l l h h) (four l' h' l' h') _ (rd4W SL1) (rd4W SL2) (by decide) (by decide) (four_W i1 i1 i2 i2) (four_W i3 i4 i3 i4) HQ4.out).mono ?_
    rw [E.out]
    rintro e w5 ⟨rfl, hb⟩
    clear c00 c01 c02 c03 c10 c11 c12 c13 c20 c21 c22 c23 c30 c31 c32 c33 c40 c41 c42 c43
    replace X := X.keep hb
    replace Y := Y.keep hb
    replace R := R.keep hb
    replace MA := MA.keep hb
    replace MB := MB.keep hb
    replace MC := MC.keep hb
    replace MD := MD.keep hb
    replace SL1 := SL1.keep hb
    replace SL2 := SL2.keep hb
    replace hB := bt hB hb
    clear hb
    obtain ⟨r00, r01, r02, r03⟩ := R.open2
    go_wp2_with fail
    refine bodyPost_ret (by simp [results, Try.results18, go_sem, r00, r01, r02, r03]; try rfl) rfl ?_
    exact ⟨rfl, by repeat (first | exact Below.refl _ _ | (with_reducible assumption) | (with_reducible apply bal) | (with_reducible apply bdr) | (with_reducible apply bdnl) | (with_reducible refine bst ?_ (by first | (simp; done) | (simp; omega) | omega) _) | (with_reducible refine bt ?_ (by with_reducible assumption)))⟩
set_option maxRecDepth 100000 in
set_option maxHeartbeats 4000000 in
theorem rscale_ci (l h n d : Int) (w : World) (n1 : -9223372036854775808 ≤ n) (n2 : n ≤ 9223372036854775807) (d1 : -9223372036854775808 ≤ d) (d2 : d ≤ 9223372036854775807) : Calls Try.prog 20 #[.agg #[.int .i64 l, .int .i64 h], .int .i64 n, .int .i64 d] w fun e w' =>
    e = .returned (.tuple #[.agg #[.int .i64 (Iv.scale l h n d).lo, .int .i64 (Iv.scale l h n d).hi], .int .i64 (Iv.scale l h n d).er]) ∧ Below w.heap.size w w' := by
  unfold Iv.scale
  by_cases v : Iv.Vd l h
  rotate_left
  · rw [if_neg (fun q => v q.1)]
    have e1 := Lib.hid (Iv.vb_no v)
    clear v
    go_enter Try.func20, Try.ntmps20
    have X := Blk.new w 23 #[.int .i64 (l), .int .i64 (h)]
    have hB := ba w (.cells #[.int .i64 (l), .int .i64 (h)] 23)
    have R := Blk.new1 w (.cells #[.int .i64 (l), .int .i64 (h)] 23) 23 #[.int .i64 (0), .int .i64 (0)]
    replace X := X.alloc (.cells #[.int .i64 (0), .int .i64 (0)] 23)
    replace hB := bal hB (.cells #[.int .i64 (0), .int .i64 (0)] 23)
    obtain ⟨c00, c01, c02, c03⟩ := X.open2
    go_wp2_with fail
    refine (rvalid_c _ _ _).mono ?_
    rw [e1.out]
    rintro e w1 ⟨rfl, hb⟩
    clear c00 c01 c02 c03
    replace X := X.keep hb
    replace R := R.keep hb
    replace hB := bt hB hb
    clear hb
    obtain ⟨r00, r01, r02, r03⟩ := R.open2
    go_wp2_with fail
    refine bodyPost_ret (by simp [results, Try.results20, go_sem, r00, r01, r02, r03]; try rfl) rfl ?_
    exact ⟨rfl, by repeat (first | exact Below.refl _ _ | (with_reducible assumption) | (with_reducible apply bal) | (with_reducible apply bdr) | (with_reducible apply bdnl) | (with_reducible refine bst ?_ (by first | (simp; done) | (simp; omega) | omega) _) | (with_reducible refine bt ?_ (by with_reducible assumption)))⟩
  by_cases k0 : d = 0
  · rw [if_neg (fun q => q.2 k0)]
    have e1 := Lib.hid (Iv.vb_yes v)
    subst k0
    clear v
    go_enter Try.func20, Try.ntmps20
    have X := Blk.new w 23 #[.int .i64 (l), .int .i64 (h)]
    have hB := ba w (.cells #[.int .i64 (l), .int .i64 (h)] 23)
    have R := Blk.new1 w (.cells #[.int .i64 (l), .int .i64 (h)] 23) 23 #[.int .i64 (0), .int .i64 (0)]
    replace X := X.alloc (.cells #[.int .i64 (0), .int .i64 (0)] 23)
    replace hB := bal hB (.cells #[.int .i64 (0), .int .i64 (0)] 23)
    obtain ⟨c00, c01, c02, c03⟩ := X.open2
    go_wp2_with fail
    refine (rvalid_c _ _ _).mono ?_
    rw [e1.out]
    rintro e w1 ⟨rfl, hb⟩
    clear c00 c01 c02 c03
    replace X := X.keep hb
    replace R := R.keep hb
    replace hB := bt hB hb
    clear hb
    obtain ⟨r00, r01, r02, r03⟩ := R.open2
    go_wp2_with fail
    refine bodyPost_ret (by simp [results, Try.results20, go_sem, r00, r01, r02, r03]; try rfl) rfl ?_
    exact ⟨rfl, by repeat (first | exact Below.refl _ _ | (with_reducible assumption) | (with_reducible apply bal) | (with_reducible apply bdr) | (with_reducible apply bdnl) | (with_reducible refine bst ?_ (by first | (simp; done) | (simp; omega) | omega) _) | (with_reducible refine bt ?_ (by with_reducible assumption)))⟩
  rw [if_pos ⟨v, k0⟩]
  have e1 := Lib.hid (Iv.vb_yes v)
  have x1 : -9223372036854775808 ≤ l := by unfold Iv.Vd at *; omega
  have x2 : l ≤ 9223372036854775807 := by unfold Iv.Vd at *; omega
  have xx1 : -9223372036854775808 ≤ h := by unfold Iv.Vd at *; omega
  have xx2 : h ≤ 9223372036854775807 := by unfold Iv.Vd at *; omega
  have kb : (d == 0) = false := by simpa using k0
  have mb1 := mulB (a := l) (b := n) (by unfold Iv.Vd at v; omega) (by unfold Iv.Vd at v; omega) n1 n2
  have mb2 := mulB (a := h) (b := n) (by unfold Iv.Vd at v; omega) (by unfold Iv.Vd at v; omega) n1 n2
  have HQ2 : ∀ i, i < 2 → (two d d) i ≠ 0 ∧ Wi.inW (Wi.dv ((two (l * n) (h * n)) i) ((two d d) i) (-1)) ∧ Wi.inW (Wi.dv ((two (l * n) (h * n)) i) ((two d d) i) 1) := fun i hi => by
    match i, hi with
    | 0, _ => exact q_W (x := l * n) (c := d) mb1.1 mb1.2 k0
    | 1, _ => exact q_W (x := h * n) (c := d) mb2.1 mb2.2 k0
  have i1 : Wi.inW (l * n) := by unfold Wi.inW; omega
  have i2 : Wi.inW (h * n) := by unfold Wi.inW; omega
  have i3 : Wi.inW d := by unfold Wi.inW; omega
  have E := Lib.hid (show Iv.rs (Iv.mnU (fun i => Wi.dv ((two (l * n) (h * n)) i) ((two d d) i) (-1)) 2) (Iv.mxU (fun i => Wi.dv ((two (l * n) (h * n)) i) ((two d d) i) 1) 2) = Iv.rs (min (Iv.fl (l * n) d) (Iv.fl (h * n) d)) (max (Iv.cl (l * n) d) (Iv.cl (h * n) d)) from by rw [mnU2, mxU2]; rfl)
  replace HQ2 := Lib.hid HQ2
  replace k0 := Lib.hid k0
  clear v mb1 mb2
  go_enter Try.func20, Try.ntmps20
  have X := Blk.new w 23 #[.int .i64 (l), .int .i64 (h)]
  have hB := ba w (.cells #[.int .i64 (l), .int .i64 (h)] 23)
  have R := Blk.new1 w (.cells #[.int .i64 (l), .int .i64 (h)] 23) 23 #[.int .i64 (0), .int .i64 (0)]
  replace X := X.alloc (.cells #[.int .i64 (0), .int .i64 (0)] 23)
  replace hB := bal hB (.cells #[.int .i64 (0), .int .i64 (0)] 23)
  obtain ⟨c00, c01, c02, c03⟩ := X.open2
  go_wp2_with fail
  refine (rvalid_c _ _ _).mono ?_
  rw [e1.out]
  rintro e w1 ⟨rfl, hb⟩
  clear c00 c01 c02 c03
  replace X := X.keep hb
  replace R := R.keep hb
  replace hB := bt hB hb
  clear hb
  go_wp2_with fail
  refine wp_region_inv (fun L x G wx => ((((Below w.heap.size w wx
        ∧ (w.heap.size < wx.heap.size
        ∧ Blk wx (w.heap.size) 23 #[.int .i64 (l), .int .i64 (h)]))
        ∧ ((w.heap.size + 1 < wx.heap.size
        ∧ (¬ L 17 → Blk wx (w.heap.size + 1) 23 #[.int .i64 (0), .int .i64 (0)]))
        ∧ ((L 17 → Blk wx (w.heap.size + 1) 23 #[.int .i64 ((Iv.rs (min (Iv.fl (l * n) d) (Iv.fl (h * n) d)) (max (Iv.cl (l * n) d) (Iv.cl (h * n) d))).lo), .int .i64 ((Iv.rs (min (Iv.fl (l * n) d) (Iv.fl (h * n) d)) (max (Iv.cl (l * n) d) (Iv.cl (h * n) d))).hi)])
        ∧ (L 8 → w.heap.size ≤ G 8 ∧ G 8 < wx.heap.size ∧ w.heap.size ≠ G 8 ∧ w.heap.size + 1 ≠ G 8))))
        ∧ (((L 8 → Blk wx (G 8) 40 #[.int .i64 (Wi.Hq (l * n)), .int .u64 (Wi.Lr (l * n)), .int .i64 (Wi.Hq (h * n)), .int .u64 (Wi.Lr (h * n))])
        ∧ ((L 13 → w.heap.size ≤ G 13 ∧ G 13 < wx.heap.size ∧ w.heap.size ≠ G 13 ∧ w.heap.size + 1 ≠ G 13)
        ∧ (L 13 → Blk wx (G 13) 40 #[.int .i64 (Wi.Hq (d)), .int .u64 (Wi.Lr (d)), .int .i64 (Wi.Hq (d)), .int .u64 (Wi.Lr (d))])))
        ∧ (((L 13 → L 8 → G 13 ≠ G 8)
        ∧ (L 0 → x 16 = .pointer (some ⟨w.heap.size, 0, none⟩)))
        ∧ ((L 1 → x 17 = .int .i64 (l))
        ∧ (L 2 → x 18 = .int .i64 (n))))))
        ∧ ((((L 3 → x 19 = .agg #[.int .i64 (Wi.Hq (l * n)), .int .u64 (Wi.Lr (l * n))])
        ∧ ((L 4 → x 20 = .pointer (some ⟨w.heap.size, 1, none⟩))
        ∧ (L 5 → x 21 = .int .i64 (h))))
        ∧ (((L 6 → x 22 = .int .i64 (n))
        ∧ (L 7 → x 23 = .agg #[.int .i64 (Wi.Hq (h * n)), .int .u64 (Wi.Lr (h * n))]))
        ∧ ((L 8 → x 24 = .slice (some ⟨G 8, 0, none⟩) 2 2)
        ∧ (L 9 → x 25 = .int .i64 (d)))))
        ∧ ((((L 10 → x 26 = .agg #[.int .i64 (Wi.Hq (d)), .int .u64 (Wi.Lr (d))])
        ∧ (L 11 → x 27 = .int .i64 (d)))
        ∧ ((L 12 → x 28 = .agg #[.int .i64 (Wi.Hq (d)), .int .u64 (Wi.Lr (d))])
        ∧ (L 13 → x 29 = .slice (some ⟨G 13, 0, none⟩) 2 2)))
        ∧ (((L 14 → x 30 = .tuple #[.agg #[.int .i64 ((Iv.rs (min (Iv.fl (l * n) d) (Iv.fl (h * n) d)) (max (Iv.cl (l * n) d) (Iv.cl (h * n) d))).lo), .int .i64 ((Iv.rs (min (Iv.fl (l * n) d) (Iv.fl (h * n) d)) (max (Iv.cl (l * n) d) (Iv.cl (h * n) d))).hi)], .int .i64 ((Iv.rs (min (Iv.fl (l * n) d) (Iv.fl (h * n) d)) (max (Iv.cl (l * n) d) (Iv.cl (h * n) d))).er)])
        ∧ (L 15 → x 31 = .agg #[.int .i64 ((Iv.rs (min (Iv.fl (l * n) d) (Iv.fl (h * n) d)) (max (Iv.cl (l * n) d) (Iv.cl (h * n) d))).lo), .int .i64 ((Iv.rs (min (Iv.fl (l * n) d) (Iv.fl (h * n) d)) (max (Iv.cl (l * n) d) (Iv.cl (h * n) d))).hi)]))
        ∧ ((L 16 → x 32 = .int .i64 ((Iv.rs (min (Iv.fl (l * n) d) (Iv.fl (h * n) d)) (max (Iv.cl (l * n) d) (Iv.cl (h * n) d))).er))
        ∧ (L 18 → x 7 = .int .i64 ((Iv.rs (min (Iv.fl (l * n) d) (Iv.fl (h * n) d)) (max (Iv.cl (l * n) d) (Iv.cl (h * n) d))).er)))))))) [16, 17, 18, 19, 20, 21, 22, 23, 24, 25, 26, 27, 28, 29, 30, 31, 32, 7] 19 (by kernel_rfl) (by kernel_rfl) (by kernel_rfl) ?h0 ?st ?fin
  case h0 =>
    exact ⟨⟨⟨⟨bdr hB, ⟨Blk.lt X.drew, X.drew⟩⟩, ⟨⟨Blk.lt R.drew, (fun _ => R.drew)⟩, ⟨fun q => q.elim, fun q => q.elim⟩⟩⟩, ⟨⟨fun q => q.elim, ⟨fun q => q.elim, fun q => q.elim⟩⟩, ⟨⟨fun q _ => q.elim, fun q => q.elim⟩, ⟨fun q => q.elim, fun q => q.elim⟩⟩⟩⟩, ⟨⟨⟨fun q => q.elim, ⟨fun q => q.elim, fun q => q.elim⟩⟩, ⟨⟨fun q => q.elim, fun q => q.elim⟩, ⟨fun q => q.elim, fun q => q.elim⟩⟩⟩, ⟨⟨⟨fun q => q.elim, fun q => q.elim⟩, ⟨fun q => q.elim, fun q => q.elim⟩⟩, ⟨⟨fun q => q.elim, fun q => q.elim⟩, ⟨fun q => q.elim, fun q => q.elim⟩⟩⟩⟩⟩
  case st =>
    refine StepsOk.cons (i := 0) rfl (fun L x G w1 K Q hn hp hJ hK => ?_) ?_
    · skip
      simp only [putAll, Act.put, List.setIfInBounds_toArray, List.set_cons_zero, List.set_cons_succ]
      go_simp
      refine hK _ G _ (by kernel_rfl) ?_
      exact ⟨⟨⟨⟨(hJ.1.1.1.1), ⟨(hJ.1.1.1.2.1), (hJ.1.1.1.2.2)⟩⟩, ⟨⟨(hJ.1.1.2.1.1), fun n => (hJ.1.1.2.1.2) (fun m => n (.inr m))⟩, ⟨fun q => (hJ.1.1.2.2.1) (rl q), fun q => (hJ.1.1.2.2.2) (rl q)⟩⟩⟩, ⟨⟨fun q => (hJ.1.2.1.1) (rl q), ⟨fun q => (hJ.1.2.1.2.1) (rl q), fun q => (hJ.1.2.1.2.2) (rl q)⟩⟩, ⟨⟨fun q r => (hJ.1.2.2.1.1) (rl q) (rl r), fun _ => rfl⟩, ⟨fun q => (hJ.1.2.2.2.1) (rl q), fun q => (hJ.1.2.2.2.2) (rl q)⟩⟩⟩⟩, ⟨⟨⟨fun q => (hJ.2.1.1.1) (rl q), ⟨fun q => (hJ.2.1.1.2.1) (rl q), fun q => (hJ.2.1.1.2.2) (rl q)⟩⟩, ⟨⟨fun q => (hJ.2.1.2.1.1) (rl q), fun q => (hJ.2.1.2.1.2) (rl q)⟩, ⟨fun q => (hJ.2.1.2.2.1) (rl q), fun q => (hJ.2.1.2.2.2) (rl q)⟩⟩⟩, ⟨⟨⟨fun q => (hJ.2.2.1.1.1) (rl q), fun q => (hJ.2.2.1.1.2) (rl q)⟩, ⟨fun q => (hJ.2.2.1.2.1) (rl q), fun q => (hJ.2.2.1.2.2) (rl q)⟩⟩, ⟨⟨fun q => (hJ.2.2.2.1.1) (rl q), fun q => (hJ.2.2.2.1.2) (rl q)⟩, ⟨fun q => (hJ.2.2.2.2.1) (rl q), fun q => (hJ.2.2.2.2.2) (rl q)⟩⟩⟩⟩⟩
    refine StepsOk.cons (i := 1) rfl (fun L x G w1 K Q hn hp hJ hK => ?_) ?_
    · skip
      have p0 : L 0 := hp ⟨0, .data⟩ (by simp) rfl
      have e0 := (hJ.1.2.2.1.2) p0
      have hc := Blk.open2 ((hJ.1.1.1.2.2))
      have c0 := hc.1
      have c1 := hc.2.1
      have c2 := hc.2.2.1
      have c3 := hc.2.2.2
      clear hc
      simp only [putAll, Act.put, List.setIfInBounds_toArray, List.set_cons_zero, List.set_cons_succ]
      go_simp
      refine hK _ G _ (by kernel_rfl) ?_
      exact ⟨⟨⟨⟨(hJ.1.1.1.1), ⟨(hJ.1.1.1.2.1), (hJ.1.1.1.2.2)⟩⟩, ⟨⟨(hJ.1.1.2.1.1), fun n => (hJ.1.1.2.1.2) (fun m => n (.inr m))⟩, ⟨fun q => (hJ.1.1.2.2.1) (rl q), fun q => (hJ.1.1.2.2.2) (rl q)⟩⟩⟩, ⟨⟨fun q => (hJ.1.2.1.1) (rl q), ⟨fun q => (hJ.1.2.1.2.1) (rl q), fun q => (hJ.1.2.1.2.2) (rl q)⟩⟩, ⟨⟨fun q r => (hJ.1.2.2.1.1) (rl q) (rl r), fun _ => by first | exact rfl | exact e0⟩, ⟨fun _ => rfl, fun q => (hJ.1.2.2.2.2) (rl q)⟩⟩⟩⟩, ⟨⟨⟨fun q => (hJ.2.1.1.1) (rl q), ⟨fun q => (hJ.2.1.1.2.1) (rl q), fun q => (hJ.2.1.1.2.2) (rl q)⟩⟩, ⟨⟨fun q => (hJ.2.1.2.1.1) (rl q), fun q => (hJ.2.1.2.1.2) (rl q)⟩, ⟨fun q => (hJ.2.1.2.2.1) (rl q), fun q => (hJ.2.1.2.2.2) (rl q)⟩⟩⟩, ⟨⟨⟨fun q => (hJ.2.2.1.1.1) (rl q), fun q => (hJ.2.2.1.1.2) (rl q)⟩, ⟨fun q => (hJ.2.2.1.2.1) (rl q), fun q => (hJ.2.2.1.2.2) (rl q)⟩⟩, ⟨⟨fun q => (hJ.2.2.2.1.1) (rl q), fun q => (hJ.2.2.2.1.2) (rl q)⟩, ⟨fun q => (hJ.2.2.2.2.1) (rl q), fun q => (hJ.2.2.2.2.2) (rl q)⟩⟩⟩⟩⟩
    refine StepsOk.cons (i := 2) rfl (fun L x G w1 K Q hn hp hJ hK => ?_) ?_
    · skip
      simp only [putAll, Act.put, List.setIfInBounds_toArray, List.set_cons_zero, List.set_cons_succ]
      go_simp
      refine hK _ G _ (by kernel_rfl) ?_
      exact ⟨⟨⟨⟨(hJ.1.1.1.1), ⟨(hJ.1.1.1.2.1), (hJ.1.1.1.2.2)⟩⟩, ⟨⟨(hJ.1.1.2.1.1), fun n => (hJ.1.1.2.1.2) (fun m => n (.inr m))⟩, ⟨fun q => (hJ.1.1.2.2.1) (rl q), fun q => (hJ.1.1.2.2.2) (rl q)⟩⟩⟩, ⟨⟨fun q => (hJ.1.2.1.1) (rl q), ⟨fun q => (hJ.1.2.1.2.1) (rl q), fun q => (hJ.1.2.1.2.2) (rl q)⟩⟩, ⟨⟨fun q r => (hJ.1.2.2.1.1) (rl q) (rl r), fun q => (hJ.1.2.2.1.2) (rl q)⟩, ⟨fun q => (hJ.1.2.2.2.1) (rl q), fun _ => rfl⟩⟩⟩⟩, ⟨⟨⟨fun q => (hJ.2.1.1.1) (rl q), ⟨fun q => (hJ.2.1.1.2.1) (rl q), fun q => (hJ.2.1.1.2.2) (rl q)⟩⟩, ⟨⟨fun q => (hJ.2.1.2.1.1) (rl q), fun q => (hJ.2.1.2.1.2) (rl q)⟩, ⟨fun q => (hJ.2.1.2.2.1) (rl q), fun q => (hJ.2.1.2.2.2) (rl q)⟩⟩⟩, ⟨⟨⟨fun q => (hJ.2.2.1.1.1) (rl q), fun q => (hJ.2.2.1.1.2) (rl q)⟩, ⟨fun q => (hJ.2.2.1.2.1) (rl q), fun q => (hJ.2.2.1.2.2) (rl q)⟩⟩, ⟨⟨fun q => (hJ.2.2.2.1.1) (rl q), fun q => (hJ.2.2.2.1.2) (rl q)⟩, ⟨fun q => (hJ.2.2.2.2.1) (rl q), fun q => (hJ.2.2.2.2.2) (rl q)⟩⟩⟩⟩⟩
    refine StepsOk.cons (i := 3) rfl (fun L x G w1 K Q hn hp hJ hK => ?_) ?_
    · skip
      have p1 : L 1 := hp ⟨1, .data⟩ (by simp) rfl
      have e1 := (hJ.1.2.2.2.1) p1
      have p2 : L 2 := hp ⟨2, .data⟩ (by simp) rfl
      have e2 := (hJ.1.2.2.2.2) p2
      simp only [putAll, Act.put, List.setIfInBounds_toArray, List.set_cons_zero, List.set_cons_succ]
      go_simp
      refine (rmul_c _ _ _ x1 x2 n1 n2).mono ?_
      rintro e w2 ⟨rfl, hb⟩
      have hz := hb.size
      try go_simp
      refine hK _ G _ (by kernel_rfl) ?_
      exact ⟨⟨⟨⟨bt (hJ.1.1.1.1) hb, ⟨Nat.lt_of_lt_of_le (hJ.1.1.1.2.1) hb.size, Blk.keep ((hJ.1.1.1.2.2)) hb⟩⟩, ⟨⟨Nat.lt_of_lt_of_le (hJ.1.1.2.1.1) hb.size, fun n => Blk.keep ((hJ.1.1.2.1.2) (fun m => n (.inr m))) hb⟩, ⟨fun q => Blk.keep ((hJ.1.1.2.2.1) (rl q)) hb, fun q => ⟨((hJ.1.1.2.2.2) (rl q)).1, by have := ((hJ.1.1.2.2.2) (rl q)).2.1; omega, ((hJ.1.1.2.2.2) (rl q)).2.2⟩⟩⟩⟩, ⟨⟨fun q => Blk.keep ((hJ.1.2.1.1) (rl q)) hb, ⟨fun q => ⟨((hJ.1.2.1.2.1) (rl q)).1, by have := ((hJ.1.2.1.2.1) (rl q)).2.1; omega, ((hJ.1.2.1.2.1) (rl q)).2.2⟩, fun q => Blk.keep ((hJ.1.2.1.2.2) (rl q)) hb⟩⟩, ⟨⟨fun q r => (hJ.1.2.2.1.1) (rl q) (rl r), fun q => (hJ.1.2.2.1.2) (rl q)⟩, ⟨fun _ => by first | exact rfl | exact e1, fun _ => by first | exact rfl | exact e2⟩⟩⟩⟩, ⟨⟨⟨fun _ => rfl, ⟨fun q => (hJ.2.1.1.2.1) (rl q), fun q => (hJ.2.1.1.2.2) (rl q)⟩⟩, ⟨⟨fun q => (hJ.2.1.2.1.1) (rl q), fun q => (hJ.2.1.2.1.2) (rl q)⟩, ⟨fun q => (hJ.2.1.2.2.1) (rl q), fun q => (hJ.2.1.2.2.2) (rl q)⟩⟩⟩, ⟨⟨⟨fun q => (hJ.2.2.1.1.1) (rl q), fun q => (hJ.2.2.1.1.2) (rl q)⟩, ⟨fun q => (hJ.2.2.1.2.1) (rl q), fun q => (hJ.2.2.1.2.2) (rl q)⟩⟩, ⟨⟨fun q => (hJ.2.2.2.1.1) (rl q), fun q => (hJ.2.2.2.1.2) (rl q)⟩, ⟨fun q => (hJ.2.2.2.2.1) (rl q), fun q => (hJ.2.2.2.2.2) (rl q)⟩⟩⟩⟩⟩
    refine StepsOk.cons (i := 4) rfl (fun L x G w1 K Q hn hp hJ hK => ?_) ?_
    · skip
      simp only [putAll, Act.put, List.setIfInBounds_toArray, List.set_cons_zero, List.set_cons_succ]
      go_simp
      refine hK _ G _ (by kernel_rfl) ?_
      exact ⟨⟨⟨⟨(hJ.1.1.1.1), ⟨(hJ.1.1.1.2.1), (hJ.1.1.1.2.2)⟩⟩, ⟨⟨(hJ.1.1.2.1.1), fun n => (hJ.1.1.2.1.2) (fun m => n (.inr m))⟩, ⟨fun q => (hJ.1.1.2.2.1) (rl q), fun q => (hJ.1.1.2.2.2) (rl q)⟩⟩⟩, ⟨⟨fun q => (hJ.1.2.1.1) (rl q), ⟨fun q => (hJ.1.2.1.2.1) (rl q), fun q => (hJ.1.2.1.2.2) (rl q)⟩⟩, ⟨⟨fun q r => (hJ.1.2.2.1.1) (rl q) (rl r), fun q => (hJ.1.2.2.1.2) (rl q)⟩, ⟨fun q => (hJ.1.2.2.2.1) (rl q), fun q => (hJ.1.2.2.2.2) (rl q)⟩⟩⟩⟩, ⟨⟨⟨fun q => (hJ.2.1.1.1) (rl q), ⟨fun _ => rfl, fun q => (hJ.2.1.1.2.2) (rl q)⟩⟩, ⟨⟨fun q => (hJ.2.1.2.1.1) (rl q), fun q => (hJ.2.1.2.1.2) (rl q)⟩, ⟨fun q => (hJ.2.1.2.2.1) (rl q), fun q => (hJ.2.1.2.2.2) (rl q)⟩⟩⟩, ⟨⟨⟨fun q => (hJ.2.2.1.1.1) (rl q), fun q => (hJ.2.2.1.1.2) (rl q)⟩, ⟨fun q => (hJ.2.2.1.2.1) (rl q), fun q => (hJ.2.2.1.2.2) (rl q)⟩⟩, ⟨⟨fun q => (hJ.2.2.2.1.1) (rl q), fun q => (hJ.2.2.2.1.2) (rl q)⟩, ⟨fun q => (hJ.2.2.2.2.1) (rl q), fun q => (hJ.2.2.2.2.2) (rl q)⟩⟩⟩⟩⟩
    refine StepsOk.cons (i := 5) rfl (fun L x G w1 K Q hn hp hJ hK => ?_) ?_
    · skip
      have p4 : L 4 := hp ⟨4, .data⟩ (by simp) rfl
      have e4 := (hJ.2.1.1.2.1) p4
      have hc := Blk.open2 ((hJ.1.1.1.2.2))
      have c0 := hc.1
      have c1 := hc.2.1
      have c2 := hc.2.2.1
      have c3 := hc.2.2.2
      clear hc
      simp only [putAll, Act.put, List.setIfInBounds_toArray, List.set_cons_zero, List.set_cons_succ]
      go_simp
      refine hK _ G _ (by kernel_rfl) ?_
      exact ⟨⟨⟨⟨(hJ.1.1.1.1), ⟨(hJ.1.1.1.2.1), (hJ.1.1.1.2.2)⟩⟩, ⟨⟨(hJ.1.1.2.1.1), fun n => (hJ.1.1.2.1.2) (fun m => n (.inr m))⟩, ⟨fun q => (hJ.1.1.2.2.1) (rl q), fun q => (hJ.1.1.2.2.2) (rl q)⟩⟩⟩, ⟨⟨fun q => (hJ.1.2.1.1) (rl q), ⟨fun q => (hJ.1.2.1.2.1) (rl q), fun q => (hJ.1.2.1.2.2) (rl q)⟩⟩, ⟨⟨fun q r => (hJ.1.2.2.1.1) (rl q) (rl r), fun q => (hJ.1.2.2.1.2) (rl q)⟩, ⟨fun q => (hJ.1.2.2.2.1) (rl q), fun q => (hJ.1.2.2.2.2) (rl q)⟩⟩⟩⟩, ⟨⟨⟨fun q => (hJ.2.1.1.1) (rl q), ⟨fun _ => by first | exact rfl | exact e4, fun _ => rfl⟩⟩, ⟨⟨fun q => (hJ.2.1.2.1.1) (rl q), fun q => (hJ.2.1.2.1.2) (rl q)⟩, ⟨fun q => (hJ.2.1.2.2.1) (rl q), fun q => (hJ.2.1.2.2.2) (rl q)⟩⟩⟩, ⟨⟨⟨fun q => (hJ.2.2.1.1.1) (rl q), fun q => (hJ.2.2.1.1.2) (rl q)⟩, ⟨fun q => (hJ.2.2.1.2.1) (rl q), fun q => (hJ.2.2.1.2.2) (rl q)⟩⟩, ⟨⟨fun q => (hJ.2.2.2.1.1) (rl q), fun q => (hJ.2.2.2.1.2) (rl q)⟩, ⟨fun q => (hJ.2.2.2.2.1) (rl q), fun q => (hJ.2.2.2.2.2) (rl q)⟩⟩⟩⟩⟩
    refine StepsOk.cons (i := 6) rfl (fun L x G w1 K Q hn hp hJ hK => ?_) ?_
    · skip
      simp only [putAll, Act.put, List.setIfInBounds_toArray, List.set_cons_zero, List.set_cons_succ]
      go_simp
      refine hK _ G _ (by kernel_rfl) ?_
      exact ⟨⟨⟨⟨(hJ.1.1.1.1), ⟨(hJ.1.1.1.2.1), (hJ.1.1.1.2.2)⟩⟩, ⟨⟨(hJ.1.1.2.1.1), fun n => (hJ.1.1.2.1.2) (fun m => n (.inr m))⟩, ⟨fun q => (hJ.1.1.2.2.1) (rl q), fun q => (hJ.1.1.2.2.2) (rl q)⟩⟩⟩, ⟨⟨fun q => (hJ.1.2.1.1) (rl q), ⟨fun q => (hJ.1.2.1.2.1) (rl q), fun q => (hJ.1.2.1.2.2) (rl q)⟩⟩, ⟨⟨fun q r => (hJ.1.2.2.1.1) (rl q) (rl r), fun q => (hJ.1.2.2.1.2) (rl q)⟩, ⟨fun q => (hJ.1.2.2.2.1) (rl q), fun q => (hJ.1.2.2.2.2) (rl q)⟩⟩⟩⟩, ⟨⟨⟨fun q => (hJ.2.1.1.1) (rl q), ⟨fun q => (hJ.2.1.1.2.1) (rl q), fun q => (hJ.2.1.1.2.2) (rl q)⟩⟩, ⟨⟨fun _ => rfl, fun q => (hJ.2.1.2.1.2) (rl q)⟩, ⟨fun q => (hJ.2.1.2.2.1) (rl q), fun q => (hJ.2.1.2.2.2) (rl q)⟩⟩⟩, ⟨⟨⟨fun q => (hJ.2.2.1.1.1) (rl q), fun q => (hJ.2.2.1.1.2) (rl q)⟩, ⟨fun q => (hJ.2.2.1.2.1) (rl q), fun q => (hJ.2.2.1.2.2) (rl q)⟩⟩, ⟨⟨fun q => (hJ.2.2.2.1.1) (rl q), fun q => (hJ.2.2.2.1.2) (rl q)⟩, ⟨fun q => (hJ.2.2.2.2.1) (rl q), fun q => (hJ.2.2.2.2.2) (rl q)⟩⟩⟩⟩⟩
    refine StepsOk.cons (i := 7) rfl (fun L x G w1 K Q hn hp hJ hK => ?_) ?_
    · skip
      have p5 : L 5 := hp ⟨5, .data⟩ (by simp) rfl
      have e5 := (hJ.2.1.1.2.2) p5
      have p6 : L 6 := hp ⟨6, .data⟩ (by simp) rfl
      have e6 := (hJ.2.1.2.1.1) p6
      simp only [putAll, Act.put, List.setIfInBounds_toArray, List.set_cons_zero, List.set_cons_succ]
      go_simp
      refine (rmul_c _ _ _ xx1 xx2 n1 n2).mono ?_
      rintro e w2 ⟨rfl, hb⟩
      have hz := hb.size
      try go_simp
      refine hK _ G _ (by kernel_rfl) ?_
      exact ⟨⟨⟨⟨bt (hJ.1.1.1.1) hb, ⟨Nat.lt_of_lt_of_le (hJ.1.1.1.2.1) hb.size, Blk.keep ((hJ.1.1.1.2.2)) hb⟩⟩, ⟨⟨Nat.lt_of_lt_of_le (hJ.1.1.2.1.1) hb.size, fun n => Blk.keep ((hJ.1.1.2.1.2) (fun m => n (.inr m))) hb⟩, ⟨fun q => Blk.keep ((hJ.1.1.2.2.1) (rl q)) hb, fun q => ⟨((hJ.1.1.2.2.2) (rl q)).1, by have := ((hJ.1.1.2.2.2) (rl q)).2.1; omega, ((hJ.1.1.2.2.2) (rl q)).2.2⟩⟩⟩⟩, ⟨⟨fun q => Blk.keep ((hJ.1.2.1.1) (rl q)) hb, ⟨fun q => ⟨((hJ.1.2.1.2.1) (rl q)).1, by have := ((hJ.1.2.1.2.1) (rl q)).2.1; omega, ((hJ.1.2.1.2.1) (rl q)).2.2⟩, fun q => Blk.keep ((hJ.1.2.1.2.2) (rl q)) hb⟩⟩, ⟨⟨fun q r => (hJ.1.2.2.1.1) (rl q) (rl r), fun q => (hJ.1.2.2.1.2) (rl q)⟩, ⟨fun q => (hJ.1.2.2.2.1) (rl q), fun q => (hJ.1.2.2.2.2) (rl q)⟩⟩⟩⟩, ⟨⟨⟨fun q => (hJ.2.1.1.1) (rl q), ⟨fun q => (hJ.2.1.1.2.1) (rl q), fun _ => by first | exact rfl | exact e5⟩⟩, ⟨⟨fun _ => by first | exact rfl | exact e6, fun _ => rfl⟩, ⟨fun q => (hJ.2.1.2.2.1) (rl q), fun q => (hJ.2.1.2.2.2) (rl q)⟩⟩⟩, ⟨⟨⟨fun q => (hJ.2.2.1.1.1) (rl q), fun q => (hJ.2.2.1.1.2) (rl q)⟩, ⟨fun q => (hJ.2.2.1.2.1) (rl q), fun q => (hJ.2.2.1.2.2) (rl q)⟩⟩, ⟨⟨fun q => (hJ.2.2.2.1.1) (rl q), fun q => (hJ.2.2.2.1.2) (rl q)⟩, ⟨fun q => (hJ.2.2.2.2.1) (rl q), fun q => (hJ.2.2.2.2.2) (rl q)⟩⟩⟩⟩⟩
    refine StepsOk.cons (i := 8) rfl (fun L x G w1 K Q hn hp hJ hK => ?_) ?_
    · skip
      have p3 : L 3 := hp ⟨3, .data⟩ (by simp) rfl
      have e3 := (hJ.2.1.1.1) p3
      have p7 : L 7 := hp ⟨7, .data⟩ (by simp) rfl
      have e7 := (hJ.2.1.2.1.2) p7
      simp only [putAll, Act.put, List.setIfInBounds_toArray, List.set_cons_zero, List.set_cons_succ]
      go_simp
      refine hK _ (fun t => if t = 8 then w1.heap.size else G t) _ (by kernel_rfl) ?_
      exact ⟨⟨⟨⟨bal (hJ.1.1.1.1) _, ⟨by simp; omega, Blk.alloc ((hJ.1.1.1.2.2)) _⟩⟩, ⟨⟨by simp; omega, fun n => Blk.alloc ((hJ.1.1.2.1.2) (fun m => n (.inr m))) _⟩, ⟨fun q => Blk.alloc ((hJ.1.1.2.2.1) (rl q)) _, fun _ => ⟨(hJ.1.1.1.1).size, by simp, Nat.ne_of_lt (hJ.1.1.1.2.1), Nat.ne_of_lt (hJ.1.1.2.1.1)⟩⟩⟩⟩, ⟨⟨fun _ => Blk.new w1 _ _, ⟨fun q => ⟨((hJ.1.2.1.2.1) (rl q)).1, by have := ((hJ.1.2.1.2.1) (rl q)).2.1; simp; omega, ((hJ.1.2.1.2.1) (rl q)).2.2⟩, fun q => Blk.alloc ((hJ.1.2.1.2.2) (rl q)) _⟩⟩, ⟨⟨fun q _ => Nat.ne_of_lt ((hJ.1.2.1.2.1) (rl q)).2.1, fun q => (hJ.1.2.2.1.2) (rl q)⟩, ⟨fun q => (hJ.1.2.2.2.1) (rl q), fun q => (hJ.1.2.2.2.2) (rl q)⟩⟩⟩⟩, ⟨⟨⟨fun _ => by first | exact rfl | exact e3, ⟨fun q => (hJ.2.1.1.2.1) (rl q), fun q => (hJ.2.1.1.2.2) (rl q)⟩⟩, ⟨⟨fun q => (hJ.2.1.2.1.1) (rl q), fun _ => by first | exact rfl | exact e7⟩, ⟨fun _ => rfl, fun q => (hJ.2.1.2.2.2) (rl q)⟩⟩⟩, ⟨⟨⟨fun q => (hJ.2.2.1.1.1) (rl q), fun q => (hJ.2.2.1.1.2) (rl q)⟩, ⟨fun q => (hJ.2.2.1.2.1) (rl q), fun q => (hJ.2.2.1.2.2) (rl q)⟩⟩, ⟨⟨fun q => (hJ.2.2.2.1.1) (rl q), fun q => (hJ.2.2.2.1.2) (rl q)⟩, ⟨fun q => (hJ.2.2.2.2.1) (rl q), fun q => (hJ.2.2.2.2.2) (rl q)⟩⟩⟩⟩⟩
    refine StepsOk.cons (i := 9) rfl (fun L x G w1 K Q hn hp hJ hK => ?_) ?_
    · skip
      simp only [putAll, Act.put, List.setIfInBounds_toArray, List.set_cons_zero, List.set_cons_succ]
      go_simp
      refine hK _ G _ (by kernel_rfl) ?_
      exact ⟨⟨⟨⟨(hJ.1.1.1.1), ⟨(hJ.1.1.1.2.1), (hJ.1.1.1.2.2)⟩⟩, ⟨⟨(hJ.1.1.2.1.1), fun n => (hJ.1.1.2.1.2) (fun m => n (.inr m))⟩, ⟨fun q => (hJ.1.1.2.2.1) (rl q), fun q => (hJ.1.1.2.2.2) (rl q)⟩⟩⟩, ⟨⟨fun q => (hJ.1.2.1.1) (rl q), ⟨fun q => (hJ.1.2.1.2.1) (rl q), fun q => (hJ.1.2.1.2.2) (rl q)⟩⟩, ⟨⟨fun q r => (hJ.1.2.2.1.1) (rl q) (rl r), fun q => (hJ.1.2.2.1.2) (rl q)⟩, ⟨fun q => (hJ.1.2.2.2.1) (rl q), fun q => (hJ.1.2.2.2.2) (rl q)⟩⟩⟩⟩, ⟨⟨⟨fun q => (hJ.2.1.1.1) (rl q), ⟨fun q => (hJ.2.1.1.2.1) (rl q), fun q => (hJ.2.1.1.2.2) (rl q)⟩⟩, ⟨⟨fun q => (hJ.2.1.2.1.1) (rl q), fun q => (hJ.2.1.2.1.2) (rl q)⟩, ⟨fun q => (hJ.2.1.2.2.1) (rl q), fun _ => rfl⟩⟩⟩, ⟨⟨⟨fun q => (hJ.2.2.1.1.1) (rl q), fun q => (hJ.2.2.1.1.2) (rl q)⟩, ⟨fun q => (hJ.2.2.1.2.1) (rl q), fun q => (hJ.2.2.1.2.2) (rl q)⟩⟩, ⟨⟨fun q => (hJ.2.2.2.1.1) (rl q), fun q => (hJ.2.2.2.1.2) (rl q)⟩, ⟨fun q => (hJ.2.2.2.2.1) (rl q), fun q => (hJ.2.2.2.2.2) (rl q)⟩⟩⟩⟩⟩
    refine StepsOk.cons (i := 10) rfl (fun L x G w1 K Q hn hp hJ hK => ?_) ?_
    · skip
      have p9 : L 9 := hp ⟨9, .data⟩ (by simp) rfl
      have e9 := (hJ.2.1.2.2.2) p9
      simp only [putAll, Act.put, List.setIfInBounds_toArray, List.set_cons_zero, List.set_cons_succ]
      go_simp
      refine (rof_c _ _ d1 d2).mono ?_
      rintro e w2 ⟨rfl, hb⟩
      have hz := hb.size
      try go_simp
      refine hK _ G _ (by kernel_rfl) ?_
      exact ⟨⟨⟨⟨bt (hJ.1.1.1.1) hb, ⟨Nat.lt_of_lt_of_le (hJ.1.1.1.2.1) hb.size, Blk.keep ((hJ.1.1.1.2.2)) hb⟩⟩, ⟨⟨Nat.lt_of_lt_of_le (hJ.1.1.2.1.1) hb.size, fun n => Blk.keep ((hJ.1.1.2.1.2) (fun m => n (.inr m))) hb⟩, ⟨fun q => Blk.keep ((hJ.1.1.2.2.1) (rl q)) hb, fun q => ⟨((hJ.1.1.2.2.2) (rl q)).1, by have := ((hJ.1.1.2.2.2) (rl q)).2.1; omega, ((hJ.1.1.2.2.2) (rl q)).2.2⟩⟩⟩⟩, ⟨⟨fun q => Blk.keep ((hJ.1.2.1.1) (rl q)) hb, ⟨fun q => ⟨((hJ.1.2.1.2.1) (rl q)).1, by have := ((hJ.1.2.1.2.1) (rl q)).2.1; omega, ((hJ.1.2.1.2.1) (rl q)).2.2⟩, fun q => Blk.keep ((hJ.1.2.1.2.2) (rl q)) hb⟩⟩, ⟨⟨fun q r => (hJ.1.2.2.1.1) (rl q) (rl r), fun q => (hJ.1.2.2.1.2) (rl q)⟩, ⟨fun q => (hJ.1.2.2.2.1) (rl q), fun q => (hJ.1.2.2.2.2) (rl q)⟩⟩⟩⟩, ⟨⟨⟨fun q => (hJ.2.1.1.1) (rl q), ⟨fun q => (hJ.2.1.1.2.1) (rl q), fun q => (hJ.2.1.1.2.2) (rl q)⟩⟩, ⟨⟨fun q => (hJ.2.1.2.1.1) (rl q), fun q => (hJ.2.1.2.1.2) (rl q)⟩, ⟨fun q => (hJ.2.1.2.2.1) (rl q), fun _ => by first | exact rfl | exact e9⟩⟩⟩, ⟨⟨⟨fun _ => rfl, fun q => (hJ.2.2.1.1.2) (rl q)⟩, ⟨fun q => (hJ.2.2.1.2.1) (rl q), fun q => (hJ.2.2.1.2.2) (rl q)⟩⟩, ⟨⟨fun q => (hJ.2.2.2.1.1) (rl q), fun q => (hJ.2.2.2.1.2) (rl q)⟩, ⟨fun q => (hJ.2.2.2.2.1) (rl q), fun q => (hJ.2.2.2.2.2) (rl q)⟩⟩⟩⟩⟩
    refine StepsOk.cons (i := 11) rfl (fun L x G w1 K Q hn hp hJ hK => ?_) ?_
    · skip
      simp only [putAll, Act.put, List.setIfInBounds_toArray, List.set_cons_zero, List.set_cons_succ]
      go_simp
      refine hK _ G _ (by kernel_rfl) ?_
      exact ⟨⟨⟨⟨(hJ.1.1.1.1), ⟨(hJ.1.1.1.2.1), (hJ.1.1.1.2.2)⟩⟩, ⟨⟨(hJ.1.1.2.1.1), fun n => (hJ.1.1.2.1.2) (fun m => n (.inr m))⟩, ⟨fun q => (hJ.1.1.2.2.1) (rl q), fun q => (hJ.1.1.2.2.2) (rl q)⟩⟩⟩, ⟨⟨fun q => (hJ.1.2.1.1) (rl q), ⟨fun q => (hJ.1.2.1.2.1) (rl q), fun q => (hJ.1.2.1.2.2) (rl q)⟩⟩, ⟨⟨fun q r => (hJ.1.2.2.1.1) (rl q) (rl r), fun q => (hJ.1.2.2.1.2) (rl q)⟩, ⟨fun q => (hJ.1.2.2.2.1) (rl q), fun q => (hJ.1.2.2.2.2) (rl q)⟩⟩⟩⟩, ⟨⟨⟨fun q => (hJ.2.1.1.1) (rl q), ⟨fun q => (hJ.2.1.1.2.1) (rl q), fun q => (hJ.2.1.1.2.2) (rl q)⟩⟩, ⟨⟨fun q => (hJ.2.1.2.1.1) (rl q), fun q => (hJ.2.1.2.1.2) (rl q)⟩, ⟨fun q => (hJ.2.1.2.2.1) (rl q), fun q => (hJ.2.1.2.2.2) (rl q)⟩⟩⟩, ⟨⟨⟨fun q => (hJ.2.2.1.1.1) (rl q), fun _ => rfl⟩, ⟨fun q => (hJ.2.2.1.2.1) (rl q), fun q => (hJ.2.2.1.2.2) (rl q)⟩⟩, ⟨⟨fun q => (hJ.2.2.2.1.1) (rl q), fun q => (hJ.2.2.2.1.2) (rl q)⟩, ⟨fun q => (hJ.2.2.2.2.1) (rl q), fun q => (hJ.2.2.2.2.2) (rl q)⟩⟩⟩⟩⟩
    refine StepsOk.cons (i := 12) rfl (fun L x G w1 K Q hn hp hJ hK => ?_) ?_
    · skip
      have p11 : L 11 := hp ⟨11, .data⟩ (by simp) rfl
      have e11 := (hJ.2.2.1.1.2) p11
      simp only [putAll, Act.put, List.setIfInBounds_toArray, List.set_cons_zero, List.set_cons_succ]
      go_simp
      refine (rof_c _ _ d1 d2).mono ?_
      rintro e w2 ⟨rfl, hb⟩
      have hz := hb.size
      try go_simp
      refine hK _ G _ (by kernel_rfl) ?_
      exact ⟨⟨⟨⟨bt (hJ.1.1.1.1) hb, ⟨Nat.lt_of_lt_of_le (hJ.1.1.1.2.1) hb.size, Blk.keep ((hJ.1.1.1.2.2)) hb⟩⟩, ⟨⟨Nat.lt_of_lt_of_le (hJ.1.1.2.1.1) hb.size, fun n => Blk.keep ((hJ.1.1.2.1.2) (fun m => n (.inr m))) hb⟩, ⟨fun q => Blk.keep ((hJ.1.1.2.2.1) (rl q)) hb, fun q => ⟨((hJ.1.1.2.2.2) (rl q)).1, by have := ((hJ.1.1.2.2.2) (rl q)).2.1; omega, ((hJ.1.1.2.2.2) (rl q)).2.2⟩⟩⟩⟩, ⟨⟨fun q => Blk.keep ((hJ.1.2.1.1) (rl q)) hb, ⟨fun q => ⟨((hJ.1.2.1.2.1) (rl q)).1, by have := ((hJ.1.2.1.2.1) (rl q)).2.1; omega, ((hJ.1.2.1.2.1) (rl q)).2.2⟩, fun q => Blk.keep ((hJ.1.2.1.2.2) (rl q)) hb⟩⟩, ⟨⟨fun q r => (hJ.1.2.2.1.1) (rl q) (rl r), fun q => (hJ.1.2.2.1.2) (rl q)⟩, ⟨fun q => (hJ.1.2.2.2.1) (rl q), fun q => (hJ.1.2.2.2.2) (rl q)⟩⟩⟩⟩, ⟨⟨⟨fun q => (hJ.2.1.1.1) (rl q), ⟨fun q => (hJ.2.1.1.2.1) (rl q), fun q => (hJ.2.1.1.2.2) (rl q)⟩⟩, ⟨⟨fun q => (hJ.2.1.2.1.1) (rl q), fun q => (hJ.2.1.2.1.2) (rl q)⟩, ⟨fun q => (hJ.2.1.2.2.1) (rl q), fun q => (hJ.2.1.2.2.2) (rl q)⟩⟩⟩, ⟨⟨⟨fun q => (hJ.2.2.1.1.1) (rl q), fun _ => by first | exact rfl | exact e11⟩, ⟨fun _ => rfl, fun q => (hJ.2.2.1.2.2) (rl q)⟩⟩, ⟨⟨fun q => (hJ.2.2.2.1.1) (rl q), fun q => (hJ.2.2.2.1.2) (rl q)⟩, ⟨fun q => (hJ.2.2.2.2.1) (rl q), fun q => (hJ.2.2.2.2.2) (rl q)⟩⟩⟩⟩⟩
    refine StepsOk.cons (i := 13) rfl (fun L x G w1 K Q hn hp hJ hK => ?_) ?_
    · skip
      have p10 : L 10 := hp ⟨10, .data⟩ (by simp) rfl
      have e10 := (hJ.2.2.1.1.1) p10
      have p12 : L 12 := hp ⟨12, .data⟩ (by simp) rfl
      have e12 := (hJ.2.2.1.2.1) p12
      simp only [putAll, Act.put, List.setIfInBounds_toArray, List.set_cons_zero, List.set_cons_succ]
      go_simp
      refine hK _ (fun t => if t = 13 then w1.heap.size else G t) _ (by kernel_rfl) ?_
      exact ⟨⟨⟨⟨bal (hJ.1.1.1.1) _, ⟨by simp; omega, Blk.alloc ((hJ.1.1.1.2.2)) _⟩⟩, ⟨⟨by simp; omega, fun n => Blk.alloc ((hJ.1.1.2.1.2) (fun m => n (.inr m))) _⟩, ⟨fun q => Blk.alloc ((hJ.1.1.2.2.1) (rl q)) _, fun q => ⟨((hJ.1.1.2.2.2) (rl q)).1, by have := ((hJ.1.1.2.2.2) (rl q)).2.1; simp; omega, ((hJ.1.1.2.2.2) (rl q)).2.2⟩⟩⟩⟩, ⟨⟨fun q => Blk.alloc ((hJ.1.2.1.1) (rl q)) _, ⟨fun _ => ⟨(hJ.1.1.1.1).size, by simp, Nat.ne_of_lt (hJ.1.1.1.2.1), Nat.ne_of_lt (hJ.1.1.2.1.1)⟩, fun _ => Blk.new w1 _ _⟩⟩, ⟨⟨fun _ r => Nat.ne_of_gt ((hJ.1.1.2.2.2) (rl r)).2.1, fun q => (hJ.1.2.2.1.2) (rl q)⟩, ⟨fun q => (hJ.1.2.2.2.1) (rl q), fun q => (hJ.1.2.2.2.2) (rl q)⟩⟩⟩⟩, ⟨⟨⟨fun q => (hJ.2.1.1.1) (rl q), ⟨fun q => (hJ.2.1.1.2.1) (rl q), fun q => (hJ.2.1.1.2.2) (rl q)⟩⟩, ⟨⟨fun q => (hJ.2.1.2.1.1) (rl q), fun q => (hJ.2.1.2.1.2) (rl q)⟩, ⟨fun q => (hJ.2.1.2.2.1) (rl q), fun q => (hJ.2.1.2.2.2) (rl q)⟩⟩⟩, ⟨⟨⟨fun _ => by first | exact rfl | exact e10, fun q => (hJ.2.2.1.1.2) (rl q)⟩, ⟨fun _ => by first | exact rfl | exact e12, fun _ => rfl⟩⟩, ⟨⟨fun q => (hJ.2.2.2.1.1) (rl q), fun q => (hJ.2.2.2.1.2) (rl q)⟩, ⟨fun q => (hJ.2.2.2.2.1) (rl q), fun q => (hJ.2.2.2.2.2) (rl q)⟩⟩⟩⟩⟩
    refine StepsOk.cons (i := 14) rfl (fun L x G w1 K Q hn hp hJ hK => ?_) ?_
    · skip
      have p8 : L 8 := hp ⟨8, .data⟩ (by simp) rfl
      have e8 := (hJ.2.1.2.2.1) p8
      have p13 : L 13 := hp ⟨13, .data⟩ (by simp) rfl
      have e13 := (hJ.2.2.1.2.2) p13
      simp only [putAll, Act.put, List.setIfInBounds_toArray, List.set_cons_zero, List.set_cons_succ]
      go_simp
      refine (rquot_c _ _ 2 2 2 (two (l * n) (h * n)) (two d d) _ (rd2W ((hJ.1.2.1.1) p8)) (rd2W ((hJ.1.2.1.2.2) p13)) (by decide) (by decide) (two_W i1 i2) (two_W i3 i3) HQ2.out).mono ?_
      rw [E.out]
      rintro e w2 ⟨rfl, hb⟩
      have hz := hb.size
      try go_simp
      refine hK _ G _ (by kernel_rfl) ?_
      exact ⟨⟨⟨⟨bt (hJ.1.1.1.1) hb, ⟨Nat.lt_of_lt_of_le (hJ.1.1.1.2.1) hb.size, Blk.keep ((hJ.1.1.1.2.2)) hb⟩⟩, ⟨⟨Nat.lt_of_lt_of_le (hJ.1.1.2.1.1) hb.size, fun n => Blk.keep ((hJ.1.1.2.1.2) (fun m => n (.inr m))) hb⟩, ⟨fun q => Blk.keep ((hJ.1.1.2.2.1) (rl q)) hb, fun q => ⟨((hJ.1.1.2.2.2) (rl q)).1, by have := ((hJ.1.1.2.2.2) (rl q)).2.1; omega, ((hJ.1.1.2.2.2) (rl q)).2.2⟩⟩⟩⟩, ⟨⟨fun q => Blk.keep ((hJ.1.2.1.1) (rl q)) hb, ⟨fun q => ⟨((hJ.1.2.1.2.1) (rl q)).1, by have := ((hJ.1.2.1.2.1) (rl q)).2.1; omega, ((hJ.1.2.1.2.1) (rl q)).2.2⟩, fun q => Blk.keep ((hJ.1.2.1.2.2) (rl q)) hb⟩⟩, ⟨⟨fun q r => (hJ.1.2.2.1.1) (rl q) (rl r), fun q => (hJ.1.2.2.1.2) (rl q)⟩, ⟨fun q => (hJ.1.2.2.2.1) (rl q), fun q => (hJ.1.2.2.2.2) (rl q)⟩⟩⟩⟩, ⟨⟨⟨fun q => (hJ.2.1.1.1) (rl q), ⟨fun q => (hJ.2.1.1.2.1) (rl q), fun q => (hJ.2.1.1.2.2) (rl q)⟩⟩, ⟨⟨fun q => (hJ.2.1.2.1.1) (rl q), fun q => (hJ.2.1.2.1.2) (rl q)⟩, ⟨fun _ => by first | exact rfl | exact e8, fun q => (hJ.2.1.2.2.2) (rl q)⟩⟩⟩, ⟨⟨⟨fun q => (hJ.2.2.1.1.1) (rl q), fun q => (hJ.2.2.1.1.2) (rl q)⟩, ⟨fun q => (hJ.2.2.1.2.1) (rl q), fun _ => by first | exact rfl | exact e13⟩⟩, ⟨⟨fun _ => rfl, fun q => (hJ.2.2.2.1.2) (rl q)⟩, ⟨fun q => (hJ.2.2.2.2.1) (rl q), fun q => (hJ.2.2.2.2.2) (rl q)⟩⟩⟩⟩⟩
    refine StepsOk.cons (i := 15) rfl (fun L x G w1 K Q hn hp hJ hK => ?_) ?_
    · skip
      have p14 : L 14 := hp ⟨14, .data⟩ (by simp) rfl
      have e14 := (hJ.2.2.2.1.1) p14
      simp only [putAll, Act.put, List.setIfInBounds_toArray, List.set_cons_zero, List.set_cons_succ]
      go_simp
      refine hK _ G _ (by kernel_rfl) ?_
      exact ⟨⟨⟨⟨(hJ.1.1.1.1), ⟨(hJ.1.1.1.2.1), (hJ.1.1.1.2.2)⟩⟩, ⟨⟨(hJ.1.1.2.1.1), fun n => (hJ.1.1.2.1.2) (fun m => n (.inr m))⟩, ⟨fun q => (hJ.1.1.2.2.1) (rl q), fun q => (hJ.1.1.2.2.2) (rl q)⟩⟩⟩, ⟨⟨fun q => (hJ.1.2.1.1) (rl q), ⟨fun q => (hJ.1.2.1.2.1) (rl q), fun q => (hJ.1.2.1.2.2) (rl q)⟩⟩, ⟨⟨fun q r => (hJ.1.2.2.1.1) (rl q) (rl r), fun q => (hJ.1.2.2.1.2) (rl q)⟩, ⟨fun q => (hJ.1.2.2.2.1) (rl q), fun q => (hJ.1.2.2.2.2) (rl q)⟩⟩⟩⟩, ⟨⟨⟨fun q => (hJ.2.1.1.1) (rl q), ⟨fun q => (hJ.2.1.1.2.1) (rl q), fun q => (hJ.2.1.1.2.2) (rl q)⟩⟩, ⟨⟨fun q => (hJ.2.1.2.1.1) (rl q), fun q => (hJ.2.1.2.1.2) (rl q)⟩, ⟨fun q => (hJ.2.1.2.2.1) (rl q), fun q => (hJ.2.1.2.2.2) (rl q)⟩⟩⟩, ⟨⟨⟨fun q => (hJ.2.2.1.1.1) (rl q), fun q => (hJ.2.2.1.1.2) (rl q)⟩, ⟨fun q => (hJ.2.2.1.2.1) (rl q), fun q => (hJ.2.2.1.2.2) (rl q)⟩⟩, ⟨⟨fun _ => by first | exact rfl | exact e14, fun _ => rfl⟩, ⟨fun q => (hJ.2.2.2.2.1) (rl q), fun q => (hJ.2.2.2.2.2) (rl q)⟩⟩⟩⟩⟩
    refine StepsOk.cons (i := 16) rfl (fun L x G w1 K Q hn hp hJ hK => ?_) ?_
    · skip
      have p14 : L 14 := hp ⟨14, .data⟩ (by simp) rfl
      have e14 := (hJ.2.2.2.1.1) p14
      simp only [putAll, Act.put, List.setIfInBounds_toArray, List.set_cons_zero, List.set_cons_succ]
      go_simp
      refine hK _ G _ (by kernel_rfl) ?_
      exact ⟨⟨⟨⟨(hJ.1.1.1.1), ⟨(hJ.1.1.1.2.1), (hJ.1.1.1.2.2)⟩⟩, ⟨⟨(hJ.1.1.2.1.1), fun n => (hJ.1.1.2.1.2) (fun m => n (.inr m))⟩, ⟨fun q => (hJ.1.1.2.2.1) (rl q), fun q => (hJ.1.1.2.2.2) (rl q)⟩⟩⟩, ⟨⟨fun q => (hJ.1.2.1.1) (rl q), ⟨fun q => (hJ.1.2.1.2.1) (rl q), fun q => (hJ.1.2.1.2.2) (rl q)⟩⟩, ⟨⟨fun q r => (hJ.1.2.2.1.1) (rl q) (rl r), fun q => (hJ.1.2.2.1.2) (rl q)⟩, ⟨fun q => (hJ.1.2.2.2.1) (rl q), fun q => (hJ.1.2.2.2.2) (rl q)⟩⟩⟩⟩, ⟨⟨⟨fun q => (hJ.2.1.1.1) (rl q), ⟨fun q => (hJ.2.1.1.2.1) (rl q), fun q => (hJ.2.1.1.2.2) (rl q)⟩⟩, ⟨⟨fun q => (hJ.2.1.2.1.1) (rl q), fun q => (hJ.2.1.2.1.2) (rl q)⟩, ⟨fun q => (hJ.2.1.2.2.1) (rl q), fun q => (hJ.2.1.2.2.2) (rl q)⟩⟩⟩, ⟨⟨⟨fun q => (hJ.2.2.1.1.1) (rl q), fun q => (hJ.2.2.1.1.2) (rl q)⟩, ⟨fun q => (hJ.2.2.1.2.1) (rl q), fun q => (hJ.2.2.1.2.2) (rl q)⟩⟩, ⟨⟨fun _ => by first | exact rfl | exact e14, fun q => (hJ.2.2.2.1.2) (rl q)⟩, ⟨fun _ => rfl, fun q => (hJ.2.2.2.2.2) (rl q)⟩⟩⟩⟩⟩
    refine StepsOk.cons (i := 17) rfl (fun L x G w1 K Q hn hp hJ hK => ?_) ?_
    · skip
      have p15 : L 15 := hp ⟨15, .data⟩ (by simp) rfl
      have e15 := (hJ.2.2.2.1.2) p15
      have hc := Blk.open2 (((hJ.1.1.2.1.2) hn))
      have c0 := hc.1
      have c1 := hc.2.1
      have c2 := hc.2.2.1
      have c3 := hc.2.2.2
      clear hc
      simp only [putAll, Act.put, List.setIfInBounds_toArray, List.set_cons_zero, List.set_cons_succ]
      go_simp
      refine hK _ G _ (by kernel_rfl) ?_
      exact ⟨⟨⟨⟨bst (bst ((hJ.1.1.1.1)) (p := ⟨w.heap.size + 1, 0, none⟩) (by first | (simp; done) | (simp; omega) | omega) (.int .i64 ((Iv.rs (min (Iv.fl (l * n) d) (Iv.fl (h * n) d)) (max (Iv.cl (l * n) d) (Iv.cl (h * n) d))).lo))) (p := ⟨w.heap.size + 1, 1, none⟩) (by first | (simp; done) | (simp; omega) | omega) (.int .i64 ((Iv.rs (min (Iv.fl (l * n) d) (Iv.fl (h * n) d)) (max (Iv.cl (l * n) d) (Iv.cl (h * n) d))).hi)), ⟨by simpa using (hJ.1.1.1.2.1), Blk.far (Blk.far ((hJ.1.1.1.2.2)) (p := ⟨w.heap.size + 1, 0, none⟩) (by first | (simp; done) | (simp; omega) | omega) (.int .i64 ((Iv.rs (min (Iv.fl (l * n) d) (Iv.fl (h * n) d)) (max (Iv.cl (l * n) d) (Iv.cl (h * n) d))).lo))) (p := ⟨w.heap.size + 1, 1, none⟩) (by first | (simp; done) | (simp; omega) | omega) (.int .i64 ((Iv.rs (min (Iv.fl (l * n) d) (Iv.fl (h * n) d)) (max (Iv.cl (l * n) d) (Iv.cl (h * n) d))).hi))⟩⟩, ⟨⟨by simpa using (hJ.1.1.2.1.1), fun n => absurd (.inl rfl) n⟩, ⟨fun _ => by simpa using Blk.set_ (Blk.set_ (((hJ.1.1.2.1.2) hn)) 0 (.int .i64 ((Iv.rs (min (Iv.fl (l * n) d) (Iv.fl (h * n) d)) (max (Iv.cl (l * n) d) (Iv.cl (h * n) d))).lo))) 1 (.int .i64 ((Iv.rs (min (Iv.fl (l * n) d) (Iv.fl (h * n) d)) (max (Iv.cl (l * n) d) (Iv.cl (h * n) d))).hi)), fun q => ⟨((hJ.1.1.2.2.2) (rl q)).1, by have := ((hJ.1.1.2.2.2) (rl q)).2.1; simpa using this, ((hJ.1.1.2.2.2) (rl q)).2.2⟩⟩⟩⟩, ⟨⟨fun q => Blk.far (Blk.far ((hJ.1.2.1.1) (rl q)) (p := ⟨w.heap.size + 1, 0, none⟩) (Ne.symm ((hJ.1.1.2.2.2) (rl q)).2.2.2) (.int .i64 ((Iv.rs (min (Iv.fl (l * n) d) (Iv.fl (h * n) d)) (max (Iv.cl (l * n) d) (Iv.cl (h * n) d))).lo))) (p := ⟨w.heap.size + 1, 1, none⟩) (Ne.symm ((hJ.1.1.2.2.2) (rl q)).2.2.2) (.int .i64 ((Iv.rs (min (Iv.fl (l * n) d) (Iv.fl (h * n) d)) (max (Iv.cl (l * n) d) (Iv.cl (h * n) d))).hi)), ⟨fun q => ⟨((hJ.1.2.1.2.1) (rl q)).1, by have := ((hJ.1.2.1.2.1) (rl q)).2.1; simpa using this, ((hJ.1.2.1.2.1) (rl q)).2.2⟩, fun q => Blk.far (Blk.far ((hJ.1.2.1.2.2) (rl q)) (p := ⟨w.heap.size + 1, 0, none⟩) (Ne.symm ((hJ.1.2.1.2.1) (rl q)).2.2.2) (.int .i64 ((Iv.rs (min (Iv.fl (l * n) d) (Iv.fl (h * n) d)) (max (Iv.cl (l * n) d) (Iv.cl (h * n) d))).lo))) (p := ⟨w.heap.size + 1, 1, none⟩) (Ne.symm ((hJ.1.2.1.2.1) (rl q)).2.2.2) (.int .i64 ((Iv.rs (min (Iv.fl (l * n) d) (Iv.fl (h * n) d)) (max (Iv.cl (l * n) d) (Iv.cl (h * n) d))).hi))⟩⟩, ⟨⟨fun q r => (hJ.1.2.2.1.1) (rl q) (rl r), fun q => (hJ.1.2.2.1.2) (rl q)⟩, ⟨fun q => (hJ.1.2.2.2.1) (rl q), fun q => (hJ.1.2.2.2.2) (rl q)⟩⟩⟩⟩, ⟨⟨⟨fun q => (hJ.2.1.1.1) (rl q), ⟨fun q => (hJ.2.1.1.2.1) (rl q), fun q => (hJ.2.1.1.2.2) (rl q)⟩⟩, ⟨⟨fun q => (hJ.2.1.2.1.1) (rl q), fun q => (hJ.2.1.2.1.2) (rl q)⟩, ⟨fun q => (hJ.2.1.2.2.1) (rl q), fun q => (hJ.2.1.2.2.2) (rl q)⟩⟩⟩, ⟨⟨⟨fun q => (hJ.2.2.1.1.1) (rl q), fun q => (hJ.2.2.1.1.2) (rl q)⟩, ⟨fun q => (hJ.2.2.1.2.1) (rl q), fun q => (hJ.2.2.1.2.2) (rl q)⟩⟩, ⟨⟨fun q => (hJ.2.2.2.1.1) (rl q), fun _ => by first | exact rfl | exact e15⟩, ⟨fun q => (hJ.2.2.2.2.1) (rl q), fun q => (hJ.2.2.2.2.2) (rl q)⟩⟩⟩⟩⟩
    refine StepsOk.cons (i := 18) rfl (fun L x G w1 K Q hn hp hJ hK => ?_) ?_
    · skip
      have p16 : L 16 := hp ⟨16, .data⟩ (by simp) rfl
      have e16 := (hJ.2.2.2.2.1) p16
      simp only [putAll, Act.put, List.setIfInBounds_toArray, List.set_cons_zero, List.set_cons_succ]
      go_simp
      refine hK _ G _ (by kernel_rfl) ?_
      exact ⟨⟨⟨⟨(hJ.1.1.1.1), ⟨(hJ.1.1.1.2.1), (hJ.1.1.1.2.2)⟩⟩, ⟨⟨(hJ.1.1.2.1.1), fun n => (hJ.1.1.2.1.2) (fun m => n (.inr m))⟩, ⟨fun q => (hJ.1.1.2.2.1) (rl q), fun q => (hJ.1.1.2.2.2) (rl q)⟩⟩⟩, ⟨⟨fun q => (hJ.1.2.1.1) (rl q), ⟨fun q => (hJ.1.2.1.2.1) (rl q), fun q => (hJ.1.2.1.2.2) (rl q)⟩⟩, ⟨⟨fun q r => (hJ.1.2.2.1.1) (rl q) (rl r), fun q => (hJ.1.2.2.1.2) (rl q)⟩, ⟨fun q => (hJ.1.2.2.2.1) (rl q), fun q => (hJ.1.2.2.2.2) (rl q)⟩⟩⟩⟩, ⟨⟨⟨fun q => (hJ.2.1.1.1) (rl q), ⟨fun q => (hJ.2.1.1.2.1) (rl q), fun q => (hJ.2.1.1.2.2) (rl q)⟩⟩, ⟨⟨fun q => (hJ.2.1.2.1.1) (rl q), fun q => (hJ.2.1.2.1.2) (rl q)⟩, ⟨fun q => (hJ.2.1.2.2.1) (rl q), fun q => (hJ.2.1.2.2.2) (rl q)⟩⟩⟩, ⟨⟨⟨fun q => (hJ.2.2.1.1.1) (rl q), fun q => (hJ.2.2.1.1.2) (rl q)⟩, ⟨fun q => (hJ.2.2.1.2.1) (rl q), fun q => (hJ.2.2.1.2.2) (rl q)⟩⟩, ⟨⟨fun q => (hJ.2.2.2.1.1) (rl q), fun q => (hJ.2.2.2.1.2) (rl q)⟩, ⟨fun _ => by first | exact rfl | exact e16, fun _ => rfl⟩⟩⟩⟩⟩
    exact StepsOk.nil
  case fin =>
    intro L x G w2 hall hJ
    replace X := (hJ.1.1.1.2.2)
    replace R := (hJ.1.1.2.2.1) (hall 17 (by decide))
    obtain ⟨haSA, hlSA, hnSAX, hnSAR⟩ := (hJ.1.1.2.2.2) (hall 8 (by decide))
    have SA := (hJ.1.2.1.1) (hall 8 (by decide))
    obtain ⟨haSB, hlSB, hnSBX, hnSBR⟩ := (hJ.1.2.1.2.1) (hall 13 (by decide))
    have SB := (hJ.1.2.1.2.2) (hall 13 (by decide))
    have n_dSBSA := (hJ.1.2.2.1.1) (hall 13 (by decide)) (hall 8 (by decide))
    have u0 := hJ.1.2.2.1.2 (hall 0 (by decide))
    have u1 := hJ.1.2.2.2.1 (hall 1 (by decide))
    have u2 := hJ.1.2.2.2.2 (hall 2 (by decide))
    have u3 := hJ.2.1.1.1 (hall 3 (by decide))
    have u4 := hJ.2.1.1.2.1 (hall 4 (by decide))
    have u5 := hJ.2.1.1.2.2 (hall 5 (by decide))
    have u6 := hJ.2.1.2.1.1 (hall 6 (by decide))
    have u7 := hJ.2.1.2.1.2 (hall 7 (by decide))
    have u8 := hJ.2.1.2.2.1 (hall 8 (by decide))
    have u9 := hJ.2.1.2.2.2 (hall 9 (by decide))
    have u10 := hJ.2.2.1.1.1 (hall 10 (by decide))
    have u11 := hJ.2.2.1.1.2 (hall 11 (by decide))
    have u12 := hJ.2.2.1.2.1 (hall 12 (by decide))
    have u13 := hJ.2.2.1.2.2 (hall 13 (by decide))
    have u14 := hJ.2.2.2.1.1 (hall 14 (by decide))
    have u15 := hJ.2.2.2.1.2 (hall 15 (by decide))
    have u16 := hJ.2.2.2.2.1 (hall 16 (by decide))
    have u18 := hJ.2.2.2.2.2 (hall 18 (by decide))
    replace hB := hJ.1.1.1.1
    simp only [putAll, Act.put, List.setIfInBounds_toArray, List.set_cons_zero, List.set_cons_succ]
    simp only [u0, u1, u2, u3, u4, u5, u6, u7, u8, u9, u10, u11, u12, u13, u14, u15, u16, u18]
    clear hall hJ u0 u1 u2 u3 u4 u5 u6 u7 u8 u9 u10 u11 u12 u13 u14 u15 u16 u18
    generalize G 8 = gSA at *
    generalize G 13 = gSB at *
    obtain ⟨r00, r01, r02, r03⟩ := R.open2
    go_wp2_with fail
    refine bodyPost_ret (by simp [results, Try.results20, go_sem, r00, r01, r02, r03]; try rfl) rfl ?_
    exact ⟨rfl, by repeat (first | exact Below.refl _ _ | (with_reducible assumption) | (with_reducible apply bal) | (with_reducible apply bdr) | (with_reducible apply bdnl) | (with_reducible refine bst ?_ (by first | (simp; done) | (simp; omega) | omega) _) | (with_reducible refine bt ?_ (by with_reducible assumption)))⟩
end Go.Proofs.Ytclohghongpfkaa
