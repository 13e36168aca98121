/-
  The walk of IntervalQuotients.
-/
import Derived.Test.YtclohghongpfkaaI20
namespace Go.Proofs.Ytclohghongpfkaa
set_option linter.unusedVariables false
set_option linter.unusedSimpArgs false
open Go.RowKit

set_option maxRecDepth 100000 in
set_option maxHeartbeats 4000000 in
theorem law_quotients (l h l' h' n0 n1 : Int) (w : World) (a1 : 0 ≤ n0) (a2 : n0 ≤ 18446744073709551615) (b1 : 0 ≤ n1) (b2 : n1 ≤ 18446744073709551615) : Calls Try.prog 11 #[.agg #[.int .i64 l, .int .i64 h], .agg #[.int .i64 l', .int .i64 h'], .agg #[.int .u64 n0, .int .u64 n1]] w fun e w' => e = .returned (.bool true) ∧ Below w.heap.size w w' := by
  rcases Iv.er_quo l h l' h' with c1 | c1 | c1
  · by_cases hl0 : l < 0
    · obtain ⟨v, v2, hz, v3, eq⟩ := Iv.quo_ok c1
      have lo := Iv.le_mn4.1 (Int.le_refl (Iv.mn4 (Iv.fl l l') (Iv.fl l h') (Iv.fl h l') (Iv.fl h h')))
      have hi := Iv.mx4_le.1 (Int.le_refl (Iv.mx4 (Iv.cl l l') (Iv.cl l h') (Iv.cl h l') (Iv.cl h h')))
      obtain ⟨mu, hx⟩ : ∃ u, Hid (Iv.mb l h n0 = u) := ⟨_, Lib.hid rfl⟩
      obtain ⟨mv, hy⟩ : ∃ u, Hid (Iv.mb l' h' n1 = u) := ⟨_, Lib.hid rfl⟩
      have hu := Iv.mb_in (n := n0) v
      have hv := Iv.mb_in (n := n1) v2
      rw [hx.out] at hu
      rw [hy.out] at hv
      have nz : mv ≠ 0 := by omega
      have q1 := Iv.quo_low hu.1 hu.2 hv.1 hv.2 hz lo.1 lo.2.1 lo.2.2.1 lo.2.2.2
      have q2 := Iv.quo_high hu.1 hu.2 hv.1 hv.2 hz hi.1 hi.2.1 hi.2.2.1 hi.2.2.2
      have fb := fl_bd (a := mu) (c := mv) (by unfold Iv.Vd at v; omega) (by unfold Iv.Vd at v; omega) nz
      have cb := cl_bd (a := mu) (c := mv) (by unfold Iv.Vd at v; omega) (by unfold Iv.Vd at v; omega) nz
      have ed := Lib.hid ((Wi.dV_n nz mu (-1)).trans (Wi.rv_yes (show Wi.inW (Wi.dv mu mv (-1)) from by unfold Iv.fl at fb; unfold Wi.inW; omega)))
      have eb := Lib.hid ((Wi.dB_n nz mu (-1)).trans (Wi.okb_yes (show Wi.inW (Wi.dv mu mv (-1)) from by unfold Iv.fl at fb; unfold Wi.inW; omega)))
      have ed2 := Lib.hid ((Wi.dV_n nz mu 1).trans (Wi.rv_yes (show Wi.inW (Wi.dv mu mv 1) from by unfold Iv.cl at cb; unfold Wi.inW; omega)))
      have eb2 := Lib.hid ((Wi.dB_n nz mu 1).trans (Wi.okb_yes (show Wi.inW (Wi.dv mu mv 1) from by unfold Iv.cl at cb; unfold Wi.inW; omega)))
      have e1 := Lib.hid (Iv.vb_yes v)
      have e2 := Lib.hid (Iv.vb_yes v2)
      have e3 := Lib.hid (show Iv.hs l' h' 0 = false from by unfold Iv.hs; rw [Iv.vb_yes v2]; simp; omega)
      have V1 := Lib.hid v
      have V2 := Lib.hid v2
      have x1 : -9223372036854775808 ≤ mu := by unfold Iv.Vd at v; omega
      have x2 : mu ≤ 9223372036854775807 := by unfold Iv.Vd at v; omega
      have y1 : -9223372036854775808 ≤ mv := by unfold Iv.Vd at v2; omega
      have y2 : mv ≤ 9223372036854775807 := by unfold Iv.Vd at v2; omega
      have p1 : -9223372036854775808 ≤ Iv.mn4 (Iv.fl l l') (Iv.fl l h') (Iv.fl h l') (Iv.fl h h') := by unfold Iv.Vd at v3; omega
      have p2 : Iv.mn4 (Iv.fl l l') (Iv.fl l h') (Iv.fl h l') (Iv.fl h h') ≤ 9223372036854775807 := by unfold Iv.Vd at v3; omega
      have p3 : -9223372036854775808 ≤ Iv.mx4 (Iv.cl l l') (Iv.cl l h') (Iv.cl h l') (Iv.cl h h') := by unfold Iv.Vd at v3; omega
      have p4 : Iv.mx4 (Iv.cl l l') (Iv.cl l h') (Iv.cl h l') (Iv.cl h h') ≤ 9223372036854775807 := by unfold Iv.Vd at v3; omega
      have EQ := Lib.hid eq
      clear eq lo hi c1 v3
      generalize Iv.mn4 (Iv.fl l l') (Iv.fl l h') (Iv.fl h l') (Iv.fl h h') = qlo at *
      generalize Iv.mx4 (Iv.cl l l') (Iv.cl l h') (Iv.cl h l') (Iv.cl h h') = qhi at *
      unfold Iv.fl at q1 fb
      unfold Iv.cl at q2 cb
      generalize Wi.dv mu mv (-1) = f at *
      generalize Wi.dv mu mv 1 = cc at *
      obtain ⟨z1, hcm1, dz1, _⟩ := Iv.cm_nl (x := f) (y := qlo) (by omega)
      obtain ⟨z2, hcm2, dz2⟩ := Iv.cm_ng (x := cc) (y := qhi) (by omega)
      replace hcm1 := Lib.hid hcm1
      replace hcm2 := Lib.hid hcm2
      have wu : Wi.Wd (Wi.Hq mu) (Wi.Lr mu) mu := Wi.wd_self (by unfold Wi.inW; omega)
      have wv_ : Wi.Wd (Wi.Hq mv) (Wi.Lr mv) mv := Wi.wd_self (by unfold Wi.inW; omega)
      have wf : Wi.Wd (Wi.Hq f) (Wi.Lr f) f := Wi.wd_self (by unfold Wi.inW; omega)
      have wc : Wi.Wd (Wi.Hq cc) (Wi.Lr cc) cc := Wi.wd_self (by unfold Wi.inW; omega)
      have wl : Wi.Wd (Wi.Hq qlo) (Wi.Lr qlo) qlo := Wi.wd_self (by unfold Wi.inW; omega)
      have wh : Wi.Wd (Wi.Hq qhi) (Wi.Lr qhi) qhi := Wi.wd_self (by unfold Wi.inW; omega)
      have S := Lib.hid (show (Iv.sqrt l h).er = 1 from by unfold Iv.sqrt; rw [if_neg (fun q => by omega)]; rfl)
      clear hz q1 q2 fb cb nz hu hv v v2
      go_enter Try.func11, Try.ntmps11
      have X := Blk.new w 23 #[.int .i64 (l), .int .i64 (h)]
      have hB := ba w (.cells #[.int .i64 (l), .int .i64 (h)] 23)
      have Y := Blk.new1 w (.cells #[.int .i64 (l), .int .i64 (h)] 23) 23 #[.int .i64 (l'), .int .i64 (h')]
      replace X := X.alloc (.cells #[.int .i64 (l'), .int .i64 (h')] 23)
      replace hB := bal hB (.cells #[.int .i64 (l'), .int .i64 (h')] 23)
      have NN := Blk.new2 w (.cells #[.int .i64 (l), .int .i64 (h)] 23) (.cells #[.int .i64 (l'), .int .i64 (h')] 23) 45 #[.int .u64 n0, .int .u64 n1]
      replace X := X.alloc (.cells #[.int .u64 n0, .int .u64 n1] 45)
      replace Y := Y.alloc (.cells #[.int .u64 n0, .int .u64 n1] 45)
      replace hB := bal hB (.cells #[.int .u64 n0, .int .u64 n1] 45)
      go_wp2_with fail
      refine (awake_ci _).mono ?_
      rintro e w1 ⟨rfl, hb⟩
      replace X := X.keep hb
      replace Y := Y.keep hb
      replace NN := NN.keep hb
      replace hB := bt hB hb
      clear hb
      obtain ⟨c00, c01, c02, c03⟩ := X.open2
      obtain ⟨c10, c11, c12, c13⟩ := Y.open2
      go_wp2_with fail
      refine (quo_ci _ _ _ _ _).mono ?_
      rw [EQ.out]
      rintro e w2 ⟨rfl, hb⟩
      clear c00 c01 c02 c03 c10 c11 c12 c13
      replace X := X.keep hb
      replace Y := Y.keep hb
      replace NN := NN.keep hb
      replace hB := bt hB hb
      clear hb
      have hz2 := hB.size
      have l2X := X.lt
      have l2Y := Y.lt
      have l2NN := NN.lt
      replace X := X.alloc (.cells #[.int .i64 qlo, .int .i64 qhi] 23)
      replace Y := Y.alloc (.cells #[.int .i64 qlo, .int .i64 qhi] 23)
      replace NN := NN.alloc (.cells #[.int .i64 qlo, .int .i64 qhi] 23)
      replace hB := bal hB (.cells #[.int .i64 qlo, .int .i64 qhi] 23)
      have Q := Blk.new w2 23 #[.int .i64 qlo, .int .i64 qhi]
      obtain ⟨c00, c01, c02, c03⟩ := X.open2
      go_wp2_with fail
      refine (valid_c _ _ _).mono ?_
      rw [e1.out]
      rintro e w3 ⟨rfl, hb⟩
      clear c00 c01 c02 c03
      replace X := X.keep hb
      replace Y := Y.keep hb
      replace NN := NN.keep hb
      replace Q := Q.keep hb
      replace hB := bt hB hb
      clear hb
      obtain ⟨c00, c01, c02, c03⟩ := Y.open2
      go_wp2_with fail
      refine (valid_c _ _ _).mono ?_
      rw [e2.out]
      rintro e w4 ⟨rfl, hb⟩
      clear c00 c01 c02 c03
      replace X := X.keep hb
      replace Y := Y.keep hb
      replace NN := NN.keep hb
      replace Q := Q.keep hb
      replace hB := bt hB hb
      clear hb
      obtain ⟨c00, c01, c02, c03⟩ := Y.open2
      go_wp2_with fail
      refine (has_c _ _ _ _).mono ?_
      rw [e3.out]
      rintro e w5 ⟨rfl, hb⟩
      clear c00 c01 c02 c03
      replace X := X.keep hb
      replace Y := Y.keep hb
      replace NN := NN.keep hb
      replace Q := Q.keep hb
      replace hB := bt hB hb
      clear hb
      go_wp2_with fail
      refine wp_region_inv (fun L x G wx => Below w.heap.size w wx
            ∧ w.heap.size < wx.heap.size
            ∧ Blk wx (w.heap.size) 23 #[.int .i64 (l), .int .i64 (h)]
            ∧ w.heap.size + 1 < wx.heap.size
            ∧ Blk wx (w.heap.size + 1) 23 #[.int .i64 (l'), .int .i64 (h')]
            ∧ w.heap.size + 1 + 1 < wx.heap.size
            ∧ Blk wx (w.heap.size + 1 + 1) 45 #[.int .u64 n0, .int .u64 n1]
            ∧ w2.heap.size < wx.heap.size
            ∧ Blk wx (w2.heap.size) 23 #[.int .i64 qlo, .int .i64 qhi]
            ∧ (L 10 → w.heap.size ≤ G 10 ∧ G 10 < wx.heap.size ∧ w.heap.size ≠ G 10 ∧ w.heap.size + 1 ≠ G 10 ∧ w.heap.size + 1 + 1 ≠ G 10 ∧ w2.heap.size ≠ G 10)
            ∧ (L 10 → ¬ L 12 → Blk wx (G 10) 40 #[.int .i64 (0), .int .u64 (0)])
            ∧ (L 12 → Blk wx (G 10) 40 #[.int .i64 (Wi.Hq (mu)), .int .u64 (Wi.Lr (mu))])
            ∧ (L 12 → L 10)
            ∧ (L 11 → w.heap.size ≤ G 11 ∧ G 11 < wx.heap.size ∧ w.heap.size ≠ G 11 ∧ w.heap.size + 1 ≠ G 11 ∧ w.heap.size + 1 + 1 ≠ G 11 ∧ w2.heap.size ≠ G 11)
            ∧ (L 11 → ¬ L 13 → Blk wx (G 11) 40 #[.int .i64 (0), .int .u64 (0)])
            ∧ (L 13 → Blk wx (G 11) 40 #[.int .i64 (Wi.Hq (mv)), .int .u64 (Wi.Lr (mv))])
            ∧ (L 13 → L 11)
            ∧ (L 11 → L 10 → G 11 ≠ G 10)
            ∧ (L 0 → x 47 = .agg #[.int .i64 (l), .int .i64 (h)])
            ∧ (L 1 → x 48 = .pointer (some ⟨w.heap.size + 1 + 1, 0, none⟩))
            ∧ (L 2 → x 49 = .int .u64 n0)
            ∧ (L 3 → x 50 = .int .i64 (mu))
            ∧ (L 4 → x 51 = .agg #[.int .i64 (Wi.Hq (mu)), .int .u64 (Wi.Lr (mu))])
            ∧ (L 5 → x 52 = .agg #[.int .i64 (l'), .int .i64 (h')])
            ∧ (L 6 → x 53 = .pointer (some ⟨w.heap.size + 1 + 1, 1, none⟩))
            ∧ (L 7 → x 54 = .int .u64 n1)
            ∧ (L 8 → x 55 = .int .i64 (mv))
            ∧ (L 9 → x 56 = .agg #[.int .i64 (Wi.Hq (mv)), .int .u64 (Wi.Lr (mv))])
            ∧ (L 10 → x 9 = .pointer (some ⟨G 10, 0, none⟩))
            ∧ (L 11 → x 10 = .pointer (some ⟨G 11, 0, none⟩))) [47, 48, 49, 50, 51, 52, 53, 54, 55, 56, 9, 10] 14 (by kernel_rfl) (by kernel_rfl) (by kernel_rfl) ?h0 ?st ?fin
      case h0 =>
        exact ⟨bdr hB, Blk.lt X.drew, X.drew, Blk.lt Y.drew, Y.drew, Blk.lt NN.drew, NN.drew, Blk.lt Q.drew, Q.drew, fun q => q.elim, fun q => q.elim, fun q => q.elim, fun q => q.elim, fun q => q.elim, fun q => q.elim, fun q => q.elim, fun q => q.elim, fun q _ => q.elim, fun q => q.elim, fun q => q.elim, fun q => q.elim, fun q => q.elim, fun q => q.elim, fun q => q.elim, fun q => q.elim, fun q => q.elim, fun q => q.elim, fun q => q.elim, fun q => q.elim, fun q => q.elim⟩
      case st =>
        refine StepsOk.cons (i := 0) rfl (fun L x G w1 K Q hn hp hJ hK => ?_) ?_
        · skip
          have hc := Blk.open2 ((hJ.2.2.1))
          have c0 := hc.1
          have c1 := hc.2.1
          have c2 := hc.2.2.1
          have c3 := hc.2.2.2
          clear hc
          simp only [putAll, Act.put, List.setIfInBounds_toArray, List.set_cons_zero, List.set_cons_succ]
          go_simp
          refine hK _ G _ (by kernel_rfl) ?_
          exact ⟨(hJ.1),
            (hJ.2.1),
            (hJ.2.2.1),
            (hJ.2.2.2.1),
            (hJ.2.2.2.2.1),
            (hJ.2.2.2.2.2.1),
            (hJ.2.2.2.2.2.2.1),
            (hJ.2.2.2.2.2.2.2.1),
            (hJ.2.2.2.2.2.2.2.2.1),
            fun q => (hJ.2.2.2.2.2.2.2.2.2.1) (q.resolve_left (by decide)),
            fun q n => (hJ.2.2.2.2.2.2.2.2.2.2.1) (q.resolve_left (by decide)) (fun m => n (.inr m)),
            fun q => (hJ.2.2.2.2.2.2.2.2.2.2.2.1) (q.resolve_left (by decide)),
            fun q => .inr ((hJ.2.2.2.2.2.2.2.2.2.2.2.2.1) (q.resolve_left (by decide))),
            fun q => (hJ.2.2.2.2.2.2.2.2.2.2.2.2.2.1) (q.resolve_left (by decide)),
            fun q n => (hJ.2.2.2.2.2.2.2.2.2.2.2.2.2.2.1) (q.resolve_left (by decide)) (fun m => n (.inr m)),
            fun q => (hJ.2.2.2.2.2.2.2.2.2.2.2.2.2.2.2.1) (q.resolve_left (by decide)),
            fun q => .inr ((hJ.2.2.2.2.2.2.2.2.2.2.2.2.2.2.2.2.1) (q.resolve_left (by decide))),
            fun q r => (hJ.2.2.2.2.2.2.2.2.2.2.2.2.2.2.2.2.2.1) (q.resolve_left (by decide)) (r.resolve_left (by decide)),
            fun _ => rfl,
            fun q => (hJ.2.2.2.2.2.2.2.2.2.2.2.2.2.2.2.2.2.2.2.1) (q.resolve_left (by decide)),
            fun q => (hJ.2.2.2.2.2.2.2.2.2.2.2.2.2.2.2.2.2.2.2.2.1) (q.resolve_left (by decide)),
            fun q => (hJ.2.2.2.2.2.2.2.2.2.2.2.2.2.2.2.2.2.2.2.2.2.1) (q.resolve_left (by decide)),
            fun q => (hJ.2.2.2.2.2.2.2.2.2.2.2.2.2.2.2.2.2.2.2.2.2.2.1) (q.resolve_left (by decide)),
            fun q => (hJ.2.2.2.2.2.2.2.2.2.2.2.2.2.2.2.2.2.2.2.2.2.2.2.1) (q.resolve_left (by decide)),
            fun q => (hJ.2.2.2.2.2.2.2.2.2.2.2.2.2.2.2.2.2.2.2.2.2.2.2.2.1) (q.resolve_left (by decide)),
            fun q => (hJ.2.2.2.2.2.2.2.2.2.2.2.2.2.2.2.2.2.2.2.2.2.2.2.2.2.1) (q.resolve_left (by decide)),
            fun q => (hJ.2.2.2.2.2.2.2.2.2.2.2.2.2.2.2.2.2.2.2.2.2.2.2.2.2.2.1) (q.resolve_left (by decide)),
            fun q => (hJ.2.2.2.2.2.2.2.2.2.2.2.2.2.2.2.2.2.2.2.2.2.2.2.2.2.2.2.1) (q.resolve_left (by decide)),
            fun q => (hJ.2.2.2.2.2.2.2.2.2.2.2.2.2.2.2.2.2.2.2.2.2.2.2.2.2.2.2.2.1) (q.resolve_left (by decide)),
            fun q => (hJ.2.2.2.2.2.2.2.2.2.2.2.2.2.2.2.2.2.2.2.2.2.2.2.2.2.2.2.2.2) (q.resolve_left (by decide))⟩
        refine StepsOk.cons (i := 1) rfl (fun L x G w1 K Q hn hp hJ hK => ?_) ?_
        · skip
          simp only [putAll, Act.put, List.setIfInBounds_toArray, List.set_cons_zero, List.set_cons_succ]
          go_simp
          refine hK _ G _ (by kernel_rfl) ?_
          exact ⟨(hJ.1),
            (hJ.2.1),
            (hJ.2.2.1),
            (hJ.2.2.2.1),
            (hJ.2.2.2.2.1),
            (hJ.2.2.2.2.2.1),
            (hJ.2.2.2.2.2.2.1),
            (hJ.2.2.2.2.2.2.2.1),
            (hJ.2.2.2.2.2.2.2.2.1),
            fun q => (hJ.2.2.2.2.2.2.2.2.2.1) (q.resolve_left (by decide)),
            fun q n => (hJ.2.2.2.2.2.2.2.2.2.2.1) (q.resolve_left (by decide)) (fun m => n (.inr m)),
            fun q => (hJ.2.2.2.2.2.2.2.2.2.2.2.1) (q.resolve_left (by decide)),
            fun q => .inr ((hJ.2.2.2.2.2.2.2.2.2.2.2.2.1) (q.resolve_left (by decide))),
            fun q => (hJ.2.2.2.2.2.2.2.2.2.2.2.2.2.1) (q.resolve_left (by decide)),
            fun q n => (hJ.2.2.2.2.2.2.2.2.2.2.2.2.2.2.1) (q.resolve_left (by decide)) (fun m => n (.inr m)),
            fun q => (hJ.2.2.2.2.2.2.2.2.2.2.2.2.2.2.2.1) (q.resolve_left (by decide)),
            fun q => .inr ((hJ.2.2.2.2.2.2.2.2.2.2.2.2.2.2.2.2.1) (q.resolve_left (by decide))),
            fun q r => (hJ.2.2.2.2.2.2.2.2.2.2.2.2.2.2.2.2.2.1) (q.resolve_left (by decide)) (r.resolve_left (by decide)),
            fun q => (hJ.2.2.2.2.2.2.2.2.2.2.2.2.2.2.2.2.2.2.1) (q.resolve_left (by decide)),
            fun _ => rfl,
            fun q => (hJ.2.2.2.2.2.2.2.2.2.2.2.2.2.2.2.2.2.2.2.2.1) (q.resolve_left (by decide)),
            fun q => (hJ.2.2.2.2.2.2.2.2.2.2.2.2.2.2.2.2.2.2.2.2.2.1) (q.resolve_left (by decide)),
            fun q => (hJ.2.2.2.2.2.2.2.2.2.2.2.2.2.2.2.2.2.2.2.2.2.2.1) (q.resolve_left (by decide)),
            fun q => (hJ.2.2.2.2.2.2.2.2.2.2.2.2.2.2.2.2.2.2.2.2.2.2.2.1) (q.resolve_left (by decide)),
            fun q => (hJ.2.2.2.2.2.2.2.2.2.2.2.2.2.2.2.2.2.2.2.2.2.2.2.2.1) (q.resolve_left (by decide)),
            fun q => (hJ.2.2.2.2.2.2.2.2.2.2.2.2.2.2.2.2.2.2.2.2.2.2.2.2.2.1) (q.resolve_left (by decide)),
            fun q => (hJ.2.2.2.2.2.2.2.2.2.2.2.2.2.2.2.2.2.2.2.2.2.2.2.2.2.2.1) (q.resolve_left (by decide)),
            fun q => (hJ.2.2.2.2.2.2.2.2.2.2.2.2.2.2.2.2.2.2.2.2.2.2.2.2.2.2.2.1) (q.resolve_left (by decide)),
            fun q => (hJ.2.2.2.2.2.2.2.2.2.2.2.2.2.2.2.2.2.2.2.2.2.2.2.2.2.2.2.2.1) (q.resolve_left (by decide)),
            fun q => (hJ.2.2.2.2.2.2.2.2.2.2.2.2.2.2.2.2.2.2.2.2.2.2.2.2.2.2.2.2.2) (q.resolve_left (by decide))⟩
        refine StepsOk.cons (i := 2) rfl (fun L x G w1 K Q hn hp hJ hK => ?_) ?_
        · skip
          have p1 : L 1 := hp ⟨1, .data⟩ (by simp) rfl
          have e1 := (hJ.2.2.2.2.2.2.2.2.2.2.2.2.2.2.2.2.2.2.2.1) p1
          have hc := Blk.open2 ((hJ.2.2.2.2.2.2.1))
          have c0 := hc.1
          have c1 := hc.2.1
          have c2 := hc.2.2.1
          have c3 := hc.2.2.2
          clear hc
          simp only [putAll, Act.put, List.setIfInBounds_toArray, List.set_cons_zero, List.set_cons_succ]
          go_simp
          refine hK _ G _ (by kernel_rfl) ?_
          exact ⟨(hJ.1),
            (hJ.2.1),
            (hJ.2.2.1),
            (hJ.2.2.2.1),
            (hJ.2.2.2.2.1),
            (hJ.2.2.2.2.2.1),
            (hJ.2.2.2.2.2.2.1),
            (hJ.2.2.2.2.2.2.2.1),
            (hJ.2.2.2.2.2.2.2.2.1),
            fun q => (hJ.2.2.2.2.2.2.2.2.2.1) (q.resolve_left (by decide)),
            fun q n => (hJ.2.2.2.2.2.2.2.2.2.2.1) (q.resolve_left (by decide)) (fun m => n (.inr m)),
            fun q => (hJ.2.2.2.2.2.2.2.2.2.2.2.1) (q.resolve_left (by decide)),
            fun q => .inr ((hJ.2.2.2.2.2.2.2.2.2.2.2.2.1) (q.resolve_left (by decide))),
            fun q => (hJ.2.2.2.2.2.2.2.2.2.2.2.2.2.1) (q.resolve_left (by decide)),
            fun q n => (hJ.2.2.2.2.2.2.2.2.2.2.2.2.2.2.1) (q.resolve_left (by decide)) (fun m => n (.inr m)),
            fun q => (hJ.2.2.2.2.2.2.2.2.2.2.2.2.2.2.2.1) (q.resolve_left (by decide)),
            fun q => .inr ((hJ.2.2.2.2.2.2.2.2.2.2.2.2.2.2.2.2.1) (q.resolve_left (by decide))),
            fun q r => (hJ.2.2.2.2.2.2.2.2.2.2.2.2.2.2.2.2.2.1) (q.resolve_left (by decide)) (r.resolve_left (by decide)),
            fun q => (hJ.2.2.2.2.2.2.2.2.2.2.2.2.2.2.2.2.2.2.1) (q.resolve_left (by decide)),
            fun _ => by first | exact rfl | exact e1,
            fun _ => rfl,
            fun q => (hJ.2.2.2.2.2.2.2.2.2.2.2.2.2.2.2.2.2.2.2.2.2.1) (q.resolve_left (by decide)),
            fun q => (hJ.2.2.2.2.2.2.2.2.2.2.2.2.2.2.2.2.2.2.2.2.2.2.1) (q.resolve_left (by decide)),
            fun q => (hJ.2.2.2.2.2.2.2.2.2.2.2.2.2.2.2.2.2.2.2.2.2.2.2.1) (q.resolve_left (by decide)),
            fun q => (hJ.2.2.2.2.2.2.2.2.2.2.2.2.2.2.2.2.2.2.2.2.2.2.2.2.1) (q.resolve_left (by decide)),
            fun q => (hJ.2.2.2.2.2.2.2.2.2.2.2.2.2.2.2.2.2.2.2.2.2.2.2.2.2.1) (q.resolve_left (by decide)),
            fun q => (hJ.2.2.2.2.2.2.2.2.2.2.2.2.2.2.2.2.2.2.2.2.2.2.2.2.2.2.1) (q.resolve_left (by decide)),
            fun q => (hJ.2.2.2.2.2.2.2.2.2.2.2.2.2.2.2.2.2.2.2.2.2.2.2.2.2.2.2.1) (q.resolve_left (by decide)),
            fun q => (hJ.2.2.2.2.2.2.2.2.2.2.2.2.2.2.2.2.2.2.2.2.2.2.2.2.2.2.2.2.1) (q.resolve_left (by decide)),
            fun q => (hJ.2.2.2.2.2.2.2.2.2.2.2.2.2.2.2.2.2.2.2.2.2.2.2.2.2.2.2.2.2) (q.resolve_left (by decide))⟩
        refine StepsOk.cons (i := 3) rfl (fun L x G w1 K Q hn hp hJ hK => ?_) ?_
        · skip
          have p0 : L 0 := hp ⟨0, .data⟩ (by simp) rfl
          have e0 := (hJ.2.2.2.2.2.2.2.2.2.2.2.2.2.2.2.2.2.2.1) p0
          have p2 : L 2 := hp ⟨2, .data⟩ (by simp) rfl
          have e2 := (hJ.2.2.2.2.2.2.2.2.2.2.2.2.2.2.2.2.2.2.2.2.1) p2
          simp only [putAll, Act.put, List.setIfInBounds_toArray, List.set_cons_zero, List.set_cons_succ]
          go_simp
          refine (member_c _ _ _ _ V1.out a1 a2).mono ?_
          rw [hx.out]
          rintro e w2 ⟨rfl, hb⟩
          have hz := hb.size
          try go_simp
          refine hK _ G _ (by kernel_rfl) ?_
          exact ⟨bt (hJ.1) hb,
            Nat.lt_of_lt_of_le (hJ.2.1) hb.size,
            Blk.keep ((hJ.2.2.1)) hb,
            Nat.lt_of_lt_of_le (hJ.2.2.2.1) hb.size,
            Blk.keep ((hJ.2.2.2.2.1)) hb,
            Nat.lt_of_lt_of_le (hJ.2.2.2.2.2.1) hb.size,
            Blk.keep ((hJ.2.2.2.2.2.2.1)) hb,
            Nat.lt_of_lt_of_le (hJ.2.2.2.2.2.2.2.1) hb.size,
            Blk.keep ((hJ.2.2.2.2.2.2.2.2.1)) hb,
            fun q => ⟨((hJ.2.2.2.2.2.2.2.2.2.1) (q.resolve_left (by decide))).1, by have := ((hJ.2.2.2.2.2.2.2.2.2.1) (q.resolve_left (by decide))).2.1; omega, ((hJ.2.2.2.2.2.2.2.2.2.1) (q.resolve_left (by decide))).2.2⟩,
            fun q n => Blk.keep ((hJ.2.2.2.2.2.2.2.2.2.2.1) (q.resolve_left (by decide)) (fun m => n (.inr m))) hb,
            fun q => Blk.keep ((hJ.2.2.2.2.2.2.2.2.2.2.2.1) (q.resolve_left (by decide))) hb,
            fun q => .inr ((hJ.2.2.2.2.2.2.2.2.2.2.2.2.1) (q.resolve_left (by decide))),
            fun q => ⟨((hJ.2.2.2.2.2.2.2.2.2.2.2.2.2.1) (q.resolve_left (by decide))).1, by have := ((hJ.2.2.2.2.2.2.2.2.2.2.2.2.2.1) (q.resolve_left (by decide))).2.1; omega, ((hJ.2.2.2.2.2.2.2.2.2.2.2.2.2.1) (q.resolve_left (by decide))).2.2⟩,
            fun q n => Blk.keep ((hJ.2.2.2.2.2.2.2.2.2.2.2.2.2.2.1) (q.resolve_left (by decide)) (fun m => n (.inr m))) hb,
            fun q => Blk.keep ((hJ.2.2.2.2.2.2.2.2.2.2.2.2.2.2.2.1) (q.resolve_left (by decide))) hb,
            fun q => .inr ((hJ.2.2.2.2.2.2.2.2.2.2.2.2.2.2.2.2.1) (q.resolve_left (by decide))),
            fun q r => (hJ.2.2.2.2.2.2.2.2.2.2.2.2.2.2.2.2.2.1) (q.resolve_left (by decide)) (r.resolve_left (by decide)),
            fun _ => by first | exact rfl | exact e0,
            fun q => (hJ.2.2.2.2.2.2.2.2.2.2.2.2.2.2.2.2.2.2.2.1) (q.resolve_left (by decide)),
            fun _ => by first | exact rfl | exact e2,
            fun _ => rfl,
            fun q => (hJ.2.2.2.2.2.2.2.2.2.2.2.2.2.2.2.2.2.2.2.2.2.2.1) (q.resolve_left (by decide)),
            fun q => (hJ.2.2.2.2.2.2.2.2.2.2.2.2.2.2.2.2.2.2.2.2.2.2.2.1) (q.resolve_left (by decide)),
            fun q => (hJ.2.2.2.2.2.2.2.2.2.2.2.2.2.2.2.2.2.2.2.2.2.2.2.2.1) (q.resolve_left (by decide)),
            fun q => (hJ.2.2.2.2.2.2.2.2.2.2.2.2.2.2.2.2.2.2.2.2.2.2.2.2.2.1) (q.resolve_left (by decide)),
            fun q => (hJ.2.2.2.2.2.2.2.2.2.2.2.2.2.2.2.2.2.2.2.2.2.2.2.2.2.2.1) (q.resolve_left (by decide)),
            fun q => (hJ.2.2.2.2.2.2.2.2.2.2.2.2.2.2.2.2.2.2.2.2.2.2.2.2.2.2.2.1) (q.resolve_left (by decide)),
            fun q => (hJ.2.2.2.2.2.2.2.2.2.2.2.2.2.2.2.2.2.2.2.2.2.2.2.2.2.2.2.2.1) (q.resolve_left (by decide)),
            fun q => (hJ.2.2.2.2.2.2.2.2.2.2.2.2.2.2.2.2.2.2.2.2.2.2.2.2.2.2.2.2.2) (q.resolve_left (by decide))⟩
        refine StepsOk.cons (i := 4) rfl (fun L x G w1 K Q hn hp hJ hK => ?_) ?_
        · skip
          have p3 : L 3 := hp ⟨3, .data⟩ (by simp) rfl
          have e3 := (hJ.2.2.2.2.2.2.2.2.2.2.2.2.2.2.2.2.2.2.2.2.2.1) p3
          simp only [putAll, Act.put, List.setIfInBounds_toArray, List.set_cons_zero, List.set_cons_succ]
          go_simp
          refine (of_c _ _ x1 x2).mono ?_
          rintro e w2 ⟨rfl, hb⟩
          have hz := hb.size
          try go_simp
          refine hK _ G _ (by kernel_rfl) ?_
          exact ⟨bt (hJ.1) hb,
            Nat.lt_of_lt_of_le (hJ.2.1) hb.size,
            Blk.keep ((hJ.2.2.1)) hb,
            Nat.lt_of_lt_of_le (hJ.2.2.2.1) hb.size,
            Blk.keep ((hJ.2.2.2.2.1)) hb,
            Nat.lt_of_lt_of_le (hJ.2.2.2.2.2.1) hb.size,
            Blk.keep ((hJ.2.2.2.2.2.2.1)) hb,
            Nat.lt_of_lt_of_le (hJ.2.2.2.2.2.2.2.1) hb.size,
            Blk.keep ((hJ.2.2.2.2.2.2.2.2.1)) hb,
            fun q => ⟨((hJ.2.2.2.2.2.2.2.2.2.1) (q.resolve_left (by decide))).1, by have := ((hJ.2.2.2.2.2.2.2.2.2.1) (q.resolve_left (by decide))).2.1; omega, ((hJ.2.2.2.2.2.2.2.2.2.1) (q.resolve_left (by decide))).2.2⟩,
            fun q n => Blk.keep ((hJ.2.2.2.2.2.2.2.2.2.2.1) (q.resolve_left (by decide)) (fun m => n (.inr m))) hb,
            fun q => Blk.keep ((hJ.2.2.2.2.2.2.2.2.2.2.2.1) (q.resolve_left (by decide))) hb,
            fun q => .inr ((hJ.2.2.2.2.2.2.2.2.2.2.2.2.1) (q.resolve_left (by decide))),
            fun q => ⟨((hJ.2.2.2.2.2.2.2.2.2.2.2.2.2.1) (q.resolve_left (by decide))).1, by have := ((hJ.2.2.2.2.2.2.2.2.2.2.2.2.2.1) (q.resolve_left (by decide))).2.1; omega, ((hJ.2.2.2.2.2.2.2.2.2.2.2.2.2.1) (q.resolve_left (by decide))).2.2⟩,
            fun q n => Blk.keep ((hJ.2.2.2.2.2.2.2.2.2.2.2.2.2.2.1) (q.resolve_left (by decide)) (fun m => n (.inr m))) hb,
            fun q => Blk.keep ((hJ.2.2.2.2.2.2.2.2.2.2.2.2.2.2.2.1) (q.resolve_left (by decide))) hb,
            fun q => .inr ((hJ.2.2.2.2.2.2.2.2.2.2.2.2.2.2.2.2.1) (q.resolve_left (by decide))),
            fun q r => (hJ.2.2.2.2.2.2.2.2.2.2.2.2.2.2.2.2.2.1) (q.resolve_left (by decide)) (r.resolve_left (by decide)),
            fun q => (hJ.2.2.2.2.2.2.2.2.2.2.2.2.2.2.2.2.2.2.1) (q.resolve_left (by decide)),
            fun q => (hJ.2.2.2.2.2.2.2.2.2.2.2.2.2.2.2.2.2.2.2.1) (q.resolve_left (by decide)),
            fun q => (hJ.2.2.2.2.2.2.2.2.2.2.2.2.2.2.2.2.2.2.2.2.1) (q.resolve_left (by decide)),
            fun _ => by first | exact rfl | exact e3,
            fun _ => rfl,
            fun q => (hJ.2.2.2.2.2.2.2.2.2.2.2.2.2.2.2.2.2.2.2.2.2.2.2.1) (q.resolve_left (by decide)),
            fun q => (hJ.2.2.2.2.2.2.2.2.2.2.2.2.2.2.2.2.2.2.2.2.2.2.2.2.1) (q.resolve_left (by decide)),
            fun q => (hJ.2.2.2.2.2.2.2.2.2.2.2.2.2.2.2.2.2.2.2.2.2.2.2.2.2.1) (q.resolve_left (by decide)),
            fun q => (hJ.2.2.2.2.2.2.2.2.2.2.2.2.2.2.2.2.2.2.2.2.2.2.2.2.2.2.1) (q.resolve_left (by decide)),
            fun q => (hJ.2.2.2.2.2.2.2.2.2.2.2.2.2.2.2.2.2.2.2.2.2.2.2.2.2.2.2.1) (q.resolve_left (by decide)),
            fun q => (hJ.2.2.2.2.2.2.2.2.2.2.2.2.2.2.2.2.2.2.2.2.2.2.2.2.2.2.2.2.1) (q.resolve_left (by decide)),
            fun q => (hJ.2.2.2.2.2.2.2.2.2.2.2.2.2.2.2.2.2.2.2.2.2.2.2.2.2.2.2.2.2) (q.resolve_left (by decide))⟩
        refine StepsOk.cons (i := 5) rfl (fun L x G w1 K Q hn hp hJ hK => ?_) ?_
        · skip
          have hc := Blk.open2 ((hJ.2.2.2.2.1))
          have c0 := hc.1
          have c1 := hc.2.1
          have c2 := hc.2.2.1
          have c3 := hc.2.2.2
          clear hc
          simp only [putAll, Act.put, List.setIfInBounds_toArray, List.set_cons_zero, List.set_cons_succ]
          go_simp
          refine hK _ G _ (by kernel_rfl) ?_
          exact ⟨(hJ.1),
            (hJ.2.1),
            (hJ.2.2.1),
            (hJ.2.2.2.1),
            (hJ.2.2.2.2.1),
            (hJ.2.2.2.2.2.1),
            (hJ.2.2.2.2.2.2.1),
            (hJ.2.2.2.2.2.2.2.1),
            (hJ.2.2.2.2.2.2.2.2.1),
            fun q => (hJ.2.2.2.2.2.2.2.2.2.1) (q.resolve_left (by decide)),
            fun q n => (hJ.2.2.2.2.2.2.2.2.2.2.1) (q.resolve_left (by decide)) (fun m => n (.inr m)),
            fun q => (hJ.2.2.2.2.2.2.2.2.2.2.2.1) (q.resolve_left (by decide)),
            fun q => .inr ((hJ.2.2.2.2.2.2.2.2.2.2.2.2.1) (q.resolve_left (by decide))),
            fun q => (hJ.2.2.2.2.2.2.2.2.2.2.2.2.2.1) (q.resolve_left (by decide)),
            fun q n => (hJ.2.2.2.2.2.2.2.2.2.2.2.2.2.2.1) (q.resolve_left (by decide)) (fun m => n (.inr m)),
            fun q => (hJ.2.2.2.2.2.2.2.2.2.2.2.2.2.2.2.1) (q.resolve_left (by decide)),
            fun q => .inr ((hJ.2.2.2.2.2.2.2.2.2.2.2.2.2.2.2.2.1) (q.resolve_left (by decide))),
            fun q r => (hJ.2.2.2.2.2.2.2.2.2.2.2.2.2.2.2.2.2.1) (q.resolve_left (by decide)) (r.resolve_left (by decide)),
            fun q => (hJ.2.2.2.2.2.2.2.2.2.2.2.2.2.2.2.2.2.2.1) (q.resolve_left (by decide)),
            fun q => (hJ.2.2.2.2.2.2.2.2.2.2.2.2.2.2.2.2.2.2.2.1) (q.resolve_left (by decide)),
            fun q => (hJ.2.2.2.2.2.2.2.2.2.2.2.2.2.2.2.2.2.2.2.2.1) (q.resolve_left (by decide)),
            fun q => (hJ.2.2.2.2.2.2.2.2.2.2.2.2.2.2.2.2.2.2.2.2.2.1) (q.resolve_left (by decide)),
            fun q => (hJ.2.2.2.2.2.2.2.2.2.2.2.2.2.2.2.2.2.2.2.2.2.2.1) (q.resolve_left (by decide)),
            fun _ => rfl,
            fun q => (hJ.2.2.2.2.2.2.2.2.2.2.2.2.2.2.2.2.2.2.2.2.2.2.2.2.1) (q.resolve_left (by decide)),
            fun q => (hJ.2.2.2.2.2.2.2.2.2.2.2.2.2.2.2.2.2.2.2.2.2.2.2.2.2.1) (q.resolve_left (by decide)),
            fun q => (hJ.2.2.2.2.2.2.2.2.2.2.2.2.2.2.2.2.2.2.2.2.2.2.2.2.2.2.1) (q.resolve_left (by decide)),
            fun q => (hJ.2.2.2.2.2.2.2.2.2.2.2.2.2.2.2.2.2.2.2.2.2.2.2.2.2.2.2.1) (q.resolve_left (by decide)),
            fun q => (hJ.2.2.2.2.2.2.2.2.2.2.2.2.2.2.2.2.2.2.2.2.2.2.2.2.2.2.2.2.1) (q.resolve_left (by decide)),
            fun q => (hJ.2.2.2.2.2.2.2.2.2.2.2.2.2.2.2.2.2.2.2.2.2.2.2.2.2.2.2.2.2) (q.resolve_left (by decide))⟩
        refine StepsOk.cons (i := 6) rfl (fun L x G w1 K Q hn hp hJ hK => ?_) ?_
        · skip
          simp only [putAll, Act.put, List.setIfInBounds_toArray, List.set_cons_zero, List.set_cons_succ]
          go_simp
          refine hK _ G _ (by kernel_rfl) ?_
          exact ⟨(hJ.1),
            (hJ.2.1),
            (hJ.2.2.1),
            (hJ.2.2.2.1),
            (hJ.2.2.2.2.1),
            (hJ.2.2.2.2.2.1),
            (hJ.2.2.2.2.2.2.1),
            (hJ.2.2.2.2.2.2.2.1),
            (hJ.2.2.2.2.2.2.2.2.1),
            fun q => (hJ.2.2.2.2.2.2.2.2.2.1) (q.resolve_left (by decide)),
            fun q n => (hJ.2.2.2.2.2.2.2.2.2.2.1) (q.resolve_left (by decide)) (fun m => n (.inr m)),
            fun q => (hJ.2.2.2.2.2.2.2.2.2.2.2.1) (q.resolve_left (by decide)),
            fun q => .inr ((hJ.2.2.2.2.2.2.2.2.2.2.2.2.1) (q.resolve_left (by decide))),
            fun q => (hJ.2.2.2.2.2.2.2.2.2.2.2.2.2.1) (q.resolve_left (by decide)),
            fun q n => (hJ.2.2.2.2.2.2.2.2.2.2.2.2.2.2.1) (q.resolve_left (by decide)) (fun m => n (.inr m)),
            fun q => (hJ.2.2.2.2.2.2.2.2.2.2.2.2.2.2.2.1) (q.resolve_left (by decide)),
            fun q => .inr ((hJ.2.2.2.2.2.2.2.2.2.2.2.2.2.2.2.2.1) (q.resolve_left (by decide))),
            fun q r => (hJ.2.2.2.2.2.2.2.2.2.2.2.2.2.2.2.2.2.1) (q.resolve_left (by decide)) (r.resolve_left (by decide)),
            fun q => (hJ.2.2.2.2.2.2.2.2.2.2.2.2.2.2.2.2.2.2.1) (q.resolve_left (by decide)),
            fun q => (hJ.2.2.2.2.2.2.2.2.2.2.2.2.2.2.2.2.2.2.2.1) (q.resolve_left (by decide)),
            fun q => (hJ.2.2.2.2.2.2.2.2.2.2.2.2.2.2.2.2.2.2.2.2.1) (q.resolve_left (by decide)),
            fun q => (hJ.2.2.2.2.2.2.2.2.2.2.2.2.2.2.2.2.2.2.2.2.2.1) (q.resolve_left (by decide)),
            fun q => (hJ.2.2.2.2.2.2.2.2.2.2.2.2.2.2.2.2.2.2.2.2.2.2.1) (q.resolve_left (by decide)),
            fun q => (hJ.2.2.2.2.2.2.2.2.2.2.2.2.2.2.2.2.2.2.2.2.2.2.2.1) (q.resolve_left (by decide)),
            fun _ => rfl,
            fun q => (hJ.2.2.2.2.2.2.2.2.2.2.2.2.2.2.2.2.2.2.2.2.2.2.2.2.2.1) (q.resolve_left (by decide)),
            fun q => (hJ.2.2.2.2.2.2.2.2.2.2.2.2.2.2.2.2.2.2.2.2.2.2.2.2.2.2.1) (q.resolve_left (by decide)),
            fun q => (hJ.2.2.2.2.2.2.2.2.2.2.2.2.2.2.2.2.2.2.2.2.2.2.2.2.2.2.2.1) (q.resolve_left (by decide)),
            fun q => (hJ.2.2.2.2.2.2.2.2.2.2.2.2.2.2.2.2.2.2.2.2.2.2.2.2.2.2.2.2.1) (q.resolve_left (by decide)),
            fun q => (hJ.2.2.2.2.2.2.2.2.2.2.2.2.2.2.2.2.2.2.2.2.2.2.2.2.2.2.2.2.2) (q.resolve_left (by decide))⟩
        refine StepsOk.cons (i := 7) rfl (fun L x G w1 K Q hn hp hJ hK => ?_) ?_
        · skip
          have p6 : L 6 := hp ⟨6, .data⟩ (by simp) rfl
          have e6 := (hJ.2.2.2.2.2.2.2.2.2.2.2.2.2.2.2.2.2.2.2.2.2.2.2.2.1) p6
          have hc := Blk.open2 ((hJ.2.2.2.2.2.2.1))
          have c0 := hc.1
          have c1 := hc.2.1
          have c2 := hc.2.2.1
          have c3 := hc.2.2.2
          clear hc
          simp only [putAll, Act.put, List.setIfInBounds_toArray, List.set_cons_zero, List.set_cons_succ]
          go_simp
          refine hK _ G _ (by kernel_rfl) ?_
          exact ⟨(hJ.1),
            (hJ.2.1),
            (hJ.2.2.1),
            (hJ.2.2.2.1),
            (hJ.2.2.2.2.1),
            (hJ.2.2.2.2.2.1),
            (hJ.2.2.2.2.2.2.1),
            (hJ.2.2.2.2.2.2.2.1),
            (hJ.2.2.2.2.2.2.2.2.1),
            fun q => (hJ.2.2.2.2.2.2.2.2.2.1) (q.resolve_left (by decide)),
            fun q n => (hJ.2.2.2.2.2.2.2.2.2.2.1) (q.resolve_left (by decide)) (fun m => n (.inr m)),
            fun q => (hJ.2.2.2.2.2.2.2.2.2.2.2.1) (q.resolve_left (by decide)),
            fun q => .inr ((hJ.2.2.2.2.2.2.2.2.2.2.2.2.1) (q.resolve_left (by decide))),
            fun q => (hJ.2.2.2.2.2.2.2.2.2.2.2.2.2.1) (q.resolve_left (by decide)),
            fun q n => (hJ.2.2.2.2.2.2.2.2.2.2.2.2.2.2.1) (q.resolve_left (by decide)) (fun m => n (.inr m)),
            fun q => (hJ.2.2.2.2.2.2.2.2.2.2.2.2.2.2.2.1) (q.resolve_left (by decide)),
            fun q => .inr ((hJ.2.2.2.2.2.2.2.2.2.2.2.2.2.2.2.2.1) (q.resolve_left (by decide))),
            fun q r => (hJ.2.2.2.2.2.2.2.2.2.2.2.2.2.2.2.2.2.1) (q.resolve_left (by decide)) (r.resolve_left (by decide)),
            fun q => (hJ.2.2.2.2.2.2.2.2.2.2.2.2.2.2.2.2.2.2.1) (q.resolve_left (by decide)),
            fun q => (hJ.2.2.2.2.2.2.2.2.2.2.2.2.2.2.2.2.2.2.2.1) (q.resolve_left (by decide)),
            fun q => (hJ.2.2.2.2.2.2.2.2.2.2.2.2.2.2.2.2.2.2.2.2.1) (q.resolve_left (by decide)),
            fun q => (hJ.2.2.2.2.2.2.2.2.2.2.2.2.2.2.2.2.2.2.2.2.2.1) (q.resolve_left (by decide)),
            fun q => (hJ.2.2.2.2.2.2.2.2.2.2.2.2.2.2.2.2.2.2.2.2.2.2.1) (q.resolve_left (by decide)),
            fun q => (hJ.2.2.2.2.2.2.2.2.2.2.2.2.2.2.2.2.2.2.2.2.2.2.2.1) (q.resolve_left (by decide)),
            fun _ => by first | exact rfl | exact e6,
            fun _ => rfl,
            fun q => (hJ.2.2.2.2.2.2.2.2.2.2.2.2.2.2.2.2.2.2.2.2.2.2.2.2.2.2.1) (q.resolve_left (by decide)),
            fun q => (hJ.2.2.2.2.2.2.2.2.2.2.2.2.2.2.2.2.2.2.2.2.2.2.2.2.2.2.2.1) (q.resolve_left (by decide)),
            fun q => (hJ.2.2.2.2.2.2.2.2.2.2.2.2.2.2.2.2.2.2.2.2.2.2.2.2.2.2.2.2.1) (q.resolve_left (by decide)),
            fun q => (hJ.2.2.2.2.2.2.2.2.2.2.2.2.2.2.2.2.2.2.2.2.2.2.2.2.2.2.2.2.2) (q.resolve_left (by decide))⟩
        refine StepsOk.cons (i := 8) rfl (fun L x G w1 K Q hn hp hJ hK => ?_) ?_
        · skip
          have p5 : L 5 := hp ⟨5, .data⟩ (by simp) rfl
          have e5 := (hJ.2.2.2.2.2.2.2.2.2.2.2.2.2.2.2.2.2.2.2.2.2.2.2.1) p5
          have p7 : L 7 := hp ⟨7, .data⟩ (by simp) rfl
          have e7 := (hJ.2.2.2.2.2.2.2.2.2.2.2.2.2.2.2.2.2.2.2.2.2.2.2.2.2.1) p7
          simp only [putAll, Act.put, List.setIfInBounds_toArray, List.set_cons_zero, List.set_cons_succ]
          go_simp
          refine (member_c _ _ _ _ V2.out b1 b2).mono ?_
          rw [hy.out]
          rintro e w2 ⟨rfl, hb⟩
          have hz := hb.size
          try go_simp
          refine hK _ G _ (by kernel_rfl) ?_
          exact ⟨bt (hJ.1) hb,
            Nat.lt_of_lt_of_le (hJ.2.1) hb.size,
            Blk.keep ((hJ.2.2.1)) hb,
            Nat.lt_of_lt_of_le (hJ.2.2.2.1) hb.size,
            Blk.keep ((hJ.2.2.2.2.1)) hb,
            Nat.lt_of_lt_of_le (hJ.2.2.2.2.2.1) hb.size,
            Blk.keep ((hJ.2.2.2.2.2.2.1)) hb,
            Nat.lt_of_lt_of_le (hJ.2.2.2.2.2.2.2.1) hb.size,
            Blk.keep ((hJ.2.2.2.2.2.2.2.2.1)) hb,
            fun q => ⟨((hJ.2.2.2.2.2.2.2.2.2.1) (q.resolve_left (by decide))).1, by have := ((hJ.2.2.2.2.2.2.2.2.2.1) (q.resolve_left (by decide))).2.1; omega, ((hJ.2.2.2.2.2.2.2.2.2.1) (q.resolve_left (by decide))).2.2⟩,
            fun q n => Blk.keep ((hJ.2.2.2.2.2.2.2.2.2.2.1) (q.resolve_left (by decide)) (fun m => n (.inr m))) hb,
            fun q => Blk.keep ((hJ.2.2.2.2.2.2.2.2.2.2.2.1) (q.resolve_left (by decide))) hb,
            fun q => .inr ((hJ.2.2.2.2.2.2.2.2.2.2.2.2.1) (q.resolve_left (by decide))),
            fun q => ⟨((hJ.2.2.2.2.2.2.2.2.2.2.2.2.2.1) (q.resolve_left (by decide))).1, by have := ((hJ.2.2.2.2.2.2.2.2.2.2.2.2.2.1) (q.resolve_left (by decide))).2.1; omega, ((hJ.2.2.2.2.2.2.2.2.2.2.2.2.2.1) (q.resolve_left (by decide))).2.2⟩,
            fun q n => Blk.keep ((hJ.2.2.2.2.2.2.2.2.2.2.2.2.2.2.1) (q.resolve_left (by decide)) (fun m => n (.inr m))) hb,
            fun q => Blk.keep ((hJ.2.2.2.2.2.2.2.2.2.2.2.2.2.2.2.1) (q.resolve_left (by decide))) hb,
            fun q => .inr ((hJ.2.2.2.2.2.2.2.2.2.2.2.2.2.2.2.2.1) (q.resolve_left (by decide))),
            fun q r => (hJ.2.2.2.2.2.2.2.2.2.2.2.2.2.2.2.2.2.1) (q.resolve_left (by decide)) (r.resolve_left (by decide)),
            fun q => (hJ.2.2.2.2.2.2.2.2.2.2.2.2.2.2.2.2.2.2.1) (q.resolve_left (by decide)),
            fun q => (hJ.2.2.2.2.2.2.2.2.2.2.2.2.2.2.2.2.2.2.2.1) (q.resolve_left (by decide)),
            fun q => (hJ.2.2.2.2.2.2.2.2.2.2.2.2.2.2.2.2.2.2.2.2.1) (q.resolve_left (by decide)),
            fun q => (hJ.2.2.2.2.2.2.2.2.2.2.2.2.2.2.2.2.2.2.2.2.2.1) (q.resolve_left (by decide)),
            fun q => (hJ.2.2.2.2.2.2.2.2.2.2.2.2.2.2.2.2.2.2.2.2.2.2.1) (q.resolve_left (by decide)),
            fun _ => by first | exact rfl | exact e5,
            fun q => (hJ.2.2.2.2.2.2.2.2.2.2.2.2.2.2.2.2.2.2.2.2.2.2.2.2.1) (q.resolve_left (by decide)),
            fun _ => by first | exact rfl | exact e7,
            fun _ => rfl,
            fun q => (hJ.2.2.2.2.2.2.2.2.2.2.2.2.2.2.2.2.2.2.2.2.2.2.2.2.2.2.2.1) (q.resolve_left (by decide)),
            fun q => (hJ.2.2.2.2.2.2.2.2.2.2.2.2.2.2.2.2.2.2.2.2.2.2.2.2.2.2.2.2.1) (q.resolve_left (by decide)),
            fun q => (hJ.2.2.2.2.2.2.2.2.2.2.2.2.2.2.2.2.2.2.2.2.2.2.2.2.2.2.2.2.2) (q.resolve_left (by decide))⟩
        refine StepsOk.cons (i := 9) rfl (fun L x G w1 K Q hn hp hJ hK => ?_) ?_
        · skip
          have p8 : L 8 := hp ⟨8, .data⟩ (by simp) rfl
          have e8 := (hJ.2.2.2.2.2.2.2.2.2.2.2.2.2.2.2.2.2.2.2.2.2.2.2.2.2.2.1) p8
          simp only [putAll, Act.put, List.setIfInBounds_toArray, List.set_cons_zero, List.set_cons_succ]
          go_simp
          refine (of_c _ _ y1 y2).mono ?_
          rintro e w2 ⟨rfl, hb⟩
          have hz := hb.size
          try go_simp
          refine hK _ G _ (by kernel_rfl) ?_
          exact ⟨bt (hJ.1) hb,
            Nat.lt_of_lt_of_le (hJ.2.1) hb.size,
            Blk.keep ((hJ.2.2.1)) hb,
            Nat.lt_of_lt_of_le (hJ.2.2.2.1) hb.size,
            Blk.keep ((hJ.2.2.2.2.1)) hb,
            Nat.lt_of_lt_of_le (hJ.2.2.2.2.2.1) hb.size,
            Blk.keep ((hJ.2.2.2.2.2.2.1)) hb,
            Nat.lt_of_lt_of_le (hJ.2.2.2.2.2.2.2.1) hb.size,
            Blk.keep ((hJ.2.2.2.2.2.2.2.2.1)) hb,
            fun q => ⟨((hJ.2.2.2.2.2.2.2.2.2.1) (q.resolve_left (by decide))).1, by have := ((hJ.2.2.2.2.2.2.2.2.2.1) (q.resolve_left (by decide))).2.1; omega, ((hJ.2.2.2.2.2.2.2.2.2.1) (q.resolve_left (by decide))).2.2⟩,
            fun q n => Blk.keep ((hJ.2.2.2.2.2.2.2.2.2.2.1) (q.resolve_left (by decide)) (fun m => n (.inr m))) hb,
            fun q => Blk.keep ((hJ.2.2.2.2.2.2.2.2.2.2.2.1) (q.resolve_left (by decide))) hb,
            fun q => .inr ((hJ.2.2.2.2.2.2.2.2.2.2.2.2.1) (q.resolve_left (by decide))),
            fun q => ⟨((hJ.2.2.2.2.2.2.2.2.2.2.2.2.2.1) (q.resolve_left (by decide))).1, by have := ((hJ.2.2.2.2.2.2.2.2.2.2.2.2.2.1) (q.resolve_left (by decide))).2.1; omega, ((hJ.2.2.2.2.2.2.2.2.2.2.2.2.2.1) (q.resolve_left (by decide))).2.2⟩,
            fun q n => Blk.keep ((hJ.2.2.2.2.2.2.2.2.2.2.2.2.2.2.1) (q.resolve_left (by decide)) (fun m => n (.inr m))) hb,
            fun q => Blk.keep ((hJ.2.2.2.2.2.2.2.2.2.2.2.2.2.2.2.1) (q.resolve_left (by decide))) hb,
            fun q => .inr ((hJ.2.2.2.2.2.2.2.2.2.2.2.2.2.2.2.2.1) (q.resolve_left (by decide))),
            fun q r => (hJ.2.2.2.2.2.2.2.2.2.2.2.2.2.2.2.2.2.1) (q.resolve_left (by decide)) (r.resolve_left (by decide)),
            fun q => (hJ.2.2.2.2.2.2.2.2.2.2.2.2.2.2.2.2.2.2.1) (q.resolve_left (by decide)),
            fun q => (hJ.2.2.2.2.2.2.2.2.2.2.2.2.2.2.2.2.2.2.2.1) (q.resolve_left (by decide)),
            fun q => (hJ.2.2.2.2.2.2.2.2.2.2.2.2.2.2.2.2.2.2.2.2.1) (q.resolve_left (by decide)),
            fun q => (hJ.2.2.2.2.2.2.2.2.2.2.2.2.2.2.2.2.2.2.2.2.2.1) (q.resolve_left (by decide)),
            fun q => (hJ.2.2.2.2.2.2.2.2.2.2.2.2.2.2.2.2.2.2.2.2.2.2.1) (q.resolve_left (by decide)),
            fun q => (hJ.2.2.2.2.2.2.2.2.2.2.2.2.2.2.2.2.2.2.2.2.2.2.2.1) (q.resolve_left (by decide)),
            fun q => (hJ.2.2.2.2.2.2.2.2.2.2.2.2.2.2.2.2.2.2.2.2.2.2.2.2.1) (q.resolve_left (by decide)),
            fun q => (hJ.2.2.2.2.2.2.2.2.2.2.2.2.2.2.2.2.2.2.2.2.2.2.2.2.2.1) (q.resolve_left (by decide)),
            fun _ => by first | exact rfl | exact e8,
            fun _ => rfl,
            fun q => (hJ.2.2.2.2.2.2.2.2.2.2.2.2.2.2.2.2.2.2.2.2.2.2.2.2.2.2.2.2.1) (q.resolve_left (by decide)),
            fun q => (hJ.2.2.2.2.2.2.2.2.2.2.2.2.2.2.2.2.2.2.2.2.2.2.2.2.2.2.2.2.2) (q.resolve_left (by decide))⟩
        refine StepsOk.cons (i := 10) rfl (fun L x G w1 K Q hn hp hJ hK => ?_) ?_
        · skip
          simp only [putAll, Act.put, List.setIfInBounds_toArray, List.set_cons_zero, List.set_cons_succ]
          go_simp
          refine hK _ (fun t => if t = 10 then w1.heap.size else G t) _ (by kernel_rfl) ?_
          exact ⟨bal (hJ.1) _,
            by simp; omega,
            Blk.alloc ((hJ.2.2.1)) _,
            by simp; omega,
            Blk.alloc ((hJ.2.2.2.2.1)) _,
            by simp; omega,
            Blk.alloc ((hJ.2.2.2.2.2.2.1)) _,
            by simp; omega,
            Blk.alloc ((hJ.2.2.2.2.2.2.2.2.1)) _,
            fun _ => ⟨(hJ.1).size, by simp, Nat.ne_of_lt (hJ.2.1), Nat.ne_of_lt (hJ.2.2.2.1), Nat.ne_of_lt (hJ.2.2.2.2.2.1), Nat.ne_of_lt (hJ.2.2.2.2.2.2.2.1)⟩,
            fun _ _ => Blk.new w1 _ _,
            fun q => absurd ((hJ.2.2.2.2.2.2.2.2.2.2.2.2.1) (q.resolve_left (by decide))) hn,
            fun q => .inr ((hJ.2.2.2.2.2.2.2.2.2.2.2.2.1) (q.resolve_left (by decide))),
            fun q => ⟨((hJ.2.2.2.2.2.2.2.2.2.2.2.2.2.1) (q.resolve_left (by decide))).1, by have := ((hJ.2.2.2.2.2.2.2.2.2.2.2.2.2.1) (q.resolve_left (by decide))).2.1; simp; omega, ((hJ.2.2.2.2.2.2.2.2.2.2.2.2.2.1) (q.resolve_left (by decide))).2.2⟩,
            fun q n => Blk.alloc ((hJ.2.2.2.2.2.2.2.2.2.2.2.2.2.2.1) (q.resolve_left (by decide)) (fun m => n (.inr m))) _,
            fun q => Blk.alloc ((hJ.2.2.2.2.2.2.2.2.2.2.2.2.2.2.2.1) (q.resolve_left (by decide))) _,
            fun q => .inr ((hJ.2.2.2.2.2.2.2.2.2.2.2.2.2.2.2.2.1) (q.resolve_left (by decide))),
            fun q _ => Nat.ne_of_lt ((hJ.2.2.2.2.2.2.2.2.2.2.2.2.2.1) (q.resolve_left (by decide))).2.1,
            fun q => (hJ.2.2.2.2.2.2.2.2.2.2.2.2.2.2.2.2.2.2.1) (q.resolve_left (by decide)),
            fun q => (hJ.2.2.2.2.2.2.2.2.2.2.2.2.2.2.2.2.2.2.2.1) (q.resolve_left (by decide)),
            fun q => (hJ.2.2.2.2.2.2.2.2.2.2.2.2.2.2.2.2.2.2.2.2.1) (q.resolve_left (by decide)),
            fun q => (hJ.2.2.2.2.2.2.2.2.2.2.2.2.2.2.2.2.2.2.2.2.2.1) (q.resolve_left (by decide)),
            fun q => (hJ.2.2.2.2.2.2.2.2.2.2.2.2.2.2.2.2.2.2.2.2.2.2.1) (q.resolve_left (by decide)),
            fun q => (hJ.2.2.2.2.2.2.2.2.2.2.2.2.2.2.2.2.2.2.2.2.2.2.2.1) (q.resolve_left (by decide)),
            fun q => (hJ.2.2.2.2.2.2.2.2.2.2.2.2.2.2.2.2.2.2.2.2.2.2.2.2.1) (q.resolve_left (by decide)),
            fun q => (hJ.2.2.2.2.2.2.2.2.2.2.2.2.2.2.2.2.2.2.2.2.2.2.2.2.2.1) (q.resolve_left (by decide)),
            fun q => (hJ.2.2.2.2.2.2.2.2.2.2.2.2.2.2.2.2.2.2.2.2.2.2.2.2.2.2.1) (q.resolve_left (by decide)),
            fun q => (hJ.2.2.2.2.2.2.2.2.2.2.2.2.2.2.2.2.2.2.2.2.2.2.2.2.2.2.2.1) (q.resolve_left (by decide)),
            fun _ => rfl,
            fun q => (hJ.2.2.2.2.2.2.2.2.2.2.2.2.2.2.2.2.2.2.2.2.2.2.2.2.2.2.2.2.2) (q.resolve_left (by decide))⟩
        refine StepsOk.cons (i := 11) rfl (fun L x G w1 K Q hn hp hJ hK => ?_) ?_
        · skip
          simp only [putAll, Act.put, List.setIfInBounds_toArray, List.set_cons_zero, List.set_cons_succ]
          go_simp
          refine hK _ (fun t => if t = 11 then w1.heap.size else G t) _ (by kernel_rfl) ?_
          exact ⟨bal (hJ.1) _,
            by simp; omega,
            Blk.alloc ((hJ.2.2.1)) _,
            by simp; omega,
            Blk.alloc ((hJ.2.2.2.2.1)) _,
            by simp; omega,
            Blk.alloc ((hJ.2.2.2.2.2.2.1)) _,
            by simp; omega,
            Blk.alloc ((hJ.2.2.2.2.2.2.2.2.1)) _,
            fun q => ⟨((hJ.2.2.2.2.2.2.2.2.2.1) (q.resolve_left (by decide))).1, by have := ((hJ.2.2.2.2.2.2.2.2.2.1) (q.resolve_left (by decide))).2.1; simp; omega, ((hJ.2.2.2.2.2.2.2.2.2.1) (q.resolve_left (by decide))).2.2⟩,
            fun q n => Blk.alloc ((hJ.2.2.2.2.2.2.2.2.2.2.1) (q.resolve_left (by decide)) (fun m => n (.inr m))) _,
            fun q => Blk.alloc ((hJ.2.2.2.2.2.2.2.2.2.2.2.1) (q.resolve_left (by decide))) _,
            fun q => .inr ((hJ.2.2.2.2.2.2.2.2.2.2.2.2.1) (q.resolve_left (by decide))),
            fun _ => ⟨(hJ.1).size, by simp, Nat.ne_of_lt (hJ.2.1), Nat.ne_of_lt (hJ.2.2.2.1), Nat.ne_of_lt (hJ.2.2.2.2.2.1), Nat.ne_of_lt (hJ.2.2.2.2.2.2.2.1)⟩,
            fun _ _ => Blk.new w1 _ _,
            fun q => absurd ((hJ.2.2.2.2.2.2.2.2.2.2.2.2.2.2.2.2.1) (q.resolve_left (by decide))) hn,
            fun q => .inr ((hJ.2.2.2.2.2.2.2.2.2.2.2.2.2.2.2.2.1) (q.resolve_left (by decide))),
            fun _ r => Nat.ne_of_gt ((hJ.2.2.2.2.2.2.2.2.2.1) (r.resolve_left (by decide))).2.1,
            fun q => (hJ.2.2.2.2.2.2.2.2.2.2.2.2.2.2.2.2.2.2.1) (q.resolve_left (by decide)),
            fun q => (hJ.2.2.2.2.2.2.2.2.2.2.2.2.2.2.2.2.2.2.2.1) (q.resolve_left (by decide)),
            fun q => (hJ.2.2.2.2.2.2.2.2.2.2.2.2.2.2.2.2.2.2.2.2.1) (q.resolve_left (by decide)),
            fun q => (hJ.2.2.2.2.2.2.2.2.2.2.2.2.2.2.2.2.2.2.2.2.2.1) (q.resolve_left (by decide)),
            fun q => (hJ.2.2.2.2.2.2.2.2.2.2.2.2.2.2.2.2.2.2.2.2.2.2.1) (q.resolve_left (by decide)),
            fun q => (hJ.2.2.2.2.2.2.2.2.2.2.2.2.2.2.2.2.2.2.2.2.2.2.2.1) (q.resolve_left (by decide)),
            fun q => (hJ.2.2.2.2.2.2.2.2.2.2.2.2.2.2.2.2.2.2.2.2.2.2.2.2.1) (q.resolve_left (by decide)),
            fun q => (hJ.2.2.2.2.2.2.2.2.2.2.2.2.2.2.2.2.2.2.2.2.2.2.2.2.2.1) (q.resolve_left (by decide)),
            fun q => (hJ.2.2.2.2.2.2.2.2.2.2.2.2.2.2.2.2.2.2.2.2.2.2.2.2.2.2.1) (q.resolve_left (by decide)),
            fun q => (hJ.2.2.2.2.2.2.2.2.2.2.2.2.2.2.2.2.2.2.2.2.2.2.2.2.2.2.2.1) (q.resolve_left (by decide)),
            fun q => (hJ.2.2.2.2.2.2.2.2.2.2.2.2.2.2.2.2.2.2.2.2.2.2.2.2.2.2.2.2.1) (q.resolve_left (by decide)),
            fun _ => rfl⟩
        refine StepsOk.cons (i := 12) rfl (fun L x G w1 K Q hn hp hJ hK => ?_) ?_
        · skip
          have p4 : L 4 := hp ⟨4, .data⟩ (by simp) rfl
          have e4 := (hJ.2.2.2.2.2.2.2.2.2.2.2.2.2.2.2.2.2.2.2.2.2.2.1) p4
          have p10 : L 10 := hp ⟨10, .data⟩ (by simp) rfl
          have e10 := (hJ.2.2.2.2.2.2.2.2.2.2.2.2.2.2.2.2.2.2.2.2.2.2.2.2.2.2.2.2.1) p10
          have hc := Blk.open2 (((hJ.2.2.2.2.2.2.2.2.2.2.1) p10 hn))
          have c0 := hc.1
          have c1 := hc.2.1
          have c2 := hc.2.2.1
          have c3 := hc.2.2.2
          clear hc
          simp only [putAll, Act.put, List.setIfInBounds_toArray, List.set_cons_zero, List.set_cons_succ]
          go_simp
          refine hK _ G _ (by kernel_rfl) ?_
          exact ⟨bst (bst ((hJ.1)) (p := ⟨G 10, 0, none⟩) ((hJ.2.2.2.2.2.2.2.2.2.1) p10).1 (.int .i64 (Wi.Hq (mu)))) (p := ⟨G 10, 1, none⟩) ((hJ.2.2.2.2.2.2.2.2.2.1) p10).1 (.int .u64 (Wi.Lr (mu))),
            by simpa using (hJ.2.1),
            Blk.far (Blk.far ((hJ.2.2.1)) (p := ⟨G 10, 0, none⟩) (((hJ.2.2.2.2.2.2.2.2.2.1) p10).2.2.1) (.int .i64 (Wi.Hq (mu)))) (p := ⟨G 10, 1, none⟩) (((hJ.2.2.2.2.2.2.2.2.2.1) p10).2.2.1) (.int .u64 (Wi.Lr (mu))),
            by simpa using (hJ.2.2.2.1),
            Blk.far (Blk.far ((hJ.2.2.2.2.1)) (p := ⟨G 10, 0, none⟩) (((hJ.2.2.2.2.2.2.2.2.2.1) p10).2.2.2.1) (.int .i64 (Wi.Hq (mu)))) (p := ⟨G 10, 1, none⟩) (((hJ.2.2.2.2.2.2.2.2.2.1) p10).2.2.2.1) (.int .u64 (Wi.Lr (mu))),
            by simpa using (hJ.2.2.2.2.2.1),
            Blk.far (Blk.far ((hJ.2.2.2.2.2.2.1)) (p := ⟨G 10, 0, none⟩) (((hJ.2.2.2.2.2.2.2.2.2.1) p10).2.2.2.2.1) (.int .i64 (Wi.Hq (mu)))) (p := ⟨G 10, 1, none⟩) (((hJ.2.2.2.2.2.2.2.2.2.1) p10).2.2.2.2.1) (.int .u64 (Wi.Lr (mu))),
            by simpa using (hJ.2.2.2.2.2.2.2.1),
            Blk.far (Blk.far ((hJ.2.2.2.2.2.2.2.2.1)) (p := ⟨G 10, 0, none⟩) (((hJ.2.2.2.2.2.2.2.2.2.1) p10).2.2.2.2.2) (.int .i64 (Wi.Hq (mu)))) (p := ⟨G 10, 1, none⟩) (((hJ.2.2.2.2.2.2.2.2.2.1) p10).2.2.2.2.2) (.int .u64 (Wi.Lr (mu))),
            fun q => ⟨((hJ.2.2.2.2.2.2.2.2.2.1) (q.resolve_left (by decide))).1, by have := ((hJ.2.2.2.2.2.2.2.2.2.1) (q.resolve_left (by decide))).2.1; simpa using this, ((hJ.2.2.2.2.2.2.2.2.2.1) (q.resolve_left (by decide))).2.2⟩,
            fun _ n => absurd (.inl rfl) n,
            fun _ => by simpa using Blk.set_ (Blk.set_ (((hJ.2.2.2.2.2.2.2.2.2.2.1) p10 hn)) 0 (.int .i64 (Wi.Hq (mu)))) 1 (.int .u64 (Wi.Lr (mu))),
            fun _ => .inr p10,
            fun q => ⟨((hJ.2.2.2.2.2.2.2.2.2.2.2.2.2.1) (q.resolve_left (by decide))).1, by have := ((hJ.2.2.2.2.2.2.2.2.2.2.2.2.2.1) (q.resolve_left (by decide))).2.1; simpa using this, ((hJ.2.2.2.2.2.2.2.2.2.2.2.2.2.1) (q.resolve_left (by decide))).2.2⟩,
            fun q n => Blk.far (Blk.far ((hJ.2.2.2.2.2.2.2.2.2.2.2.2.2.2.1) (q.resolve_left (by decide)) (fun m => n (.inr m))) (p := ⟨G 10, 0, none⟩) ((hJ.2.2.2.2.2.2.2.2.2.2.2.2.2.2.2.2.2.1) (q.resolve_left (by decide)) p10) (.int .i64 (Wi.Hq (mu)))) (p := ⟨G 10, 1, none⟩) ((hJ.2.2.2.2.2.2.2.2.2.2.2.2.2.2.2.2.2.1) (q.resolve_left (by decide)) p10) (.int .u64 (Wi.Lr (mu))),
            fun q => Blk.far (Blk.far ((hJ.2.2.2.2.2.2.2.2.2.2.2.2.2.2.2.1) (q.resolve_left (by decide))) (p := ⟨G 10, 0, none⟩) ((hJ.2.2.2.2.2.2.2.2.2.2.2.2.2.2.2.2.2.1) ((hJ.2.2.2.2.2.2.2.2.2.2.2.2.2.2.2.2.1) (q.resolve_left (by decide))) p10) (.int .i64 (Wi.Hq (mu)))) (p := ⟨G 10, 1, none⟩) ((hJ.2.2.2.2.2.2.2.2.2.2.2.2.2.2.2.2.2.1) ((hJ.2.2.2.2.2.2.2.2.2.2.2.2.2.2.2.2.1) (q.resolve_left (by decide))) p10) (.int .u64 (Wi.Lr (mu))),
            fun q => .inr ((hJ.2.2.2.2.2.2.2.2.2.2.2.2.2.2.2.2.1) (q.resolve_left (by decide))),
            fun q r => (hJ.2.2.2.2.2.2.2.2.2.2.2.2.2.2.2.2.2.1) (q.resolve_left (by decide)) (r.resolve_left (by decide)),
            fun q => (hJ.2.2.2.2.2.2.2.2.2.2.2.2.2.2.2.2.2.2.1) (q.resolve_left (by decide)),
            fun q => (hJ.2.2.2.2.2.2.2.2.2.2.2.2.2.2.2.2.2.2.2.1) (q.resolve_left (by decide)),
            fun q => (hJ.2.2.2.2.2.2.2.2.2.2.2.2.2.2.2.2.2.2.2.2.1) (q.resolve_left (by decide)),
            fun q => (hJ.2.2.2.2.2.2.2.2.2.2.2.2.2.2.2.2.2.2.2.2.2.1) (q.resolve_left (by decide)),
            fun _ => by first | exact rfl | exact e4,
            fun q => (hJ.2.2.2.2.2.2.2.2.2.2.2.2.2.2.2.2.2.2.2.2.2.2.2.1) (q.resolve_left (by decide)),
            fun q => (hJ.2.2.2.2.2.2.2.2.2.2.2.2.2.2.2.2.2.2.2.2.2.2.2.2.1) (q.resolve_left (by decide)),
            fun q => (hJ.2.2.2.2.2.2.2.2.2.2.2.2.2.2.2.2.2.2.2.2.2.2.2.2.2.1) (q.resolve_left (by decide)),
            fun q => (hJ.2.2.2.2.2.2.2.2.2.2.2.2.2.2.2.2.2.2.2.2.2.2.2.2.2.2.1) (q.resolve_left (by decide)),
            fun q => (hJ.2.2.2.2.2.2.2.2.2.2.2.2.2.2.2.2.2.2.2.2.2.2.2.2.2.2.2.1) (q.resolve_left (by decide)),
            fun _ => by first | exact rfl | exact e10,
            fun q => (hJ.2.2.2.2.2.2.2.2.2.2.2.2.2.2.2.2.2.2.2.2.2.2.2.2.2.2.2.2.2) (q.resolve_left (by decide))⟩
        refine StepsOk.cons (i := 13) rfl (fun L x G w1 K Q hn hp hJ hK => ?_) ?_
        · skip
          have p9 : L 9 := hp ⟨9, .data⟩ (by simp) rfl
          have e9 := (hJ.2.2.2.2.2.2.2.2.2.2.2.2.2.2.2.2.2.2.2.2.2.2.2.2.2.2.2.1) p9
          have p11 : L 11 := hp ⟨11, .data⟩ (by simp) rfl
          have e11 := (hJ.2.2.2.2.2.2.2.2.2.2.2.2.2.2.2.2.2.2.2.2.2.2.2.2.2.2.2.2.2) p11
          have hc := Blk.open2 (((hJ.2.2.2.2.2.2.2.2.2.2.2.2.2.2.1) p11 hn))
          have c0 := hc.1
          have c1 := hc.2.1
          have c2 := hc.2.2.1
          have c3 := hc.2.2.2
          clear hc
          simp only [putAll, Act.put, List.setIfInBounds_toArray, List.set_cons_zero, List.set_cons_succ]
          go_simp
          refine hK _ G _ (by kernel_rfl) ?_
          exact ⟨bst (bst ((hJ.1)) (p := ⟨G 11, 0, none⟩) ((hJ.2.2.2.2.2.2.2.2.2.2.2.2.2.1) p11).1 (.int .i64 (Wi.Hq (mv)))) (p := ⟨G 11, 1, none⟩) ((hJ.2.2.2.2.2.2.2.2.2.2.2.2.2.1) p11).1 (.int .u64 (Wi.Lr (mv))),
            by simpa using (hJ.2.1),
            Blk.far (Blk.far ((hJ.2.2.1)) (p := ⟨G 11, 0, none⟩) (((hJ.2.2.2.2.2.2.2.2.2.2.2.2.2.1) p11).2.2.1) (.int .i64 (Wi.Hq (mv)))) (p := ⟨G 11, 1, none⟩) (((hJ.2.2.2.2.2.2.2.2.2.2.2.2.2.1) p11).2.2.1) (.int .u64 (Wi.Lr (mv))),
            by simpa using (hJ.2.2.2.1),
            Blk.far (Blk.far ((hJ.2.2.2.2.1)) (p := ⟨G 11, 0, none⟩) (((hJ.2.2.2.2.2.2.2.2.2.2.2.2.2.1) p11).2.2.2.1) (.int .i64 (Wi.Hq (mv)))) (p := ⟨G 11, 1, none⟩) (((hJ.2.2.2.2.2.2.2.2.2.2.2.2.2.1) p11).2.2.2.1) (.int .u64 (Wi.Lr (mv))),
            by simpa using (hJ.2.2.2.2.2.1),
            Blk.far (Blk.far ((hJ.2.2.2.2.2.2.1)) (p := ⟨G 11, 0, none⟩) (((hJ.2.2.2.2.2.2.2.2.2.2.2.2.2.1) p11).2.2.2.2.1) (.int .i64 (Wi.Hq (mv)))) (p := ⟨G 11, 1, none⟩) (((hJ.2.2.2.2.2.2.2.2.2.2.2.2.2.1) p11).2.2.2.2.1) (.int .u64 (Wi.Lr (mv))),
            by simpa using (hJ.2.2.2.2.2.2.2.1),
            Blk.far (Blk.far ((hJ.2.2.2.2.2.2.2.2.1)) (p := ⟨G 11, 0, none⟩) (((hJ.2.2.2.2.2.2.2.2.2.2.2.2.2.1) p11).2.2.2.2.2) (.int .i64 (Wi.Hq (mv)))) (p := ⟨G 11, 1, none⟩) (((hJ.2.2.2.2.2.2.2.2.2.2.2.2.2.1) p11).2.2.2.2.2) (.int .u64 (Wi.Lr (mv))),
            fun q => ⟨((hJ.2.2.2.2.2.2.2.2.2.1) (q.resolve_left (by decide))).1, by have := ((hJ.2.2.2.2.2.2.2.2.2.1) (q.resolve_left (by decide))).2.1; simpa using this, ((hJ.2.2.2.2.2.2.2.2.2.1) (q.resolve_left (by decide))).2.2⟩,
            fun q n => Blk.far (Blk.far ((hJ.2.2.2.2.2.2.2.2.2.2.1) (q.resolve_left (by decide)) (fun m => n (.inr m))) (p := ⟨G 11, 0, none⟩) (Ne.symm ((hJ.2.2.2.2.2.2.2.2.2.2.2.2.2.2.2.2.2.1) p11 (q.resolve_left (by decide)))) (.int .i64 (Wi.Hq (mv)))) (p := ⟨G 11, 1, none⟩) (Ne.symm ((hJ.2.2.2.2.2.2.2.2.2.2.2.2.2.2.2.2.2.1) p11 (q.resolve_left (by decide)))) (.int .u64 (Wi.Lr (mv))),
            fun q => Blk.far (Blk.far ((hJ.2.2.2.2.2.2.2.2.2.2.2.1) (q.resolve_left (by decide))) (p := ⟨G 11, 0, none⟩) (Ne.symm ((hJ.2.2.2.2.2.2.2.2.2.2.2.2.2.2.2.2.2.1) p11 ((hJ.2.2.2.2.2.2.2.2.2.2.2.2.1) (q.resolve_left (by decide))))) (.int .i64 (Wi.Hq (mv)))) (p := ⟨G 11, 1, none⟩) (Ne.symm ((hJ.2.2.2.2.2.2.2.2.2.2.2.2.2.2.2.2.2.1) p11 ((hJ.2.2.2.2.2.2.2.2.2.2.2.2.1) (q.resolve_left (by decide))))) (.int .u64 (Wi.Lr (mv))),
            fun q => .inr ((hJ.2.2.2.2.2.2.2.2.2.2.2.2.1) (q.resolve_left (by decide))),
            fun q => ⟨((hJ.2.2.2.2.2.2.2.2.2.2.2.2.2.1) (q.resolve_left (by decide))).1, by have := ((hJ.2.2.2.2.2.2.2.2.2.2.2.2.2.1) (q.resolve_left (by decide))).2.1; simpa using this, ((hJ.2.2.2.2.2.2.2.2.2.2.2.2.2.1) (q.resolve_left (by decide))).2.2⟩,
            fun _ n => absurd (.inl rfl) n,
            fun _ => by simpa using Blk.set_ (Blk.set_ (((hJ.2.2.2.2.2.2.2.2.2.2.2.2.2.2.1) p11 hn)) 0 (.int .i64 (Wi.Hq (mv)))) 1 (.int .u64 (Wi.Lr (mv))),
            fun _ => .inr p11,
            fun q r => (hJ.2.2.2.2.2.2.2.2.2.2.2.2.2.2.2.2.2.1) (q.resolve_left (by decide)) (r.resolve_left (by decide)),
            fun q => (hJ.2.2.2.2.2.2.2.2.2.2.2.2.2.2.2.2.2.2.1) (q.resolve_left (by decide)),
            fun q => (hJ.2.2.2.2.2.2.2.2.2.2.2.2.2.2.2.2.2.2.2.1) (q.resolve_left (by decide)),
            fun q => (hJ.2.2.2.2.2.2.2.2.2.2.2.2.2.2.2.2.2.2.2.2.1) (q.resolve_left (by decide)),
            fun q => (hJ.2.2.2.2.2.2.2.2.2.2.2.2.2.2.2.2.2.2.2.2.2.1) (q.resolve_left (by decide)),
            fun q => (hJ.2.2.2.2.2.2.2.2.2.2.2.2.2.2.2.2.2.2.2.2.2.2.1) (q.resolve_left (by decide)),
            fun q => (hJ.2.2.2.2.2.2.2.2.2.2.2.2.2.2.2.2.2.2.2.2.2.2.2.1) (q.resolve_left (by decide)),
            fun q => (hJ.2.2.2.2.2.2.2.2.2.2.2.2.2.2.2.2.2.2.2.2.2.2.2.2.1) (q.resolve_left (by decide)),
            fun q => (hJ.2.2.2.2.2.2.2.2.2.2.2.2.2.2.2.2.2.2.2.2.2.2.2.2.2.1) (q.resolve_left (by decide)),
            fun q => (hJ.2.2.2.2.2.2.2.2.2.2.2.2.2.2.2.2.2.2.2.2.2.2.2.2.2.2.1) (q.resolve_left (by decide)),
            fun _ => by first | exact rfl | exact e9,
            fun q => (hJ.2.2.2.2.2.2.2.2.2.2.2.2.2.2.2.2.2.2.2.2.2.2.2.2.2.2.2.2.1) (q.resolve_left (by decide)),
            fun _ => by first | exact rfl | exact e11⟩
        exact StepsOk.nil
      case fin =>
        intro L x G w6 hall hJ
        replace X := (hJ.2.2.1)
        replace Y := (hJ.2.2.2.2.1)
        replace NN := (hJ.2.2.2.2.2.2.1)
        replace Q := (hJ.2.2.2.2.2.2.2.2.1)
        obtain ⟨haMU, hlMU, hnMUX, hnMUY, hnMUNN, hnMUQ⟩ := (hJ.2.2.2.2.2.2.2.2.2.1) (hall 10 (by decide))
        have MU := (hJ.2.2.2.2.2.2.2.2.2.2.2.1) (hall 12 (by decide))
        obtain ⟨haMV, hlMV, hnMVX, hnMVY, hnMVNN, hnMVQ⟩ := (hJ.2.2.2.2.2.2.2.2.2.2.2.2.2.1) (hall 11 (by decide))
        have MV := (hJ.2.2.2.2.2.2.2.2.2.2.2.2.2.2.2.1) (hall 13 (by decide))
        have n_dMVMU := (hJ.2.2.2.2.2.2.2.2.2.2.2.2.2.2.2.2.2.1) (hall 11 (by decide)) (hall 10 (by decide))
        have u0 := hJ.2.2.2.2.2.2.2.2.2.2.2.2.2.2.2.2.2.2.1 (hall 0 (by decide))
        have u1 := hJ.2.2.2.2.2.2.2.2.2.2.2.2.2.2.2.2.2.2.2.1 (hall 1 (by decide))
        have u2 := hJ.2.2.2.2.2.2.2.2.2.2.2.2.2.2.2.2.2.2.2.2.1 (hall 2 (by decide))
        have u3 := hJ.2.2.2.2.2.2.2.2.2.2.2.2.2.2.2.2.2.2.2.2.2.1 (hall 3 (by decide))
        have u4 := hJ.2.2.2.2.2.2.2.2.2.2.2.2.2.2.2.2.2.2.2.2.2.2.1 (hall 4 (by decide))
        have u5 := hJ.2.2.2.2.2.2.2.2.2.2.2.2.2.2.2.2.2.2.2.2.2.2.2.1 (hall 5 (by decide))
        have u6 := hJ.2.2.2.2.2.2.2.2.2.2.2.2.2.2.2.2.2.2.2.2.2.2.2.2.1 (hall 6 (by decide))
        have u7 := hJ.2.2.2.2.2.2.2.2.2.2.2.2.2.2.2.2.2.2.2.2.2.2.2.2.2.1 (hall 7 (by decide))
        have u8 := hJ.2.2.2.2.2.2.2.2.2.2.2.2.2.2.2.2.2.2.2.2.2.2.2.2.2.2.1 (hall 8 (by decide))
        have u9 := hJ.2.2.2.2.2.2.2.2.2.2.2.2.2.2.2.2.2.2.2.2.2.2.2.2.2.2.2.1 (hall 9 (by decide))
        have u10 := hJ.2.2.2.2.2.2.2.2.2.2.2.2.2.2.2.2.2.2.2.2.2.2.2.2.2.2.2.2.1 (hall 10 (by decide))
        have u11 := hJ.2.2.2.2.2.2.2.2.2.2.2.2.2.2.2.2.2.2.2.2.2.2.2.2.2.2.2.2.2 (hall 11 (by decide))
        replace hB := hJ.1
        simp only [putAll, Act.put, List.setIfInBounds_toArray, List.set_cons_zero, List.set_cons_succ]
        simp only [u0, u1, u2, u3, u4, u5, u6, u7, u8, u9, u10, u11]
        clear hall hJ u0 u1 u2 u3 u4 u5 u6 u7 u8 u9 u10 u11
        generalize G 10 = gMU at *
        generalize G 11 = gMV at *
        obtain ⟨c00, c01, c02, c03⟩ := MU.open2
        obtain ⟨c10, c11, c12, c13⟩ := MV.open2
        go_wp2_with fail
        refine (div_c _ _ _ _ _ _ _ wu wv_).mono ?_
        rw [ed.out, eb.out]
        rintro e w7 ⟨rfl, hb⟩
        clear c00 c01 c02 c03 c10 c11 c12 c13
        replace X := X.keep hb
        replace Y := Y.keep hb
        replace NN := NN.keep hb
        replace Q := Q.keep hb
        replace MU := MU.keep hb
        replace MV := MV.keep hb
        replace hB := bt hB hb
        clear hb
        have hz7 := hB.size
        have l7X := X.lt
        have l7Y := Y.lt
        have l7NN := NN.lt
        have l7Q := Q.lt
        have l7MU := MU.lt
        have l7MV := MV.lt
        replace X := X.alloc (.cells #[.int .i64 (Wi.Hq (f)), .int .u64 (Wi.Lr (f))] 40)
        replace Y := Y.alloc (.cells #[.int .i64 (Wi.Hq (f)), .int .u64 (Wi.Lr (f))] 40)
        replace NN := NN.alloc (.cells #[.int .i64 (Wi.Hq (f)), .int .u64 (Wi.Lr (f))] 40)
        replace Q := Q.alloc (.cells #[.int .i64 (Wi.Hq (f)), .int .u64 (Wi.Lr (f))] 40)
        replace MU := MU.alloc (.cells #[.int .i64 (Wi.Hq (f)), .int .u64 (Wi.Lr (f))] 40)
        replace MV := MV.alloc (.cells #[.int .i64 (Wi.Hq (f)), .int .u64 (Wi.Lr (f))] 40)
        replace hB := bal hB (.cells #[.int .i64 (Wi.Hq (f)), .int .u64 (Wi.Lr (f))] 40)
        have D := Blk.new w7 40 #[.int .i64 (Wi.Hq (f)), .int .u64 (Wi.Lr (f))]
        obtain ⟨c00, c01, c02, c03⟩ := MU.open2
        obtain ⟨c10, c11, c12, c13⟩ := MV.open2
        obtain ⟨c20, c21, c22, c23⟩ := D.open2
        go_wp2_with fail
        refine (divup_c _ _ _ _ _ _ _ wu wv_).mono ?_
        rw [ed2.out, eb2.out]
        rintro e w8 ⟨rfl, hb⟩
        clear c00 c01 c02 c03 c10 c11 c12 c13 c20 c21 c22 c23
        replace X := X.keep hb
        replace Y := Y.keep hb
        replace NN := NN.keep hb
        replace Q := Q.keep hb
        replace MU := MU.keep hb
        replace MV := MV.keep hb
        replace D := D.keep hb
        replace hB := bt hB hb
        clear hb
        have hz8 := hB.size
        have l8X := X.lt
        have l8Y := Y.lt
        have l8NN := NN.lt
        have l8Q := Q.lt
        have l8MU := MU.lt
        have l8MV := MV.lt
        have l8D := D.lt
        replace X := X.alloc (.cells #[.int .i64 (Wi.Hq (cc)), .int .u64 (Wi.Lr (cc))] 40)
        replace Y := Y.alloc (.cells #[.int .i64 (Wi.Hq (cc)), .int .u64 (Wi.Lr (cc))] 40)
        replace NN := NN.alloc (.cells #[.int .i64 (Wi.Hq (cc)), .int .u64 (Wi.Lr (cc))] 40)
        replace Q := Q.alloc (.cells #[.int .i64 (Wi.Hq (cc)), .int .u64 (Wi.Lr (cc))] 40)
        replace MU := MU.alloc (.cells #[.int .i64 (Wi.Hq (cc)), .int .u64 (Wi.Lr (cc))] 40)
        replace MV := MV.alloc (.cells #[.int .i64 (Wi.Hq (cc)), .int .u64 (Wi.Lr (cc))] 40)
        replace D := D.alloc (.cells #[.int .i64 (Wi.Hq (cc)), .int .u64 (Wi.Lr (cc))] 40)
        replace hB := bal hB (.cells #[.int .i64 (Wi.Hq (cc)), .int .u64 (Wi.Lr (cc))] 40)
        have E := Blk.new w8 40 #[.int .i64 (Wi.Hq (cc)), .int .u64 (Wi.Lr (cc))]
        obtain ⟨y00, y01, y02, y03⟩ := Q.open2
        have KO1 := fun W_ : World => of_c _ W_ p1 p2
        have KO2 := fun W_ : World => of_c _ W_ p3 p4
        have KC1 := fun W_ : World => cmp_c _ _ _ _ _ _ W_ wf wl
        have KC2 := fun W_ : World => cmp_c _ _ _ _ _ _ W_ wc wh
        rw [hcm1.out] at KC1
        rw [hcm2.out] at KC2
        go_wp2_with fail
        generalize World.alloc w8 _ = W0 at X Y NN Q MU MV D E hB ⊢
        have hreg : ∀ w', Below W0.heap.size W0 w' → Below W0.heap.size W0 w' ∧ w'.cell? ⟨w7.heap.size, 0, none⟩ = some (.int .i64 (Wi.Hq (f))) ∧ w'.cell? ⟨w7.heap.size, 1, none⟩ = some (.int .u64 (Wi.Lr (f))) ∧ w'.cell? ⟨w8.heap.size, 0, none⟩ = some (.int .i64 (Wi.Hq (cc))) ∧ w'.cell? ⟨w8.heap.size, 1, none⟩ = some (.int .u64 (Wi.Lr (cc))) ∧ w'.cell? ⟨w2.heap.size, 0, none⟩ = some (.int .i64 qlo) ∧ w'.cell? ⟨w2.heap.size, 1, none⟩ = some (.int .i64 qhi) := fun w' h => ⟨h, (D.keep h).cell 0, (D.keep h).cell 1, (E.keep h).cell 0, (E.keep h).cell 1, (Q.keep h).cell 0, (Q.keep h).cell 1⟩
        go_region_held3 (fun w' => Below W0.heap.size W0 w' ∧ w'.cell? ⟨w7.heap.size, 0, none⟩ = some (.int .i64 (Wi.Hq (f))) ∧ w'.cell? ⟨w7.heap.size, 1, none⟩ = some (.int .u64 (Wi.Lr (f))) ∧ w'.cell? ⟨w8.heap.size, 0, none⟩ = some (.int .i64 (Wi.Hq (cc))) ∧ w'.cell? ⟨w8.heap.size, 1, none⟩ = some (.int .u64 (Wi.Lr (cc))) ∧ w'.cell? ⟨w2.heap.size, 0, none⟩ = some (.int .i64 qlo) ∧ w'.cell? ⟨w2.heap.size, 1, none⟩ = some (.int .i64 qhi)) (first | exact hreg _ (Below.refl _ _).drew | exact keepR hreg hbn (by assumption)) (first | (go_at_call 34; (first | with_reducible refine (KO1 _).mono ?_ | with_reducible refine (KO2 _).mono ?_); rintro e wn ⟨rfl, hbn⟩) | (go_at_call 53; (first | with_reducible refine (KC1 _).mono ?_ | with_reducible refine (KC2 _).mono ?_); rintro e wn ⟨rfl, hbn⟩))
        rename_i hS
        replace X := X.keep hS.1
        replace Y := Y.keep hS.1
        replace NN := NN.keep hS.1
        replace Q := Q.keep hS.1
        replace MU := MU.keep hS.1
        replace MV := MV.keep hS.1
        replace D := D.keep hS.1
        replace E := E.keep hS.1
        replace hB := bt hB hS.1
        clear hS hreg
        clear y00 y01 y02 y03 KO1 KO2 KC1 KC2
        obtain ⟨c00, c01, c02, c03⟩ := X.open2
        go_wp2_with fail
        refine (sqrt_ci _ _ _).mono ?_
        rw [S.out]
        rintro e w9 ⟨rfl, hb⟩
        clear c00 c01 c02 c03
        replace X := X.keep hb
        replace Y := Y.keep hb
        replace NN := NN.keep hb
        replace Q := Q.keep hb
        replace MU := MU.keep hb
        replace MV := MV.keep hb
        replace D := D.keep hb
        replace E := E.keep hb
        replace hB := bt hB hb
        clear hb
        have hz9 := hB.size
        have l9X := X.lt
        have l9Y := Y.lt
        have l9NN := NN.lt
        have l9Q := Q.lt
        have l9MU := MU.lt
        have l9MV := MV.lt
        have l9D := D.lt
        have l9E := E.lt
        replace X := X.alloc (.cells #[.int .i64 (Iv.sqrt l h).lo, .int .i64 (Iv.sqrt l h).hi] 23)
        replace Y := Y.alloc (.cells #[.int .i64 (Iv.sqrt l h).lo, .int .i64 (Iv.sqrt l h).hi] 23)
        replace NN := NN.alloc (.cells #[.int .i64 (Iv.sqrt l h).lo, .int .i64 (Iv.sqrt l h).hi] 23)
        replace Q := Q.alloc (.cells #[.int .i64 (Iv.sqrt l h).lo, .int .i64 (Iv.sqrt l h).hi] 23)
        replace MU := MU.alloc (.cells #[.int .i64 (Iv.sqrt l h).lo, .int .i64 (Iv.sqrt l h).hi] 23)
        replace MV := MV.alloc (.cells #[.int .i64 (Iv.sqrt l h).lo, .int .i64 (Iv.sqrt l h).hi] 23)
        replace D := D.alloc (.cells #[.int .i64 (Iv.sqrt l h).lo, .int .i64 (Iv.sqrt l h).hi] 23)
        replace E := E.alloc (.cells #[.int .i64 (Iv.sqrt l h).lo, .int .i64 (Iv.sqrt l h).hi] 23)
        replace hB := bal hB (.cells #[.int .i64 (Iv.sqrt l h).lo, .int .i64 (Iv.sqrt l h).hi] 23)
        have SB := Blk.new w9 23 #[.int .i64 (Iv.sqrt l h).lo, .int .i64 (Iv.sqrt l h).hi]
        obtain ⟨c00, c01, c02, c03⟩ := MU.open2
        obtain ⟨c10, c11, c12, c13⟩ := SB.open2
        go_wp2_with fail
        refine (sqrt_c _ _ _ _ wu).mono ?_
        rintro e w10 ⟨rfl, hb⟩
        clear c00 c01 c02 c03 c10 c11 c12 c13
        replace X := X.keep hb
        replace Y := Y.keep hb
        replace NN := NN.keep hb
        replace Q := Q.keep hb
        replace MU := MU.keep hb
        replace MV := MV.keep hb
        replace D := D.keep hb
        replace E := E.keep hb
        replace SB := SB.keep hb
        replace hB := bt hB hb
        clear hb
        obtain ⟨c00, c01, c02, c03⟩ := X.open2
        obtain ⟨c10, c11, c12, c13⟩ := SB.open2
        go_wp2_with fail
        go_returns
        exact ⟨rfl, hB⟩
    · obtain ⟨v, v2, hz, v3, eq⟩ := Iv.quo_ok c1
      have lo := Iv.le_mn4.1 (Int.le_refl (Iv.mn4 (Iv.fl l l') (Iv.fl l h') (Iv.fl h l') (Iv.fl h h')))
      have hi := Iv.mx4_le.1 (Int.le_refl (Iv.mx4 (Iv.cl l l') (Iv.cl l h') (Iv.cl h l') (Iv.cl h h')))
      obtain ⟨mu, hx⟩ : ∃ u, Hid (Iv.mb l h n0 = u) := ⟨_, Lib.hid rfl⟩
      obtain ⟨mv, hy⟩ : ∃ u, Hid (Iv.mb l' h' n1 = u) := ⟨_, Lib.hid rfl⟩
      have hu := Iv.mb_in (n := n0) v
      have hv := Iv.mb_in (n := n1) v2
      rw [hx.out] at hu
      rw [hy.out] at hv
      have nz : mv ≠ 0 := by omega
      have q1 := Iv.quo_low hu.1 hu.2 hv.1 hv.2 hz lo.1 lo.2.1 lo.2.2.1 lo.2.2.2
      have q2 := Iv.quo_high hu.1 hu.2 hv.1 hv.2 hz hi.1 hi.2.1 hi.2.2.1 hi.2.2.2
      have fb := fl_bd (a := mu) (c := mv) (by unfold Iv.Vd at v; omega) (by unfold Iv.Vd at v; omega) nz
      have cb := cl_bd (a := mu) (c := mv) (by unfold Iv.Vd at v; omega) (by unfold Iv.Vd at v; omega) nz
      have ed := Lib.hid ((Wi.dV_n nz mu (-1)).trans (Wi.rv_yes (show Wi.inW (Wi.dv mu mv (-1)) from by unfold Iv.fl at fb; unfold Wi.inW; omega)))
      have eb := Lib.hid ((Wi.dB_n nz mu (-1)).trans (Wi.okb_yes (show Wi.inW (Wi.dv mu mv (-1)) from by unfold Iv.fl at fb; unfold Wi.inW; omega)))
      have ed2 := Lib.hid ((Wi.dV_n nz mu 1).trans (Wi.rv_yes (show Wi.inW (Wi.dv mu mv 1) from by unfold Iv.cl at cb; unfold Wi.inW; omega)))
      have eb2 := Lib.hid ((Wi.dB_n nz mu 1).trans (Wi.okb_yes (show Wi.inW (Wi.dv mu mv 1) from by unfold Iv.cl at cb; unfold Wi.inW; omega)))
      have e1 := Lib.hid (Iv.vb_yes v)
      have e2 := Lib.hid (Iv.vb_yes v2)
      have e3 := Lib.hid (show Iv.hs l' h' 0 = false from by unfold Iv.hs; rw [Iv.vb_yes v2]; simp; omega)
      have V1 := Lib.hid v
      have V2 := Lib.hid v2
      have x1 : -9223372036854775808 ≤ mu := by unfold Iv.Vd at v; omega
      have x2 : mu ≤ 9223372036854775807 := by unfold Iv.Vd at v; omega
      have y1 : -9223372036854775808 ≤ mv := by unfold Iv.Vd at v2; omega
      have y2 : mv ≤ 9223372036854775807 := by unfold Iv.Vd at v2; omega
      have p1 : -9223372036854775808 ≤ Iv.mn4 (Iv.fl l l') (Iv.fl l h') (Iv.fl h l') (Iv.fl h h') := by unfold Iv.Vd at v3; omega
      have p2 : Iv.mn4 (Iv.fl l l') (Iv.fl l h') (Iv.fl h l') (Iv.fl h h') ≤ 9223372036854775807 := by unfold Iv.Vd at v3; omega
      have p3 : -9223372036854775808 ≤ Iv.mx4 (Iv.cl l l') (Iv.cl l h') (Iv.cl h l') (Iv.cl h h') := by unfold Iv.Vd at v3; omega
      have p4 : Iv.mx4 (Iv.cl l l') (Iv.cl l h') (Iv.cl h l') (Iv.cl h h') ≤ 9223372036854775807 := by unfold Iv.Vd at v3; omega
      have EQ := Lib.hid eq
      clear eq lo hi c1 v3
      generalize Iv.mn4 (Iv.fl l l') (Iv.fl l h') (Iv.fl h l') (Iv.fl h h') = qlo at *
      generalize Iv.mx4 (Iv.cl l l') (Iv.cl l h') (Iv.cl h l') (Iv.cl h h') = qhi at *
      unfold Iv.fl at q1 fb
      unfold Iv.cl at q2 cb
      generalize Wi.dv mu mv (-1) = f at *
      generalize Wi.dv mu mv 1 = cc at *
      obtain ⟨z1, hcm1, dz1, _⟩ := Iv.cm_nl (x := f) (y := qlo) (by omega)
      obtain ⟨z2, hcm2, dz2⟩ := Iv.cm_ng (x := cc) (y := qhi) (by omega)
      replace hcm1 := Lib.hid hcm1
      replace hcm2 := Lib.hid hcm2
      have wu : Wi.Wd (Wi.Hq mu) (Wi.Lr mu) mu := Wi.wd_self (by unfold Wi.inW; omega)
      have wv_ : Wi.Wd (Wi.Hq mv) (Wi.Lr mv) mv := Wi.wd_self (by unfold Wi.inW; omega)
      have wf : Wi.Wd (Wi.Hq f) (Wi.Lr f) f := Wi.wd_self (by unfold Wi.inW; omega)
      have wc : Wi.Wd (Wi.Hq cc) (Wi.Lr cc) cc := Wi.wd_self (by unfold Wi.inW; omega)
      have wl : Wi.Wd (Wi.Hq qlo) (Wi.Lr qlo) qlo := Wi.wd_self (by unfold Wi.inW; omega)
      have wh : Wi.Wd (Wi.Hq qhi) (Wi.Lr qhi) qhi := Wi.wd_self (by unfold Wi.inW; omega)
      have S := Lib.hid (show (Iv.sqrt l h).lo = Iv.sq l ∧ (Iv.sqrt l h).hi = Iv.sqUp h ∧ (Iv.sqrt l h).er = 0 from by unfold Iv.sqrt; rw [if_pos ⟨v, by omega⟩]; exact ⟨rfl, rfl, rfl⟩)
      have s1 := sq_mono (m := l) (n := mu) (by omega) hu.1
      have s2 := sq_mono (m := mu) (n := h) (by omega) hu.2
      have s3 := sqUp_bd v (by omega)
      have s4 : Iv.sq h ≤ Iv.sqUp h := by unfold Iv.sqUp; split <;> omega
      have s5 := (sq_spec (n := mu) (by omega)).1
      have s6 : Iv.sq mu ≤ Iv.sqUp h := by omega
      unfold Iv.Vd at s3
      have sb := Lib.hid (show Wi.sqB mu = true from decide_eq_true (by omega))
      obtain ⟨sm, hsm⟩ : ∃ s, Hid (Wi.sqV mu = s) := ⟨_, Lib.hid rfl⟩
      rw [show Iv.sq mu = sm from hsm.out] at s1 s2 s5 s6
      generalize Iv.sq l = sl at *
      generalize Iv.sqUp h = sh at *
      have ew := IntWalk.i64_in sm ⟨by omega, by omega⟩
      clear hz q1 q2 fb cb nz hu hv v v2 s2 s3 s4
      go_enter Try.func11, Try.ntmps11
      have X := Blk.new w 23 #[.int .i64 (l), .int .i64 (h)]
      have hB := ba w (.cells #[.int .i64 (l), .int .i64 (h)] 23)
      have Y := Blk.new1 w (.cells #[.int .i64 (l), .int .i64 (h)] 23) 23 #[.int .i64 (l'), .int .i64 (h')]
      replace X := X.alloc (.cells #[.int .i64 (l'), .int .i64 (h')] 23)
      replace hB := bal hB (.cells #[.int .i64 (l'), .int .i64 (h')] 23)
      have NN := Blk.new2 w (.cells #[.int .i64 (l), .int .i64 (h)] 23) (.cells #[.int .i64 (l'), .int .i64 (h')] 23) 45 #[.int .u64 n0, .int .u64 n1]
      replace X := X.alloc (.cells #[.int .u64 n0, .int .u64 n1] 45)
      replace Y := Y.alloc (.cells #[.int .u64 n0, .int .u64 n1] 45)
      replace hB := bal hB (.cells #[.int .u64 n0, .int .u64 n1] 45)
      go_wp2_with fail
      refine (awake_ci _).mono ?_
      rintro e w1 ⟨rfl, hb⟩
      replace X := X.keep hb
      replace Y := Y.keep hb
      replace NN := NN.keep hb
      replace hB := bt hB hb
      clear hb
      obtain ⟨c00, c01, c02, c03⟩ := X.open2
      obtain ⟨c10, c11, c12, c13⟩ := Y.open2
      go_wp2_with fail
      refine (quo_ci _ _ _ _ _).mono ?_
      rw [EQ.out]
      rintro e w2 ⟨rfl, hb⟩
      clear c00 c01 c02 c03 c10 c11 c12 c13
      replace X := X.keep hb
      replace Y := Y.keep hb
      replace NN := NN.keep hb
      replace hB := bt hB hb
      clear hb
      have hz2 := hB.size
      have l2X := X.lt
      have l2Y := Y.lt
      have l2NN := NN.lt
      replace X := X.alloc (.cells #[.int .i64 qlo, .int .i64 qhi] 23)
      replace Y := Y.alloc (.cells #[.int .i64 qlo, .int .i64 qhi] 23)
      replace NN := NN.alloc (.cells #[.int .i64 qlo, .int .i64 qhi] 23)
      replace hB := bal hB (.cells #[.int .i64 qlo, .int .i64 qhi] 23)
      have Q := Blk.new w2 23 #[.int .i64 qlo, .int .i64 qhi]
      obtain ⟨c00, c01, c02, c03⟩ := X.open2
      go_wp2_with fail
      refine (valid_c _ _ _).mono ?_
      rw [e1.out]
      rintro e w3 ⟨rfl, hb⟩
      clear c00 c01 c02 c03
      replace X := X.keep hb
      replace Y := Y.keep hb
      replace NN := NN.keep hb
      replace Q := Q.keep hb
      replace hB := bt hB hb
      clear hb
      obtain ⟨c00, c01, c02, c03⟩ := Y.open2
      go_wp2_with fail
      refine (valid_c _ _ _).mono ?_
      rw [e2.out]
      rintro e w4 ⟨rfl, hb⟩
      clear c00 c01 c02 c03
      replace X := X.keep hb
      replace Y := Y.keep hb
      replace NN := NN.keep hb
      replace Q := Q.keep hb
      replace hB := bt hB hb
      clear hb
      obtain ⟨c00, c01, c02, c03⟩ := Y.open2
      go_wp2_with fail
      refine (has_c _ _ _ _).mono ?_
      rw [e3.out]
      rintro e w5 ⟨rfl, hb⟩
      clear c00 c01 c02 c03
      replace X := X.keep hb
      replace Y := Y.keep hb
      replace NN := NN.keep hb
      replace Q := Q.keep hb
      replace hB := bt hB hb
      clear hb
      go_wp2_with fail
      refine wp_region_inv (fun L x G wx => Below w.heap.size w wx
            ∧ w.heap.size < wx.heap.size
            ∧ Blk wx (w.heap.size) 23 #[.int .i64 (l), .int .i64 (h)]
            ∧ w.heap.size + 1 < wx.heap.size
            ∧ Blk wx (w.heap.size + 1) 23 #[.int .i64 (l'), .int .i64 (h')]
            ∧ w.heap.size + 1 + 1 < wx.heap.size
            ∧ Blk wx (w.heap.size + 1 + 1) 45 #[.int .u64 n0, .int .u64 n1]
            ∧ w2.heap.size < wx.heap.size
            ∧ Blk wx (w2.heap.size) 23 #[.int .i64 qlo, .int .i64 qhi]
            ∧ (L 10 → w.heap.size ≤ G 10 ∧ G 10 < wx.heap.size ∧ w.heap.size ≠ G 10 ∧ w.heap.size + 1 ≠ G 10 ∧ w.heap.size + 1 + 1 ≠ G 10 ∧ w2.heap.size ≠ G 10)
            ∧ (L 10 → ¬ L 12 → Blk wx (G 10) 40 #[.int .i64 (0), .int .u64 (0)])
            ∧ (L 12 → Blk wx (G 10) 40 #[.int .i64 (Wi.Hq (mu)), .int .u64 (Wi.Lr (mu))])
            ∧ (L 12 → L 10)
            ∧ (L 11 → w.heap.size ≤ G 11 ∧ G 11 < wx.heap.size ∧ w.heap.size ≠ G 11 ∧ w.heap.size + 1 ≠ G 11 ∧ w.heap.size + 1 + 1 ≠ G 11 ∧ w2.heap.size ≠ G 11)
            ∧ (L 11 → ¬ L 13 → Blk wx (G 11) 40 #[.int .i64 (0), .int .u64 (0)])
            ∧ (L 13 → Blk wx (G 11) 40 #[.int .i64 (Wi.Hq (mv)), .int .u64 (Wi.Lr (mv))])
            ∧ (L 13 → L 11)
            ∧ (L 11 → L 10 → G 11 ≠ G 10)
            ∧ (L 0 → x 47 = .agg #[.int .i64 (l), .int .i64 (h)])
            ∧ (L 1 → x 48 = .pointer (some ⟨w.heap.size + 1 + 1, 0, none⟩))
            ∧ (L 2 → x 49 = .int .u64 n0)
            ∧ (L 3 → x 50 = .int .i64 (mu))
            ∧ (L 4 → x 51 = .agg #[.int .i64 (Wi.Hq (mu)), .int .u64 (Wi.Lr (mu))])
            ∧ (L 5 → x 52 = .agg #[.int .i64 (l'), .int .i64 (h')])
            ∧ (L 6 → x 53 = .pointer (some ⟨w.heap.size + 1 + 1, 1, none⟩))
            ∧ (L 7 → x 54 = .int .u64 n1)
            ∧ (L 8 → x 55 = .int .i64 (mv))
            ∧ (L 9 → x 56 = .agg #[.int .i64 (Wi.Hq (mv)), .int .u64 (Wi.Lr (mv))])
            ∧ (L 10 → x 9 = .pointer (some ⟨G 10, 0, none⟩))
            ∧ (L 11 → x 10 = .pointer (some ⟨G 11, 0, none⟩))) [47, 48, 49, 50, 51, 52, 53, 54, 55, 56, 9, 10] 14 (by kernel_rfl) (by kernel_rfl) (by kernel_rfl) ?h0 ?st ?fin
      case h0 =>
        exact ⟨bdr hB, Blk.lt X.drew, X.drew, Blk.lt Y.drew, Y.drew, Blk.lt NN.drew, NN.drew, Blk.lt Q.drew, Q.drew, fun q => q.elim, fun q => q.elim, fun q => q.elim, fun q => q.elim, fun q => q.elim, fun q => q.elim, fun q => q.elim, fun q => q.elim, fun q _ => q.elim, fun q => q.elim, fun q => q.elim, fun q => q.elim, fun q => q.elim, fun q => q.elim, fun q => q.elim, fun q => q.elim, fun q => q.elim, fun q => q.elim, fun q => q.elim, fun q => q.elim, fun q => q.elim⟩
      case st =>
        refine StepsOk.cons (i := 0) rfl (fun L x G w1 K Q hn hp hJ hK => ?_) ?_
        · skip
          have hc := Blk.open2 ((hJ.2.2.1))
          have c0 := hc.1
          have c1 := hc.2.1
          have c2 := hc.2.2.1
          have c3 := hc.2.2.2
          clear hc
          simp only [putAll, Act.put, List.setIfInBounds_toArray, List.set_cons_zero, List.set_cons_succ]
          go_simp
          refine hK _ G _ (by kernel_rfl) ?_
          exact ⟨(hJ.1),
            (hJ.2.1),
            (hJ.2.2.1),
            (hJ.2.2.2.1),
            (hJ.2.2.2.2.1),
            (hJ.2.2.2.2.2.1),
            (hJ.2.2.2.2.2.2.1),
            (hJ.2.2.2.2.2.2.2.1),
            (hJ.2.2.2.2.2.2.2.2.1),
            fun q => (hJ.2.2.2.2.2.2.2.2.2.1) (q.resolve_left (by decide)),
            fun q n => (hJ.2.2.2.2.2.2.2.2.2.2.1) (q.resolve_left (by decide)) (fun m => n (.inr m)),
            fun q => (hJ.2.2.2.2.2.2.2.2.2.2.2.1) (q.resolve_left (by decide)),
            fun q => .inr ((hJ.2.2.2.2.2.2.2.2.2.2.2.2.1) (q.resolve_left (by decide))),
            fun q => (hJ.2.2.2.2.2.2.2.2.2.2.2.2.2.1) (q.resolve_left (by decide)),
            fun q n => (hJ.2.2.2.2.2.2.2.2.2.2.2.2.2.2.1) (q.resolve_left (by decide)) (fun m => n (.inr m)),
            fun q => (hJ.2.2.2.2.2.2.2.2.2.2.2.2.2.2.2.1) (q.resolve_left (by decide)),
            fun q => .inr ((hJ.2.2.2.2.2.2.2.2.2.2.2.2.2.2.2.2.1) (q.resolve_left (by decide))),
            fun q r => (hJ.2.2.2.2.2.2.2.2.2.2.2.2.2.2.2.2.2.1) (q.resolve_left (by decide)) (r.resolve_left (by decide)),
            fun _ => rfl,
            fun q => (hJ.2.2.2.2.2.2.2.2.2.2.2.2.2.2.2.2.2.2.2.1) (q.resolve_left (by decide)),
            fun q => (hJ.2.2.2.2.2.2.2.2.2.2.2.2.2.2.2.2.2.2.2.2.1) (q.resolve_left (by decide)),
            fun q => (hJ.2.2.2.2.2.2.2.2.2.2.2.2.2.2.2.2.2.2.2.2.2.1) (q.resolve_left (by decide)),
            fun q => (hJ.2.2.2.2.2.2.2.2.2.2.2.2.2.2.2.2.2.2.2.2.2.2.1) (q.resolve_left (by decide)),
            fun q => (hJ.2.2.2.2.2.2.2.2.2.2.2.2.2.2.2.2.2.2.2.2.2.2.2.1) (q.resolve_left (by decide)),
            fun q => (hJ.2.2.2.2.2.2.2.2.2.2.2.2.2.2.2.2.2.2.2.2.2.2.2.2.1) (q.resolve_left (by decide)),
            fun q => (hJ.2.2.2.2.2.2.2.2.2.2.2.2.2.2.2.2.2.2.2.2.2.2.2.2.2.1) (q.resolve_left (by decide)),
            fun q => (hJ.2.2.2.2.2.2.2.2.2.2.2.2.2.2.2.2.2.2.2.2.2.2.2.2.2.2.1) (q.resolve_left (by decide)),
            fun q => (hJ.2.2.2.2.2.2.2.2.2.2.2.2.2.2.2.2.2.2.2.2.2.2.2.2.2.2.2.1) (q.resolve_left (by decide)),
            fun q => (hJ.2.2.2.2.2.2.2.2.2.2.2.2.2.2.2.2.2.2.2.2.2.2.2.2.2.2.2.2.1) (q.resolve_left (by decide)),
            fun q => (hJ.2.2.2.2.2.2.2.2.2.2.2.2.2.2.2.2.2.2.2.2.2.2.2.2.2.2.2.2.2) (q.resolve_left (by decide))⟩
        refine StepsOk.cons (i := 1) rfl (fun L x G w1 K Q hn hp hJ hK => ?_) ?_
        · skip
          simp only [putAll, Act.put, List.setIfInBounds_toArray, List.set_cons_zero, List.set_cons_succ]
          go_simp
          refine hK _ G _ (by kernel_rfl) ?_
          exact ⟨(hJ.1),
            (hJ.2.1),
            (hJ.2.2.1),
            (hJ.2.2.2.1),
            (hJ.2.2.2.2.1),
            (hJ.2.2.2.2.2.1),
            (hJ.2.2.2.2.2.2.1),
            (hJ.2.2.2.2.2.2.2.1),
            (hJ.2.2.2.2.2.2.2.2.1),
            fun q => (hJ.2.2.2.2.2.2.2.2.2.1) (q.resolve_left (by decide)),
            fun q n => (hJ.2.2.2.2.2.2.2.2.2.2.1) (q.resolve_left (by decide)) (fun m => n (.inr m)),
            fun q => (hJ.2.2.2.2.2.2.2.2.2.2.2.1) (q.resolve_left (by decide)),
            fun q => .inr ((hJ.2.2.2.2.2.2.2.2.2.2.2.2.1) (q.resolve_left (by decide))),
            fun q => (hJ.2.2.2.2.2.2.2.2.2.2.2.2.2.1) (q.resolve_left (by decide)),
            fun q n => (hJ.2.2.2.2.2.2.2.2.2.2.2.2.2.2.1) (q.resolve_left (by decide)) (fun m => n (.inr m)),
            fun q => (hJ.2.2.2.2.2.2.2.2.2.2.2.2.2.2.2.1) (q.resolve_left (by decide)),
            fun q => .inr ((hJ.2.2.2.2.2.2.2.2.2.2.2.2.2.2.2.2.1) (q.resolve_left (by decide))),
            fun q r => (hJ.2.2.2.2.2.2.2.2.2.2.2.2.2.2.2.2.2.1) (q.resolve_left (by decide)) (r.resolve_left (by decide)),
            fun q => (hJ.2.2.2.2.2.2.2.2.2.2.2.2.2.2.2.2.2.2.1) (q.resolve_left (by decide)),
            fun _ => rfl,
            fun q => (hJ.2.2.2.2.2.2.2.2.2.2.2.2.2.2.2.2.2.2.2.2.1) (q.resolve_left (by decide)),
            fun q => (hJ.2.2.2.2.2.2.2.2.2.2.2.2.2.2.2.2.2.2.2.2.2.1) (q.resolve_left (by decide)),
            fun q => (hJ.2.2.2.2.2.2.2.2.2.2.2.2.2.2.2.2.2.2.2.2.2.2.1) (q.resolve_left (by decide)),
            fun q => (hJ.2.2.2.2.2.2.2.2.2.2.2.2.2.2.2.2.2.2.2.2.2.2.2.1) (q.resolve_left (by decide)),
            fun q => (hJ.2.2.2.2.2.2.2.2.2.2.2.2.2.2.2.2.2.2.2.2.2.2.2.2.1) (q.resolve_left (by decide)),
            fun q => (hJ.2.2.2.2.2.2.2.2.2.2.2.2.2.2.2.2.2.2.2.2.2.2.2.2.2.1) (q.resolve_left (by decide)),
            fun q => (hJ.2.2.2.2.2.2.2.2.2.2.2.2.2.2.2.2.2.2.2.2.2.2.2.2.2.2.1) (q.resolve_left (by decide)),
            fun q => (hJ.2.2.2.2.2.2.2.2.2.2.2.2.2.2.2.2.2.2.2.2.2.2.2.2.2.2.2.1) (q.resolve_left (by decide)),
            fun q => (hJ.2.2.2.2.2.2.2.2.2.2.2.2.2.2.2.2.2.2.2.2.2.2.2.2.2.2.2.2.1) (q.resolve_left (by decide)),
            fun q => (hJ.2.2.2.2.2.2.2.2.2.2.2.2.2.2.2.2.2.2.2.2.2.2.2.2.2.2.2.2.2) (q.resolve_left (by decide))⟩
        refine StepsOk.cons (i := 2) rfl (fun L x G w1 K Q hn hp hJ hK => ?_) ?_
        · skip
          have p1 : L 1 := hp ⟨1, .data⟩ (by simp) rfl
          have e1 := (hJ.2.2.2.2.2.2.2.2.2.2.2.2.2.2.2.2.2.2.2.1) p1
          have hc := Blk.open2 ((hJ.2.2.2.2.2.2.1))
          have c0 := hc.1
          have c1 := hc.2.1
          have c2 := hc.2.2.1
          have c3 := hc.2.2.2
          clear hc
          simp only [putAll, Act.put, List.setIfInBounds_toArray, List.set_cons_zero, List.set_cons_succ]
          go_simp
          refine hK _ G _ (by kernel_rfl) ?_
          exact ⟨(hJ.1),
            (hJ.2.1),
            (hJ.2.2.1),
            (hJ.2.2.2.1),
            (hJ.2.2.2.2.1),
            (hJ.2.2.2.2.2.1),
            (hJ.2.2.2.2.2.2.1),
            (hJ.2.2.2.2.2.2.2.1),
            (hJ.2.2.2.2.2.2.2.2.1),
            fun q => (hJ.2.2.2.2.2.2.2.2.2.1) (q.resolve_left (by decide)),
            fun q n => (hJ.2.2.2.2.2.2.2.2.2.2.1) (q.resolve_left (by decide)) (fun m => n (.inr m)),
            fun q => (hJ.2.2.2.2.2.2.2.2.2.2.2.1) (q.resolve_left (by decide)),
            fun q => .inr ((hJ.2.2.2.2.2.2.2.2.2.2.2.2.1) (q.resolve_left (by decide))),
            fun q => (hJ.2.2.2.2.2.2.2.2.2.2.2.2.2.1) (q.resolve_left (by decide)),
            fun q n => (hJ.2.2.2.2.2.2.2.2.2.2.2.2.2.2.1) (q.resolve_left (by decide)) (fun m => n (.inr m)),
            fun q => (hJ.2.2.2.2.2.2.2.2.2.2.2.2.2.2.2.1) (q.resolve_left (by decide)),
            fun q => .inr ((hJ.2.2.2.2.2.2.2.2.2.2.2.2.2.2.2.2.1) (q.resolve_left (by decide))),
            fun q r => (hJ.2.2.2.2.2.2.2.2.2.2.2.2.2.2.2.2.2.1) (q.resolve_left (by decide)) (r.resolve_left (by decide)),
            fun q => (hJ.2.2.2.2.2.2.2.2.2.2.2.2.2.2.2.2.2.2.1) (q.resolve_left (by decide)),
            fun _ => by first | exact rfl | exact e1,
            fun _ => rfl,
            fun q => (hJ.2.2.2.2.2.2.2.2.2.2.2.2.2.2.2.2.2.2.2.2.2.1) (q.resolve_left (by decide)),
            fun q => (hJ.2.2.2.2.2.2.2.2.2.2.2.2.2.2.2.2.2.2.2.2.2.2.1) (q.resolve_left (by decide)),
            fun q => (hJ.2.2.2.2.2.2.2.2.2.2.2.2.2.2.2.2.2.2.2.2.2.2.2.1) (q.resolve_left (by decide)),
            fun q => (hJ.2.2.2.2.2.2.2.2.2.2.2.2.2.2.2.2.2.2.2.2.2.2.2.2.1) (q.resolve_left (by decide)),
            fun q => (hJ.2.2.2.2.2.2.2.2.2.2.2.2.2.2.2.2.2.2.2.2.2.2.2.2.2.1) (q.resolve_left (by decide)),
            fun q => (hJ.2.2.2.2.2.2.2.2.2.2.2.2.2.2.2.2.2.2.2.2.2.2.2.2.2.2.1) (q.resolve_left (by decide)),
            fun q => (hJ.2.2.2.2.2.2.2.2.2.2.2.2.2.2.2.2.2.2.2.2.2.2.2.2.2.2.2.1) (q.resolve_left (by decide)),
            fun q => (hJ.2.2.2.2.2.2.2.2.2.2.2.2.2.2.2.2.2.2.2.2.2.2.2.2.2.2.2.2.1) (q.resolve_left (by decide)),
            fun q => (hJ.2.2.2.2.2.2.2.2.2.2.2.2.2.2.2.2.2.2.2.2.2.2.2.2.2.2.2.2.2) (q.resolve_left (by decide))⟩
        refine StepsOk.cons (i := 3) rfl (fun L x G w1 K Q hn hp hJ hK => ?_) ?_
        · skip
          have p0 : L 0 := hp ⟨0, .data⟩ (by simp) rfl
          have e0 := (hJ.2.2.2.2.2.2.2.2.2.2.2.2.2.2.2.2.2.2.1) p0
          have p2 : L 2 := hp ⟨2, .data⟩ (by simp) rfl
          have e2 := (hJ.2.2.2.2.2.2.2.2.2.2.2.2.2.2.2.2.2.2.2.2.1) p2
          simp only [putAll, Act.put, List.setIfInBounds_toArray, List.set_cons_zero, List.set_cons_succ]
          go_simp
          refine (member_c _ _ _ _ V1.out a1 a2).mono ?_
          rw [hx.out]
          rintro e w2 ⟨rfl, hb⟩
          have hz := hb.size
          try go_simp
          refine hK _ G _ (by kernel_rfl) ?_
          exact ⟨bt (hJ.1) hb,
            Nat.lt_of_lt_of_le (hJ.2.1) hb.size,
            Blk.keep ((hJ.2.2.1)) hb,
            Nat.lt_of_lt_of_le (hJ.2.2.2.1) hb.size,
            Blk.keep ((hJ.2.2.2.2.1)) hb,
            Nat.lt_of_lt_of_le (hJ.2.2.2.2.2.1) hb.size,
            Blk.keep ((hJ.2.2.2.2.2.2.1)) hb,
            Nat.lt_of_lt_of_le (hJ.2.2.2.2.2.2.2.1) hb.size,
            Blk.keep ((hJ.2.2.2.2.2.2.2.2.1)) hb,
            fun q => ⟨((hJ.2.2.2.2.2.2.2.2.2.1) (q.resolve_left (by decide))).1, by have := ((hJ.2.2.2.2.2.2.2.2.2.1) (q.resolve_left (by decide))).2.1; omega, ((hJ.2.2.2.2.2.2.2.2.2.1) (q.resolve_left (by decide))).2.2⟩,
            fun q n => Blk.keep ((hJ.2.2.2.2.2.2.2.2.2.2.1) (q.resolve_left (by decide)) (fun m => n (.inr m))) hb,
            fun q => Blk.keep ((hJ.2.2.2.2.2.2.2.2.2.2.2.1) (q.resolve_left (by decide))) hb,
            fun q => .inr ((hJ.2.2.2.2.2.2.2.2.2.2.2.2.1) (q.resolve_left (by decide))),
            fun q => ⟨((hJ.2.2.2.2.2.2.2.2.2.2.2.2.2.1) (q.resolve_left (by decide))).1, by have := ((hJ.2.2.2.2.2.2.2.2.2.2.2.2.2.1) (q.resolve_left (by decide))).2.1; omega, ((hJ.2.2.2.2.2.2.2.2.2.2.2.2.2.1) (q.resolve_left (by decide))).2.2⟩,
            fun q n => Blk.keep ((hJ.2.2.2.2.2.2.2.2.2.2.2.2.2.2.1) (q.resolve_left (by decide)) (fun m => n (.inr m))) hb,
            fun q => Blk.keep ((hJ.2.2.2.2.2.2.2.2.2.2.2.2.2.2.2.1) (q.resolve_left (by decide))) hb,
            fun q => .inr ((hJ.2.2.2.2.2.2.2.2.2.2.2.2.2.2.2.2.1) (q.resolve_left (by decide))),
            fun q r => (hJ.2.2.2.2.2.2.2.2.2.2.2.2.2.2.2.2.2.1) (q.resolve_left (by decide)) (r.resolve_left (by decide)),
            fun _ => by first | exact rfl | exact e0,
            fun q => (hJ.2.2.2.2.2.2.2.2.2.2.2.2.2.2.2.2.2.2.2.1) (q.resolve_left (by decide)),
            fun _ => by first | exact rfl | exact e2,
            fun _ => rfl,
            fun q => (hJ.2.2.2.2.2.2.2.2.2.2.2.2.2.2.2.2.2.2.2.2.2.2.1) (q.resolve_left (by decide)),
            fun q => (hJ.2.2.2.2.2.2.2.2.2.2.2.2.2.2.2.2.2.2.2.2.2.2.2.1) (q.resolve_left (by decide)),
            fun q => (hJ.2.2.2.2.2.2.2.2.2.2.2.2.2.2.2.2.2.2.2.2.2.2.2.2.1) (q.resolve_left (by decide)),
            fun q => (hJ.2.2.2.2.2.2.2.2.2.2.2.2.2.2.2.2.2.2.2.2.2.2.2.2.2.1) (q.resolve_left (by decide)),
            fun q => (hJ.2.2.2.2.2.2.2.2.2.2.2.2.2.2.2.2.2.2.2.2.2.2.2.2.2.2.1) (q.resolve_left (by decide)),
            fun q => (hJ.2.2.2.2.2.2.2.2.2.2.2.2.2.2.2.2.2.2.2.2.2.2.2.2.2.2.2.1) (q.resolve_left (by decide)),
            fun q => (hJ.2.2.2.2.2.2.2.2.2.2.2.2.2.2.2.2.2.2.2.2.2.2.2.2.2.2.2.2.1) (q.resolve_left (by decide)),
            fun q => (hJ.2.2.2.2.2.2.2.2.2.2.2.2.2.2.2.2.2.2.2.2.2.2.2.2.2.2.2.2.2) (q.resolve_left (by decide))⟩
        refine StepsOk.cons (i := 4) rfl (fun L x G w1 K Q hn hp hJ hK => ?_) ?_
        · skip
          have p3 : L 3 := hp ⟨3, .data⟩ (by simp) rfl
          have e3 := (hJ.2.2.2.2.2.2.2.2.2.2.2.2.2.2.2.2.2.2.2.2.2.1) p3
          simp only [putAll, Act.put, List.setIfInBounds_toArray, List.set_cons_zero, List.set_cons_succ]
          go_simp
          refine (of_c _ _ x1 x2).mono ?_
          rintro e w2 ⟨rfl, hb⟩
          have hz := hb.size
          try go_simp
          refine hK _ G _ (by kernel_rfl) ?_
          exact ⟨bt (hJ.1) hb,
            Nat.lt_of_lt_of_le (hJ.2.1) hb.size,
            Blk.keep ((hJ.2.2.1)) hb,
            Nat.lt_of_lt_of_le (hJ.2.2.2.1) hb.size,
            Blk.keep ((hJ.2.2.2.2.1)) hb,
            Nat.lt_of_lt_of_le (hJ.2.2.2.2.2.1) hb.size,
            Blk.keep ((hJ.2.2.2.2.2.2.1)) hb,
            Nat.lt_of_lt_of_le (hJ.2.2.2.2.2.2.2.1) hb.size,
            Blk.keep ((hJ.2.2.2.2.2.2.2.2.1)) hb,
            fun q => ⟨((hJ.2.2.2.2.2.2.2.2.2.1) (q.resolve_left (by decide))).1, by have := ((hJ.2.2.2.2.2.2.2.2.2.1) (q.resolve_left (by decide))).2.1; omega, ((hJ.2.2.2.2.2.2.2.2.2.1) (q.resolve_left (by decide))).2.2⟩,
            fun q n => Blk.keep ((hJ.2.2.2.2.2.2.2.2.2.2.1) (q.resolve_left (by decide)) (fun m => n (.inr m))) hb,
            fun q => Blk.keep ((hJ.2.2.2.2.2.2.2.2.2.2.2.1) (q.resolve_left (by decide))) hb,
            fun q => .inr ((hJ.2.2.2.2.2.2.2.2.2.2.2.2.1) (q.resolve_left (by decide))),
            fun q => ⟨((hJ.2.2.2.2.2.2.2.2.2.2.2.2.2.1) (q.resolve_left (by decide))).1, by have := ((hJ.2.2.2.2.2.2.2.2.2.2.2.2.2.1) (q.resolve_left (by decide))).2.1; omega, ((hJ.2.2.2.2.2.2.2.2.2.2.2.2.2.1) (q.resolve_left (by decide))).2.2⟩,
            fun q n => Blk.keep ((hJ.2.2.2.2.2.2.2.2.2.2.2.2.2.2.1) (q.resolve_left (by decide)) (fun m => n (.inr m))) hb,
            fun q => Blk.keep ((hJ.2.2.2.2.2.2.2.2.2.2.2.2.2.2.2.1) (q.resolve_left (by decide))) hb,
            fun q => .inr ((hJ.2.2.2.2.2.2.2.2.2.2.2.2.2.2.2.2.1) (q.resolve_left (by decide))),
            fun q r => (hJ.2.2.2.2.2.2.2.2.2.2.2.2.2.2.2.2.2.1) (q.resolve_left (by decide)) (r.resolve_left (by decide)),
            fun q => (hJ.2.2.2.2.2.2.2.2.2.2.2.2.2.2.2.2.2.2.1) (q.resolve_left (by decide)),
            fun q => (hJ.2.2.2.2.2.2.2.2.2.2.2.2.2.2.2.2.2.2.2.1) (q.resolve_left (by decide)),
            fun q => (hJ.2.2.2.2.2.2.2.2.2.2.2.2.2.2.2.2.2.2.2.2.1) (q.resolve_left (by decide)),
            fun _ => by first | exact rfl | exact e3,
            fun _ => rfl,
            fun q => (hJ.2.2.2.2.2.2.2.2.2.2.2.2.2.2.2.2.2.2.2.2.2.2.2.1) (q.resolve_left (by decide)),
            fun q => (hJ.2.2.2.2.2.2.2.2.2.2.2.2.2.2.2.2.2.2.2.2.2.2.2.2.1) (q.resolve_left (by decide)),
            fun q => (hJ.2.2.2.2.2.2.2.2.2.2.2.2.2.2.2.2.2.2.2.2.2.2.2.2.2.1) (q.resolve_left (by decide)),
            fun q => (hJ.2.2.2.2.2.2.2.2.2.2.2.2.2.2.2.2.2.2.2.2.2.2.2.2.2.2.1) (q.resolve_left (by decide)),
            fun q => (hJ.2.2.2.2.2.2.2.2.2.2.2.2.2.2.2.2.2.2.2.2.2.2.2.2.2.2.2.1) (q.resolve_left (by decide)),
            fun q => (hJ.2.2.2.2.2.2.2.2.2.2.2.2.2.2.2.2.2.2.2.2.2.2.2.2.2.2.2.2.1) (q.resolve_left (by decide)),
            fun q => (hJ.2.2.2.2.2.2.2.2.2.2.2.2.2.2.2.2.2.2.2.2.2.2.2.2.2.2.2.2.2) (q.resolve_left (by decide))⟩
        refine StepsOk.cons (i := 5) rfl (fun L x G w1 K Q hn hp hJ hK => ?_) ?_
        · skip
          have hc := Blk.open2 ((hJ.2.2.2.2.1))
          have c0 := hc.1
          have c1 := hc.2.1
          have c2 := hc.2.2.1
          have c3 := hc.2.2.2
          clear hc
          simp only [putAll, Act.put, List.setIfInBounds_toArray, List.set_cons_zero, List.set_cons_succ]
          go_simp
          refine hK _ G _ (by kernel_rfl) ?_
          exact ⟨(hJ.1),
            (hJ.2.1),
            (hJ.2.2.1),
            (hJ.2.2.2.1),
            (hJ.2.2.2.2.1),
            (hJ.2.2.2.2.2.1),
            (hJ.2.2.2.2.2.2.1),
            (hJ.2.2.2.2.2.2.2.1),
            (hJ.2.2.2.2.2.2.2.2.1),
            fun q => (hJ.2.2.2.2.2.2.2.2.2.1) (q.resolve_left (by decide)),
            fun q n => (hJ.2.2.2.2.2.2.2.2.2.2.1) (q.resolve_left (by decide)) (fun m => n (.inr m)),
            fun q => (hJ.2.2.2.2.2.2.2.2.2.2.2.1) (q.resolve_left (by decide)),
            fun q => .inr ((hJ.2.2.2.2.2.2.2.2.2.2.2.2.1) (q.resolve_left (by decide))),
            fun q => (hJ.2.2.2.2.2.2.2.2.2.2.2.2.2.1) (q.resolve_left (by decide)),
            fun q n => (hJ.2.2.2.2.2.2.2.2.2.2.2.2.2.2.1) (q.resolve_left (by decide)) (fun m => n (.inr m)),
            fun q => (hJ.2.2.2.2.2.2.2.2.2.2.2.2.2.2.2.1) (q.resolve_left (by decide)),
            fun q => .inr ((hJ.2.2.2.2.2.2.2.2.2.2.2.2.2.2.2.2.1) (q.resolve_left (by decide))),
            fun q r => (hJ.2.2.2.2.2.2.2.2.2.2.2.2.2.2.2.2.2.1) (q.resolve_left (by decide)) (r.resolve_left (by decide)),
            fun q => (hJ.2.2.2.2.2.2.2.2.2.2.2.2.2.2.2.2.2.2.1) (q.resolve_left (by decide)),
            fun q => (hJ.2.2.2.2.2.2.2.2.2.2.2.2.2.2.2.2.2.2.2.1) (q.resolve_left (by decide)),
            fun q => (hJ.2.2.2.2.2.2.2.2.2.2.2.2.2.2.2.2.2.2.2.2.1) (q.resolve_left (by decide)),
            fun q => (hJ.2.2.2.2.2.2.2.2.2.2.2.2.2.2.2.2.2.2.2.2.2.1) (q.resolve_left (by decide)),
            fun q => (hJ.2.2.2.2.2.2.2.2.2.2.2.2.2.2.2.2.2.2.2.2.2.2.1) (q.resolve_left (by decide)),
            fun _ => rfl,
            fun q => (hJ.2.2.2.2.2.2.2.2.2.2.2.2.2.2.2.2.2.2.2.2.2.2.2.2.1) (q.resolve_left (by decide)),
            fun q => (hJ.2.2.2.2.2.2.2.2.2.2.2.2.2.2.2.2.2.2.2.2.2.2.2.2.2.1) (q.resolve_left (by decide)),
            fun q => (hJ.2.2.2.2.2.2.2.2.2.2.2.2.2.2.2.2.2.2.2.2.2.2.2.2.2.2.1) (q.resolve_left (by decide)),
            fun q => (hJ.2.2.2.2.2.2.2.2.2.2.2.2.2.2.2.2.2.2.2.2.2.2.2.2.2.2.2.1) (q.resolve_left (by decide)),
            fun q => (hJ.2.2.2.2.2.2.2.2.2.2.2.2.2.2.2.2.2.2.2.2.2.2.2.2.2.2.2.2.1) (q.resolve_left (by decide)),
            fun q => (hJ.2.2.2.2.2.2.2.2.2.2.2.2.2.2.2.2.2.2.2.2.2.2.2.2.2.2.2.2.2) (q.resolve_left (by decide))⟩
        refine StepsOk.cons (i := 6) rfl (fun L x G w1 K Q hn hp hJ hK => ?_) ?_
        · skip
          simp only [putAll, Act.put, List.setIfInBounds_toArray, List.set_cons_zero, List.set_cons_succ]
          go_simp
          refine hK _ G _ (by kernel_rfl) ?_
          exact ⟨(hJ.1),
            (hJ.2.1),
            (hJ.2.2.1),
            (hJ.2.2.2.1),
            (hJ.2.2.2.2.1),
            (hJ.2.2.2.2.2.1),
            (hJ.2.2.2.2.2.2.1),
            (hJ.2.2.2.2.2.2.2.1),
            (hJ.2.2.2.2.2.2.2.2.1),
            fun q => (hJ.2.2.2.2.2.2.2.2.2.1) (q.resolve_left (by decide)),
            fun q n => (hJ.2.2.2.2.2.2.2.2.2.2.1) (q.resolve_left (by decide)) (fun m => n (.inr m)),
            fun q => (hJ.2.2.2.2.2.2.2.2.2.2.2.1) (q.resolve_left (by decide)),
            fun q => .inr ((hJ.2.2.2.2.2.2.2.2.2.2.2.2.1) (q.resolve_left (by decide))),
            fun q => (hJ.2.2.2.2.2.2.2.2.2.2.2.2.2.1) (q.resolve_left (by decide)),
            fun q n => (hJ.2.2.2.2.2.2.2.2.2.2.2.2.2.2.1) (q.resolve_left (by decide)) (fun m => n (.inr m)),
            fun q => (hJ.2.2.2.2.2.2.2.2.2.2.2.2.2.2.2.1) (q.resolve_left (by decide)),
            fun q => .inr ((hJ.2.2.2.2.2.2.2.2.2.2.2.2.2.2.2.2.1) (q.resolve_left (by decide))),
            fun q r => (hJ.2.2.2.2.2.2.2.2.2.2.2.2.2.2.2.2.2.1) (q.resolve_left (by decide)) (r.resolve_left (by decide)),
            fun q => (hJ.2.2.2.2.2.2.2.2.2.2.2.2.2.2.2.2.2.2.1) (q.resolve_left (by decide)),
            fun q => (hJ.2.2.2.2.2.2.2.2.2.2.2.2.2.2.2.2.2.2.2.1) (q.resolve_left (by decide)),
            fun q => (hJ.2.2.2.2.2.2.2.2.2.2.2.2.2.2.2.2.2.2.2.2.1) (q.resolve_left (by decide)),
            fun q => (hJ.2.2.2.2.2.2.2.2.2.2.2.2.2.2.2.2.2.2.2.2.2.1) (q.resolve_left (by decide)),
            fun q => (hJ.2.2.2.2.2.2.2.2.2.2.2.2.2.2.2.2.2.2.2.2.2.2.1) (q.resolve_left (by decide)),
            fun q => (hJ.2.2.2.2.2.2.2.2.2.2.2.2.2.2.2.2.2.2.2.2.2.2.2.1) (q.resolve_left (by decide)),
            fun _ => rfl,
            fun q => (hJ.2.2.2.2.2.2.2.2.2.2.2.2.2.2.2.2.2.2.2.2.2.2.2.2.2.1) (q.resolve_left (by decide)),
            fun q => (hJ.2.2.2.2.2.2.2.2.2.2.2.2.2.2.2.2.2.2.2.2.2.2.2.2.2.2.1) (q.resolve_left (by decide)),
            fun q => (hJ.2.2.2.2.2.2.2.2.2.2.2.2.2.2.2.2.2.2.2.2.2.2.2.2.2.2.2.1) (q.resolve_left (by decide)),
            fun q => (hJ.2.2.2.2.2.2.2.2.2.2.2.2.2.2.2.2.2.2.2.2.2.2.2.2.2.2.2.2.1) (q.resolve_left (by decide)),
            fun q => (hJ.2.2.2.2.2.2.2.2.2.2.2.2.2.2.2.2.2.2.2.2.2.2.2.2.2.2.2.2.2) (q.resolve_left (by decide))⟩
        refine StepsOk.cons (i := 7) rfl (fun L x G w1 K Q hn hp hJ hK => ?_) ?_
        · skip
          have p6 : L 6 := hp ⟨6, .data⟩ (by simp) rfl
          have e6 := (hJ.2.2.2.2.2.2.2.2.2.2.2.2.2.2.2.2.2.2.2.2.2.2.2.2.1) p6
          have hc := Blk.open2 ((hJ.2.2.2.2.2.2.1))
          have c0 := hc.1
          have c1 := hc.2.1
          have c2 := hc.2.2.1
          have c3 := hc.2.2.2
          clear hc
          simp only [putAll, Act.put, List.setIfInBounds_toArray, List.set_cons_zero, List.set_cons_succ]
          go_simp
          refine hK _ G _ (by kernel_rfl) ?_
          exact ⟨(hJ.1),
            (hJ.2.1),
            (hJ.2.2.1),
            (hJ.2.2.2.1),
            (hJ.2.2.2.2.1),
            (hJ.2.2.2.2.2.1),
            (hJ.2.2.2.2.2.2.1),
            (hJ.2.2.2.2.2.2.2.1),
            (hJ.2.2.2.2.2.2.2.2.1),
            fun q => (hJ.2.2.2.2.2.2.2.2.2.1) (q.resolve_left (by decide)),
            fun q n => (hJ.2.2.2.2.2.2.2.2.2.2.1) (q.resolve_left (by decide)) (fun m => n (.inr m)),
            fun q => (hJ.2.2.2.2.2.2.2.2.2.2.2.1) (q.resolve_left (by decide)),
            fun q => .inr ((hJ.2.2.2.2.2.2.2.2.2.2.2.2.1) (q.resolve_left (by decide))),
            fun q => (hJ.2.2.2.2.2.2.2.2.2.2.2.2.2.1) (q.resolve_left (by decide)),
            fun q n => (hJ.2.2.2.2.2.2.2.2.2.2.2.2.2.2.1) (q.resolve_left (by decide)) (fun m => n (.inr m)),
            fun q => (hJ.2.2.2.2.2.2.2.2.2.2.2.2.2.2.2.1) (q.resolve_left (by decide)),
            fun q => .inr ((hJ.2.2.2.2.2.2.2.2.2.2.2.2.2.2.2.2.1) (q.resolve_left (by decide))),
            fun q r => (hJ.2.2.2.2.2.2.2.2.2.2.2.2.2.2.2.2.2.1) (q.resolve_left (by decide)) (r.resolve_left (by decide)),
            fun q => (hJ.2.2.2.2.2.2.2.2.2.2.2.2.2.2.2.2.2.2.1) (q.resolve_left (by decide)),
            fun q => (hJ.2.2.2.2.2.2.2.2.2.2.2.2.2.2.2.2.2.2.2.1) (q.resolve_left (by decide)),
            fun q => (hJ.2.2.2.2.2.2.2.2.2.2.2.2.2.2.2.2.2.2.2.2.1) (q.resolve_left (by decide)),
            fun q => (hJ.2.2.2.2.2.2.2.2.2.2.2.2.2.2.2.2.2.2.2.2.2.1) (q.resolve_left (by decide)),
            fun q => (hJ.2.2.2.2.2.2.2.2.2.2.2.2.2.2.2.2.2.2.2.2.2.2.1) (q.resolve_left (by decide)),
            fun q => (hJ.2.2.2.2.2.2.2.2.2.2.2.2.2.2.2.2.2.2.2.2.2.2.2.1) (q.resolve_left (by decide)),
            fun _ => by first | exact rfl | exact e6,
            fun _ => rfl,
            fun q => (hJ.2.2.2.2.2.2.2.2.2.2.2.2.2.2.2.2.2.2.2.2.2.2.2.2.2.2.1) (q.resolve_left (by decide)),
            fun q => (hJ.2.2.2.2.2.2.2.2.2.2.2.2.2.2.2.2.2.2.2.2.2.2.2.2.2.2.2.1) (q.resolve_left (by decide)),
            fun q => (hJ.2.2.2.2.2.2.2.2.2.2.2.2.2.2.2.2.2.2.2.2.2.2.2.2.2.2.2.2.1) (q.resolve_left (by decide)),
            fun q => (hJ.2.2.2.2.2.2.2.2.2.2.2.2.2.2.2.2.2.2.2.2.2.2.2.2.2.2.2.2.2) (q.resolve_left (by decide))⟩
        refine StepsOk.cons (i := 8) rfl (fun L x G w1 K Q hn hp hJ hK => ?_) ?_
        · skip
          have p5 : L 5 := hp ⟨5, .data⟩ (by simp) rfl
          have e5 := (hJ.2.2.2.2.2.2.2.2.2.2.2.2.2.2.2.2.2.2.2.2.2.2.2.1) p5
          have p7 : L 7 := hp ⟨7, .data⟩ (by simp) rfl
          have e7 := (hJ.2.2.2.2.2.2.2.2.2.2.2.2.2.2.2.2.2.2.2.2.2.2.2.2.2.1) p7
          simp only [putAll, Act.put, List.setIfInBounds_toArray, List.set_cons_zero, List.set_cons_succ]
          go_simp
          refine (member_c _ _ _ _ V2.out b1 b2).mono ?_
          rw [hy.out]
          rintro e w2 ⟨rfl, hb⟩
          have hz := hb.size
          try go_simp
          refine hK _ G _ (by kernel_rfl) ?_
          exact ⟨bt (hJ.1) hb,
            Nat.lt_of_lt_of_le (hJ.2.1) hb.size,
            Blk.keep ((hJ.2.2.1)) hb,
            Nat.lt_of_lt_of_le (hJ.2.2.2.1) hb.size,
            Blk.keep ((hJ.2.2.2.2.1)) hb,
            Nat.lt_of_lt_of_le (hJ.2.2.2.2.2.1) hb.size,
            Blk.keep ((hJ.2.2.2.2.2.2.1)) hb,
            Nat.lt_of_lt_of_le (hJ.2.2.2.2.2.2.2.1) hb.size,
            Blk.keep ((hJ.2.2.2.2.2.2.2.2.1)) hb,
            fun q => ⟨((hJ.2.2.2.2.2.2.2.2.2.1) (q.resolve_left (by decide))).1, by have := ((hJ.2.2.2.2.2.2.2.2.2.1) (q.resolve_left (by decide))).2.1; omega, ((hJ.2.2.2.2.2.2.2.2.2.1) (q.resolve_left (by decide))).2.2⟩,
            fun q n => Blk.keep ((hJ.2.2.2.2.2.2.2.2.2.2.1) (q.resolve_left (by decide)) (fun m => n (.inr m))) hb,
            fun q => Blk.keep ((hJ.2.2.2.2.2.2.2.2.2.2.2.1) (q.resolve_left (by decide))) hb,
            fun q => .inr ((hJ.2.2.2.2.2.2.2.2.2.2.2.2.1) (q.resolve_left (by decide))),
            fun q => ⟨((hJ.2.2.2.2.2.2.2.2.2.2.2.2.2.1) (q.resolve_left (by decide))).1, by have := ((hJ.2.2.2.2.2.2.2.2.2.2.2.2.2.1) (q.resolve_left (by decide))).2.1; omega, ((hJ.2.2.2.2.2.2.2.2.2.2.2.2.2.1) (q.resolve_left (by decide))).2.2⟩,
            fun q n => Blk.keep ((hJ.2.2.2.2.2.2.2.2.2.2.2.2.2.2.1) (q.resolve_left (by decide)) (fun m => n (.inr m))) hb,
            fun q => Blk.keep ((hJ.2.2.2.2.2.2.2.2.2.2.2.2.2.2.2.1) (q.resolve_left (by decide))) hb,
            fun q => .inr ((hJ.2.2.2.2.2.2.2.2.2.2.2.2.2.2.2.2.1) (q.resolve_left (by decide))),
            fun q r => (hJ.2.2.2.2.2.2.2.2.2.2.2.2.2.2.2.2.2.1) (q.resolve_left (by decide)) (r.resolve_left (by decide)),
            fun q => (hJ.2.2.2.2.2.2.2.2.2.2.2.2.2.2.2.2.2.2.1) (q.resolve_left (by decide)),
            fun q => (hJ.2.2.2.2.2.2.2.2.2.2.2.2.2.2.2.2.2.2.2.1) (q.resolve_left (by decide)),
            fun q => (hJ.2.2.2.2.2.2.2.2.2.2.2.2.2.2.2.2.2.2.2.2.1) (q.resolve_left (by decide)),
            fun q => (hJ.2.2.2.2.2.2.2.2.2.2.2.2.2.2.2.2.2.2.2.2.2.1) (q.resolve_left (by decide)),
            fun q => (hJ.2.2.2.2.2.2.2.2.2.2.2.2.2.2.2.2.2.2.2.2.2.2.1) (q.resolve_left (by decide)),
            fun _ => by first | exact rfl | exact e5,
            fun q => (hJ.2.2.2.2.2.2.2.2.2.2.2.2.2.2.2.2.2.2.2.2.2.2.2.2.1) (q.resolve_left (by decide)),
            fun _ => by first | exact rfl | exact e7,
            fun _ => rfl,
            fun q => (hJ.2.2.2.2.2.2.2.2.2.2.2.2.2.2.2.2.2.2.2.2.2.2.2.2.2.2.2.1) (q.resolve_left (by decide)),
            fun q => (hJ.2.2.2.2.2.2.2.2.2.2.2.2.2.2.2.2.2.2.2.2.2.2.2.2.2.2.2.2.1) (q.resolve_left (by decide)),
            fun q => (hJ.2.2.2.2.2.2.2.2.2.2.2.2.2.2.2.2.2.2.2.2.2.2.2.2.2.2.2.2.2) (q.resolve_left (by decide))⟩
        refine StepsOk.cons (i := 9) rfl (fun L x G w1 K Q hn hp hJ hK => ?_) ?_
        · skip
          have p8 : L 8 := hp ⟨8, .data⟩ (by simp) rfl
          have e8 := (hJ.2.2.2.2.2.2.2.2.2.2.2.2.2.2.2.2.2.2.2.2.2.2.2.2.2.2.1) p8
          simp only [putAll, Act.put, List.setIfInBounds_toArray, List.set_cons_zero, List.set_cons_succ]
          go_simp
          refine (of_c _ _ y1 y2).mono ?_
          rintro e w2 ⟨rfl, hb⟩
          have hz := hb.size
          try go_simp
          refine hK _ G _ (by kernel_rfl) ?_
          exact ⟨bt (hJ.1) hb,
            Nat.lt_of_lt_of_le (hJ.2.1) hb.size,
            Blk.keep ((hJ.2.2.1)) hb,
            Nat.lt_of_lt_of_le (hJ.2.2.2.1) hb.size,
            Blk.keep ((hJ.2.2.2.2.1)) hb,
            Nat.lt_of_lt_of_le (hJ.2.2.2.2.2.1) hb.size,
            Blk.keep ((hJ.2.2.2.2.2.2.1)) hb,
            Nat.lt_of_lt_of_le (hJ.2.2.2.2.2.2.2.1) hb.size,
            Blk.keep ((hJ.2.2.2.2.2.2.2.2.1)) hb,
            fun q => ⟨((hJ.2.2.2.2.2.2.2.2.2.1) (q.resolve_left (by decide))).1, by have := ((hJ.2.2.2.2.2.2.2.2.2.1) (q.resolve_left (by decide))).2.1; omega, ((hJ.2.2.2.2.2.2.2.2.2.1) (q.resolve_left (by decide))).2.2⟩,
            fun q n => Blk.keep ((hJ.2.2.2.2.2.2.2.2.2.2.1) (q.resolve_left (by decide)) (fun m => n (.inr m))) hb,
            fun q => Blk.keep ((hJ.2.2.2.2.2.2.2.2.2.2.2.1) (q.resolve_left (by decide))) hb,
            fun q => .inr ((hJ.2.2.2.2.2.2.2.2.2.2.2.2.1) (q.resolve_left (by decide))),
            fun q => ⟨((hJ.2.2.2.2.2.2.2.2.2.2.2.2.2.1) (q.resolve_left (by decide))).1, by have := ((hJ.2.2.2.2.2.2.2.2.2.2.2.2.2.1) (q.resolve_left (by decide))).2.1; omega, ((hJ.2.2.2.2.2.2.2.2.2.2.2.2.2.1) (q.resolve_left (by decide))).2.2⟩,
            fun q n => Blk.keep ((hJ.2.2.2.2.2.2.2.2.2.2.2.2.2.2.1) (q.resolve_left (by decide)) (fun m => n (.inr m))) hb,
            fun q => Blk.keep ((hJ.2.2.2.2.2.2.2.2.2.2.2.2.2.2.2.1) (q.resolve_left (by decide))) hb,
            fun q => .inr ((hJ.2.2.2.2.2.2.2.2.2.2.2.2.2.2.2.2.1) (q.resolve_left (by decide))),
            fun q r => (hJ.2.2.2.2.2.2.2.2.2.2.2.2.2.2.2.2.2.1) (q.resolve_left (by decide)) (r.resolve_left (by decide)),
            fun q => (hJ.2.2.2.2.2.2.2.2.2.2.2.2.2.2.2.2.2.2.1) (q.resolve_left (by decide)),
            fun q => (hJ.2.2.2.2.2.2.2.2.2.2.2.2.2.2.2.2.2.2.2.1) (q.resolve_left (by decide)),
            fun q => (hJ.2.2.2.2.2.2.2.2.2.2.2.2.2.2.2.2.2.2.2.2.1) (q.resolve_left (by decide)),
            fun q => (hJ.2.2.2.2.2.2.2.2.2.2.2.2.2.2.2.2.2.2.2.2.2.1) (q.resolve_left (by decide)),
            fun q => (hJ.2.2.2.2.2.2.2.2.2.2.2.2.2.2.2.2.2.2.2.2.2.2.1) (q.resolve_left (by decide)),
            fun q => (hJ.2.2.2.2.2.2.2.2.2.2.2.2.2.2.2.2.2.2.2.2.2.2.2.1) (q.resolve_left (by decide)),
            fun q => (hJ.2.2.2.2.2.2.2.2.2.2.2.2.2.2.2.2.2.2.2.2.2.2.2.2.1) (q.resolve_left (by decide)),
            fun q => (hJ.2.2.2.2.2.2.2.2.2.2.2.2.2.2.2.2.2.2.2.2.2.2.2.2.2.1) (q.resolve_left (by decide)),
            fun _ => by first | exact rfl | exact e8,
            fun _ => rfl,
            fun q => (hJ.2.2.2.2.2.2.2.2.2.2.2.2.2.2.2.2.2.2.2.2.2.2.2.2.2.2.2.2.1) (q.resolve_left (by decide)),
            fun q => (hJ.2.2.2.2.2.2.2.2.2.2.2.2.2.2.2.2.2.2.2.2.2.2.2.2.2.2.2.2.2) (q.resolve_left (by decide))⟩
        refine StepsOk.cons (i := 10) rfl (fun L x G w1 K Q hn hp hJ hK => ?_) ?_
        · skip
          simp only [putAll, Act.put, List.setIfInBounds_toArray, List.set_cons_zero, List.set_cons_succ]
          go_simp
          refine hK _ (fun t => if t = 10 then w1.heap.size else G t) _ (by kernel_rfl) ?_
          exact ⟨bal (hJ.1) _,
            by simp; omega,
            Blk.alloc ((hJ.2.2.1)) _,
            by simp; omega,
            Blk.alloc ((hJ.2.2.2.2.1)) _,
            by simp; omega,
            Blk.alloc ((hJ.2.2.2.2.2.2.1)) _,
            by simp; omega,
            Blk.alloc ((hJ.2.2.2.2.2.2.2.2.1)) _,
            fun _ => ⟨(hJ.1).size, by simp, Nat.ne_of_lt (hJ.2.1), Nat.ne_of_lt (hJ.2.2.2.1), Nat.ne_of_lt (hJ.2.2.2.2.2.1), Nat.ne_of_lt (hJ.2.2.2.2.2.2.2.1)⟩,
            fun _ _ => Blk.new w1 _ _,
            fun q => absurd ((hJ.2.2.2.2.2.2.2.2.2.2.2.2.1) (q.resolve_left (by decide))) hn,
            fun q => .inr ((hJ.2.2.2.2.2.2.2.2.2.2.2.2.1) (q.resolve_left (by decide))),
            fun q => ⟨((hJ.2.2.2.2.2.2.2.2.2.2.2.2.2.1) (q.resolve_left (by decide))).1, by have := ((hJ.2.2.2.2.2.2.2.2.2.2.2.2.2.1) (q.resolve_left (by decide))).2.1; simp; omega, ((hJ.2.2.2.2.2.2.2.2.2.2.2.2.2.1) (q.resolve_left (by decide))).2.2⟩,
            fun q n => Blk.alloc ((hJ.2.2.2.2.2.2.2.2.2.2.2.2.2.2.1) (q.resolve_left (by decide)) (fun m => n (.inr m))) _,
            fun q => Blk.alloc ((hJ.2.2.2.2.2.2.2.2.2.2.2.2.2.2.2.1) (q.resolve_left (by decide))) _,
            fun q => .inr ((hJ.2.2.2.2.2.2.2.2.2.2.2.2.2.2.2.2.1) (q.resolve_left (by decide))),
            fun q _ => Nat.ne_of_lt ((hJ.2.2.2.2.2.2.2.2.2.2.2.2.2.1) (q.resolve_left (by decide))).2.1,
            fun q => (hJ.2.2.2.2.2.2.2.2.2.2.2.2.2.2.2.2.2.2.1) (q.resolve_left (by decide)),
            fun q => (hJ.2.2.2.2.2.2.2.2.2.2.2.2.2.2.2.2.2.2.2.1) (q.resolve_left (by decide)),
            fun q => (hJ.2.2.2.2.2.2.2.2.2.2.2.2.2.2.2.2.2.2.2.2.1) (q.resolve_left (by decide)),
            fun q => (hJ.2.2.2.2.2.2.2.2.2.2.2.2.2.2.2.2.2.2.2.2.2.1) (q.resolve_left (by decide)),
            fun q => (hJ.2.2.2.2.2.2.2.2.2.2.2.2.2.2.2.2.2.2.2.2.2.2.1) (q.resolve_left (by decide)),
            fun q => (hJ.2.2.2.2.2.2.2.2.2.2.2.2.2.2.2.2.2.2.2.2.2.2.2.1) (q.resolve_left (by decide)),
            fun q => (hJ.2.2.2.2.2.2.2.2.2.2.2.2.2.2.2.2.2.2.2.2.2.2.2.2.1) (q.resolve_left (by decide)),
            fun q => (hJ.2.2.2.2.2.2.2.2.2.2.2.2.2.2.2.2.2.2.2.2.2.2.2.2.2.1) (q.resolve_left (by decide)),
            fun q => (hJ.2.2.2.2.2.2.2.2.2.2.2.2.2.2.2.2.2.2.2.2.2.2.2.2.2.2.1) (q.resolve_left (by decide)),
            fun q => (hJ.2.2.2.2.2.2.2.2.2.2.2.2.2.2.2.2.2.2.2.2.2.2.2.2.2.2.2.1) (q.resolve_left (by decide)),
            fun _ => rfl,
            fun q => (hJ.2.2.2.2.2.2.2.2.2.2.2.2.2.2.2.2.2.2.2.2.2.2.2.2.2.2.2.2.2) (q.resolve_left (by decide))⟩
        refine StepsOk.cons (i := 11) rfl (fun L x G w1 K Q hn hp hJ hK => ?_) ?_
        · skip
          simp only [putAll, Act.put, List.setIfInBounds_toArray, List.set_cons_zero, List.set_cons_succ]
          go_simp
          refine hK _ (fun t => if t = 11 then w1.heap.size else G t) _ (by kernel_rfl) ?_
          exact ⟨bal (hJ.1) _,
            by simp; omega,
            Blk.alloc ((hJ.2.2.1)) _,
            by simp; omega,
            Blk.alloc ((hJ.2.2.2.2.1)) _,
            by simp; omega,
            Blk.alloc ((hJ.2.2.2.2.2.2.1)) _,
            by simp; omega,
            Blk.alloc ((hJ.2.2.2.2.2.2.2.2.1)) _,
            fun q => ⟨((hJ.2.2.2.2.2.2.2.2.2.1) (q.resolve_left (by decide))).1, by have := ((hJ.2.2.2.2.2.2.2.2.2.1) (q.resolve_left (by decide))).2.1; simp; omega, ((hJ.2.2.2.2.2.2.2.2.2.1) (q.resolve_left (by decide))).2.2⟩,
            fun q n => Blk.alloc ((hJ.2.2.2.2.2.2.2.2.2.2.1) (q.resolve_left (by decide)) (fun m => n (.inr m))) _,
            fun q => Blk.alloc ((hJ.2.2.2.2.2.2.2.2.2.2.2.1) (q.resolve_left (by decide))) _,
            fun q => .inr ((hJ.2.2.2.2.2.2.2.2.2.2.2.2.1) (q.resolve_left (by decide))),
            fun _ => ⟨(hJ.1).size, by simp, Nat.ne_of_lt (hJ.2.1), Nat.ne_of_lt (hJ.2.2.2.1), Nat.ne_of_lt (hJ.2.2.2.2.2.1), Nat.ne_of_lt (hJ.2.2.2.2.2.2.2.1)⟩,
            fun _ _ => Blk.new w1 _ _,
            fun q => absurd ((hJ.2.2.2.2.2.2.2.2.2.2.2.2.2.2.2.2.1) (q.resolve_left (by decide))) hn,
            fun q => .inr ((hJ.2.2.2.2.2.2.2.2.2.2.2.2.2.2.2.2.1) (q.resolve_left (by decide))),
            fun _ r => Nat.ne_of_gt ((hJ.2.2.2.2.2.2.2.2.2.1) (r.resolve_left (by decide))).2.1,
            fun q => (hJ.2.2.2.2.2.2.2.2.2.2.2.2.2.2.2.2.2.2.1) (q.resolve_left (by decide)),
            fun q => (hJ.2.2.2.2.2.2.2.2.2.2.2.2.2.2.2.2.2.2.2.1) (q.resolve_left (by decide)),
            fun q => (hJ.2.2.2.2.2.2.2.2.2.2.2.2.2.2.2.2.2.2.2.2.1) (q.resolve_left (by decide)),
            fun q => (hJ.2.2.2.2.2.2.2.2.2.2.2.2.2.2.2.2.2.2.2.2.2.1) (q.resolve_left (by decide)),
            fun q => (hJ.2.2.2.2.2.2.2.2.2.2.2.2.2.2.2.2.2.2.2.2.2.2.1) (q.resolve_left (by decide)),
            fun q => (hJ.2.2.2.2.2.2.2.2.2.2.2.2.2.2.2.2.2.2.2.2.2.2.2.1) (q.resolve_left (by decide)),
            fun q => (hJ.2.2.2.2.2.2.2.2.2.2.2.2.2.2.2.2.2.2.2.2.2.2.2.2.1) (q.resolve_left (by decide)),
            fun q => (hJ.2.2.2.2.2.2.2.2.2.2.2.2.2.2.2.2.2.2.2.2.2.2.2.2.2.1) (q.resolve_left (by decide)),
            fun q => (hJ.2.2.2.2.2.2.2.2.2.2.2.2.2.2.2.2.2.2.2.2.2.2.2.2.2.2.1) (q.resolve_left (by decide)),
            fun q => (hJ.2.2.2.2.2.2.2.2.2.2.2.2.2.2.2.2.2.2.2.2.2.2.2.2.2.2.2.1) (q.resolve_left (by decide)),
            fun q => (hJ.2.2.2.2.2.2.2.2.2.2.2.2.2.2.2.2.2.2.2.2.2.2.2.2.2.2.2.2.1) (q.resolve_left (by decide)),
            fun _ => rfl⟩
        refine StepsOk.cons (i := 12) rfl (fun L x G w1 K Q hn hp hJ hK => ?_) ?_
        · skip
          have p4 : L 4 := hp ⟨4, .data⟩ (by simp) rfl
          have e4 := (hJ.2.2.2.2.2.2.2.2.2.2.2.2.2.2.2.2.2.2.2.2.2.2.1) p4
          have p10 : L 10 := hp ⟨10, .data⟩ (by simp) rfl
          have e10 := (hJ.2.2.2.2.2.2.2.2.2.2.2.2.2.2.2.2.2.2.2.2.2.2.2.2.2.2.2.2.1) p10
          have hc := Blk.open2 (((hJ.2.2.2.2.2.2.2.2.2.2.1) p10 hn))
          have c0 := hc.1
          have c1 := hc.2.1
          have c2 := hc.2.2.1
          have c3 := hc.2.2.2
          clear hc
          simp only [putAll, Act.put, List.setIfInBounds_toArray, List.set_cons_zero, List.set_cons_succ]
          go_simp
          refine hK _ G _ (by kernel_rfl) ?_
          exact ⟨bst (bst ((hJ.1)) (p := ⟨G 10, 0, none⟩) ((hJ.2.2.2.2.2.2.2.2.2.1) p10).1 (.int .i64 (Wi.Hq (mu)))) (p := ⟨G 10, 1, none⟩) ((hJ.2.2.2.2.2.2.2.2.2.1) p10).1 (.int .u64 (Wi.Lr (mu))),
            by simpa using (hJ.2.1),
            Blk.far (Blk.far ((hJ.2.2.1)) (p := ⟨G 10, 0, none⟩) (((hJ.2.2.2.2.2.2.2.2.2.1) p10).2.2.1) (.int .i64 (Wi.Hq (mu)))) (p := ⟨G 10, 1, none⟩) (((hJ.2.2.2.2.2.2.2.2.2.1) p10).2.2.1) (.int .u64 (Wi.Lr (mu))),
            by simpa using (hJ.2.2.2.1),
            Blk.far (Blk.far ((hJ.2.2.2.2.1)) (p := ⟨G 10, 0, none⟩) (((hJ.2.2.2.2.2.2.2.2.2.1) p10).2.2.2.1) (.int .i64 (Wi.Hq (mu)))) (p := ⟨G 10, 1, none⟩) (((hJ.2.2.2.2.2.2.2.2.2.1) p10).2.2.2.1) (.int .u64 (Wi.Lr (mu))),
            by simpa using (hJ.2.2.2.2.2.1),
            Blk.far (Blk.far ((hJ.2.2.2.2.2.2.1)) (p := ⟨G 10, 0, none⟩) (((hJ.2.2.2.2.2.2.2.2.2.1) p10).2.2.2.2.1) (.int .i64 (Wi.Hq (mu)))) (p := ⟨G 10, 1, none⟩) (((hJ.2.2.2.2.2.2.2.2.2.1) p10).2.2.2.2.1) (.int .u64 (Wi.Lr (mu))),
            by simpa using (hJ.2.2.2.2.2.2.2.1),
            Blk.far (Blk.far ((hJ.2.2.2.2.2.2.2.2.1)) (p := ⟨G 10, 0, none⟩) (((hJ.2.2.2.2.2.2.2.2.2.1) p10).2.2.2.2.2) (.int .i64 (Wi.Hq (mu)))) (p := ⟨G 10, 1, none⟩) (((hJ.2.2.2.2.2.2.2.2.2.1) p10).2.2.2.2.2) (.int .u64 (Wi.Lr (mu))),
            fun q => ⟨((hJ.2.2.2.2.2.2.2.2.2.1) (q.resolve_left (by decide))).1, by have := ((hJ.2.2.2.2.2.2.2.2.2.1) (q.resolve_left (by decide))).2.1; simpa using this, ((hJ.2.2.2.2.2.2.2.2.2.1) (q.resolve_left (by decide))).2.2⟩,
            fun _ n => absurd (.inl rfl) n,
            fun _ => by simpa using Blk.set_ (Blk.set_ (((hJ.2.2.2.2.2.2.2.2.2.2.1) p10 hn)) 0 (.int .i64 (Wi.Hq (mu)))) 1 (.int .u64 (Wi.Lr (mu))),
            fun _ => .inr p10,
            fun q => ⟨((hJ.2.2.2.2.2.2.2.2.2.2.2.2.2.1) (q.resolve_left (by decide))).1, by have := ((hJ.2.2.2.2.2.2.2.2.2.2.2.2.2.1) (q.resolve_left (by decide))).2.1; simpa using this, ((hJ.2.2.2.2.2.2.2.2.2.2.2.2.2.1) (q.resolve_left (by decide))).2.2⟩,
            fun q n => Blk.far (Blk.far ((hJ.2.2.2.2.2.2.2.2.2.2.2.2.2.2.1) (q.resolve_left (by decide)) (fun m => n (.inr m))) (p := ⟨G 10, 0, none⟩) ((hJ.2.2.2.2.2.2.2.2.2.2.2.2.2.2.2.2.2.1) (q.resolve_left (by decide)) p10) (.int .i64 (Wi.Hq (mu)))) (p := ⟨G 10, 1, none⟩) ((hJ.2.2.2.2.2.2.2.2.2.2.2.2.2.2.2.2.2.1) (q.resolve_left (by decide)) p10) (.int .u64 (Wi.Lr (mu))),
            fun q => Blk.far (Blk.far ((hJ.2.2.2.2.2.2.2.2.2.2.2.2.2.2.2.1) (q.resolve_left (by decide))) (p := ⟨G 10, 0, none⟩) ((hJ.2.2.2.2.2.2.2.2.2.2.2.2.2.2.2.2.2.1) ((hJ.2.2.2.2.2.2.2.2.2.2.2.2.2.2.2.2.1) (q.resolve_left (by decide))) p10) (.int .i64 (Wi.Hq (mu)))) (p := ⟨G 10, 1, none⟩) ((hJ.2.2.2.2.2.2.2.2.2.2.2.2.2.2.2.2.2.1) ((hJ.2.2.2.2.2.2.2.2.2.2.2.2.2.2.2.2.1) (q.resolve_left (by decide))) p10) (.int .u64 (Wi.Lr (mu))),
            fun q => .inr ((hJ.2.2.2.2.2.2.2.2.2.2.2.2.2.2.2.2.1) (q.resolve_left (by decide))),
            fun q r => (hJ.2.2.2.2.2.2.2.2.2.2.2.2.2.2.2.2.2.1) (q.resolve_left (by decide)) (r.resolve_left (by decide)),
            fun q => (hJ.2.2.2.2.2.2.2.2.2.2.2.2.2.2.2.2.2.2.1) (q.resolve_left (by decide)),
            fun q => (hJ.2.2.2.2.2.2.2.2.2.2.2.2.2.2.2.2.2.2.2.1) (q.resolve_left (by decide)),
            fun q => (hJ.2.2.2.2.2.2.2.2.2.2.2.2.2.2.2.2.2.2.2.2.1) (q.resolve_left (by decide)),
            fun q => (hJ.2.2.2.2.2.2.2.2.2.2.2.2.2.2.2.2.2.2.2.2.2.1) (q.resolve_left (by decide)),
            fun _ => by first | exact rfl | exact e4,
            fun q => (hJ.2.2.2.2.2.2.2.2.2.2.2.2.2.2.2.2.2.2.2.2.2.2.2.1) (q.resolve_left (by decide)),
            fun q => (hJ.2.2.2.2.2.2.2.2.2.2.2.2.2.2.2.2.2.2.2.2.2.2.2.2.1) (q.resolve_left (by decide)),
            fun q => (hJ.2.2.2.2.2.2.2.2.2.2.2.2.2.2.2.2.2.2.2.2.2.2.2.2.2.1) (q.resolve_left (by decide)),
            fun q => (hJ.2.2.2.2.2.2.2.2.2.2.2.2.2.2.2.2.2.2.2.2.2.2.2.2.2.2.1) (q.resolve_left (by decide)),
            fun q => (hJ.2.2.2.2.2.2.2.2.2.2.2.2.2.2.2.2.2.2.2.2.2.2.2.2.2.2.2.1) (q.resolve_left (by decide)),
            fun _ => by first | exact rfl | exact e10,
            fun q => (hJ.2.2.2.2.2.2.2.2.2.2.2.2.2.2.2.2.2.2.2.2.2.2.2.2.2.2.2.2.2) (q.resolve_left (by decide))⟩
        refine StepsOk.cons (i := 13) rfl (fun L x G w1 K Q hn hp hJ hK => ?_) ?_
        · skip
          have p9 : L 9 := hp ⟨9, .data⟩ (by simp) rfl
          have e9 := (hJ.2.2.2.2.2.2.2.2.2.2.2.2.2.2.2.2.2.2.2.2.2.2.2.2.2.2.2.1) p9
          have p11 : L 11 := hp ⟨11, .data⟩ (by simp) rfl
          have e11 := (hJ.2.2.2.2.2.2.2.2.2.2.2.2.2.2.2.2.2.2.2.2.2.2.2.2.2.2.2.2.2) p11
          have hc := Blk.open2 (((hJ.2.2.2.2.2.2.2.2.2.2.2.2.2.2.1) p11 hn))
          have c0 := hc.1
          have c1 := hc.2.1
          have c2 := hc.2.2.1
          have c3 := hc.2.2.2
          clear hc
          simp only [putAll, Act.put, List.setIfInBounds_toArray, List.set_cons_zero, List.set_cons_succ]
          go_simp
          refine hK _ G _ (by kernel_rfl) ?_
          exact ⟨bst (bst ((hJ.1)) (p := ⟨G 11, 0, none⟩) ((hJ.2.2.2.2.2.2.2.2.2.2.2.2.2.1) p11).1 (.int .i64 (Wi.Hq (mv)))) (p := ⟨G 11, 1, none⟩) ((hJ.2.2.2.2.2.2.2.2.2.2.2.2.2.1) p11).1 (.int .u64 (Wi.Lr (mv))),
            by simpa using (hJ.2.1),
            Blk.far (Blk.far ((hJ.2.2.1)) (p := ⟨G 11, 0, none⟩) (((hJ.2.2.2.2.2.2.2.2.2.2.2.2.2.1) p11).2.2.1) (.int .i64 (Wi.Hq (mv)))) (p := ⟨G 11, 1, none⟩) (((hJ.2.2.2.2.2.2.2.2.2.2.2.2.2.1) p11).2.2.1) (.int .u64 (Wi.Lr (mv))),
            by simpa using (hJ.2.2.2.1),
            Blk.far (Blk.far ((hJ.2.2.2.2.1)) (p := ⟨G 11, 0, none⟩) (((hJ.2.2.2.2.2.2.2.2.2.2.2.2.2.1) p11).2.2.2.1) (.int .i64 (Wi.Hq (mv)))) (p := ⟨G 11, 1, none⟩) (((hJ.2.2.2.2.2.2.2.2.2.2.2.2.2.1) p11).2.2.2.1) (.int .u64 (Wi.Lr (mv))),
            by simpa using (hJ.2.2.2.2.2.1),
            Blk.far (Blk.far ((hJ.2.2.2.2.2.2.1)) (p := ⟨G 11, 0, none⟩) (((hJ.2.2.2.2.2.2.2.2.2.2.2.2.2.1) p11).2.2.2.2.1) (.int .i64 (Wi.Hq (mv)))) (p := ⟨G 11, 1, none⟩) (((hJ.2.2.2.2.2.2.2.2.2.2.2.2.2.1) p11).2.2.2.2.1) (.int .u64 (Wi.Lr (mv))),
            by simpa using (hJ.2.2.2.2.2.2.2.1),
            Blk.far (Blk.far ((hJ.2.2.2.2.2.2.2.2.1)) (p := ⟨G 11, 0, none⟩) (((hJ.2.2.2.2.2.2.2.2.2.2.2.2.2.1) p11).2.2.2.2.2) (.int .i64 (Wi.Hq (mv)))) (p := ⟨G 11, 1, none⟩) (((hJ.2.2.2.2.2.2.2.2.2.2.2.2.2.1) p11).2.2.2.2.2) (.int .u64 (Wi.Lr (mv))),
            fun q => ⟨((hJ.2.2.2.2.2.2.2.2.2.1) (q.resolve_left (by decide))).1, by have := ((hJ.2.2.2.2.2.2.2.2.2.1) (q.resolve_left (by decide))).2.1; simpa using this, ((hJ.2.2.2.2.2.2.2.2.2.1) (q.resolve_left (by decide))).2.2⟩,
            fun q n => Blk.far (Blk.far ((hJ.2.2.2.2.2.2.2.2.2.2.1) (q.resolve_left (by decide)) (fun m => n (.inr m))) (p := ⟨G 11, 0, none⟩) (Ne.symm ((hJ.2.2.2.2.2.2.2.2.2.2.2.2.2.2.2.2.2.1) p11 (q.resolve_left (by decide)))) (.int .i64 (Wi.Hq (mv)))) (p := ⟨G 11, 1, none⟩) (Ne.symm ((hJ.2.2.2.2.2.2.2.2.2.2.2.2.2.2.2.2.2.1) p11 (q.resolve_left (by decide)))) (.int .u64 (Wi.Lr (mv))),
            fun q => Blk.far (Blk.far ((hJ.2.2.2.2.2.2.2.2.2.2.2.1) (q.resolve_left (by decide))) (p := ⟨G 11, 0, none⟩) (Ne.symm ((hJ.2.2.2.2.2.2.2.2.2.2.2.2.2.2.2.2.2.1) p11 ((hJ.2.2.2.2.2.2.2.2.2.2.2.2.1) (q.resolve_left (by decide))))) (.int .i64 (Wi.Hq (mv)))) (p := ⟨G 11, 1, none⟩) (Ne.symm ((hJ.2.2.2.2.2.2.2.2.2.2.2.2.2.2.2.2.2.1) p11 ((hJ.2.2.2.2.2.2.2.2.2.2.2.2.1) (q.resolve_left (by decide))))) (.int .u64 (Wi.Lr (mv))),
            fun q => .inr ((hJ.2.2.2.2.2.2.2.2.2.2.2.2.1) (q.resolve_left (by decide))),
            fun q => ⟨((hJ.2.2.2.2.2.2.2.2.2.2.2.2.2.1) (q.resolve_left (by decide))).1, by have := ((hJ.2.2.2.2.2.2.2.2.2.2.2.2.2.1) (q.resolve_left (by decide))).2.1; simpa using this, ((hJ.2.2.2.2.2.2.2.2.2.2.2.2.2.1) (q.resolve_left (by decide))).2.2⟩,
            fun _ n => absurd (.inl rfl) n,
            fun _ => by simpa using Blk.set_ (Blk.set_ (((hJ.2.2.2.2.2.2.2.2.2.2.2.2.2.2.1) p11 hn)) 0 (.int .i64 (Wi.Hq (mv)))) 1 (.int .u64 (Wi.Lr (mv))),
            fun _ => .inr p11,
            fun q r => (hJ.2.2.2.2.2.2.2.2.2.2.2.2.2.2.2.2.2.1) (q.resolve_left (by decide)) (r.resolve_left (by decide)),
            fun q => (hJ.2.2.2.2.2.2.2.2.2.2.2.2.2.2.2.2.2.2.1) (q.resolve_left (by decide)),
            fun q => (hJ.2.2.2.2.2.2.2.2.2.2.2.2.2.2.2.2.2.2.2.1) (q.resolve_left (by decide)),
            fun q => (hJ.2.2.2.2.2.2.2.2.2.2.2.2.2.2.2.2.2.2.2.2.1) (q.resolve_left (by decide)),
            fun q => (hJ.2.2.2.2.2.2.2.2.2.2.2.2.2.2.2.2.2.2.2.2.2.1) (q.resolve_left (by decide)),
            fun q => (hJ.2.2.2.2.2.2.2.2.2.2.2.2.2.2.2.2.2.2.2.2.2.2.1) (q.resolve_left (by decide)),
            fun q => (hJ.2.2.2.2.2.2.2.2.2.2.2.2.2.2.2.2.2.2.2.2.2.2.2.1) (q.resolve_left (by decide)),
            fun q => (hJ.2.2.2.2.2.2.2.2.2.2.2.2.2.2.2.2.2.2.2.2.2.2.2.2.1) (q.resolve_left (by decide)),
            fun q => (hJ.2.2.2.2.2.2.2.2.2.2.2.2.2.2.2.2.2.2.2.2.2.2.2.2.2.1) (q.resolve_left (by decide)),
            fun q => (hJ.2.2.2.2.2.2.2.2.2.2.2.2.2.2.2.2.2.2.2.2.2.2.2.2.2.2.1) (q.resolve_left (by decide)),
            fun _ => by first | exact rfl | exact e9,
            fun q => (hJ.2.2.2.2.2.2.2.2.2.2.2.2.2.2.2.2.2.2.2.2.2.2.2.2.2.2.2.2.1) (q.resolve_left (by decide)),
            fun _ => by first | exact rfl | exact e11⟩
        exact StepsOk.nil
      case fin =>
        intro L x G w6 hall hJ
        replace X := (hJ.2.2.1)
        replace Y := (hJ.2.2.2.2.1)
        replace NN := (hJ.2.2.2.2.2.2.1)
        replace Q := (hJ.2.2.2.2.2.2.2.2.1)
        obtain ⟨haMU, hlMU, hnMUX, hnMUY, hnMUNN, hnMUQ⟩ := (hJ.2.2.2.2.2.2.2.2.2.1) (hall 10 (by decide))
        have MU := (hJ.2.2.2.2.2.2.2.2.2.2.2.1) (hall 12 (by decide))
        obtain ⟨haMV, hlMV, hnMVX, hnMVY, hnMVNN, hnMVQ⟩ := (hJ.2.2.2.2.2.2.2.2.2.2.2.2.2.1) (hall 11 (by decide))
        have MV := (hJ.2.2.2.2.2.2.2.2.2.2.2.2.2.2.2.1) (hall 13 (by decide))
        have n_dMVMU := (hJ.2.2.2.2.2.2.2.2.2.2.2.2.2.2.2.2.2.1) (hall 11 (by decide)) (hall 10 (by decide))
        have u0 := hJ.2.2.2.2.2.2.2.2.2.2.2.2.2.2.2.2.2.2.1 (hall 0 (by decide))
        have u1 := hJ.2.2.2.2.2.2.2.2.2.2.2.2.2.2.2.2.2.2.2.1 (hall 1 (by decide))
        have u2 := hJ.2.2.2.2.2.2.2.2.2.2.2.2.2.2.2.2.2.2.2.2.1 (hall 2 (by decide))
        have u3 := hJ.2.2.2.2.2.2.2.2.2.2.2.2.2.2.2.2.2.2.2.2.2.1 (hall 3 (by decide))
        have u4 := hJ.2.2.2.2.2.2.2.2.2.2.2.2.2.2.2.2.2.2.2.2.2.2.1 (hall 4 (by decide))
        have u5 := hJ.2.2.2.2.2.2.2.2.2.2.2.2.2.2.2.2.2.2.2.2.2.2.2.1 (hall 5 (by decide))
        have u6 := hJ.2.2.2.2.2.2.2.2.2.2.2.2.2.2.2.2.2.2.2.2.2.2.2.2.1 (hall 6 (by decide))
        have u7 := hJ.2.2.2.2.2.2.2.2.2.2.2.2.2.2.2.2.2.2.2.2.2.2.2.2.2.1 (hall 7 (by decide))
        have u8 := hJ.2.2.2.2.2.2.2.2.2.2.2.2.2.2.2.2.2.2.2.2.2.2.2.2.2.2.1 (hall 8 (by decide))
        have u9 := hJ.2.2.2.2.2.2.2.2.2.2.2.2.2.2.2.2.2.2.2.2.2.2.2.2.2.2.2.1 (hall 9 (by decide))
        have u10 := hJ.2.2.2.2.2.2.2.2.2.2.2.2.2.2.2.2.2.2.2.2.2.2.2.2.2.2.2.2.1 (hall 10 (by decide))
        have u11 := hJ.2.2.2.2.2.2.2.2.2.2.2.2.2.2.2.2.2.2.2.2.2.2.2.2.2.2.2.2.2 (hall 11 (by decide))
        replace hB := hJ.1
        simp only [putAll, Act.put, List.setIfInBounds_toArray, List.set_cons_zero, List.set_cons_succ]
        simp only [u0, u1, u2, u3, u4, u5, u6, u7, u8, u9, u10, u11]
        clear hall hJ u0 u1 u2 u3 u4 u5 u6 u7 u8 u9 u10 u11
        generalize G 10 = gMU at *
        generalize G 11 = gMV at *
        obtain ⟨c00, c01, c02, c03⟩ := MU.open2
        obtain ⟨c10, c11, c12, c13⟩ := MV.open2
        go_wp2_with fail
        refine (div_c _ _ _ _ _ _ _ wu wv_).mono ?_
        rw [ed.out, eb.out]
        rintro e w7 ⟨rfl, hb⟩
        clear c00 c01 c02 c03 c10 c11 c12 c13
        replace X := X.keep hb
        replace Y := Y.keep hb
        replace NN := NN.keep hb
        replace Q := Q.keep hb
        replace MU := MU.keep hb
        replace MV := MV.keep hb
        replace hB := bt hB hb
        clear hb
        have hz7 := hB.size
        have l7X := X.lt
        have l7Y := Y.lt
        have l7NN := NN.lt
        have l7Q := Q.lt
        have l7MU := MU.lt
        have l7MV := MV.lt
        replace X := X.alloc (.cells #[.int .i64 (Wi.Hq (f)), .int .u64 (Wi.Lr (f))] 40)
        replace Y := Y.alloc (.cells #[.int .i64 (Wi.Hq (f)), .int .u64 (Wi.Lr (f))] 40)
        replace NN := NN.alloc (.cells #[.int .i64 (Wi.Hq (f)), .int .u64 (Wi.Lr (f))] 40)
        replace Q := Q.alloc (.cells #[.int .i64 (Wi.Hq (f)), .int .u64 (Wi.Lr (f))] 40)
        replace MU := MU.alloc (.cells #[.int .i64 (Wi.Hq (f)), .int .u64 (Wi.Lr (f))] 40)
        replace MV := MV.alloc (.cells #[.int .i64 (Wi.Hq (f)), .int .u64 (Wi.Lr (f))] 40)
        replace hB := bal hB (.cells #[.int .i64 (Wi.Hq (f)), .int .u64 (Wi.Lr (f))] 40)
        have D := Blk.new w7 40 #[.int .i64 (Wi.Hq (f)), .int .u64 (Wi.Lr (f))]
        obtain ⟨c00, c01, c02, c03⟩ := MU.open2
        obtain ⟨c10, c11, c12, c13⟩ := MV.open2
        obtain ⟨c20, c21, c22, c23⟩ := D.open2
        go_wp2_with fail
        refine (divup_c _ _ _ _ _ _ _ wu wv_).mono ?_
        rw [ed2.out, eb2.out]
        rintro e w8 ⟨rfl, hb⟩
        clear c00 c01 c02 c03 c10 c11 c12 c13 c20 c21 c22 c23
        replace X := X.keep hb
        replace Y := Y.keep hb
        replace NN := NN.keep hb
        replace Q := Q.keep hb
        replace MU := MU.keep hb
        replace MV := MV.keep hb
        replace D := D.keep hb
        replace hB := bt hB hb
        clear hb
        have hz8 := hB.size
        have l8X := X.lt
        have l8Y := Y.lt
        have l8NN := NN.lt
        have l8Q := Q.lt
        have l8MU := MU.lt
        have l8MV := MV.lt
        have l8D := D.lt
        replace X := X.alloc (.cells #[.int .i64 (Wi.Hq (cc)), .int .u64 (Wi.Lr (cc))] 40)
        replace Y := Y.alloc (.cells #[.int .i64 (Wi.Hq (cc)), .int .u64 (Wi.Lr (cc))] 40)
        replace NN := NN.alloc (.cells #[.int .i64 (Wi.Hq (cc)), .int .u64 (Wi.Lr (cc))] 40)
        replace Q := Q.alloc (.cells #[.int .i64 (Wi.Hq (cc)), .int .u64 (Wi.Lr (cc))] 40)
        replace MU := MU.alloc (.cells #[.int .i64 (Wi.Hq (cc)), .int .u64 (Wi.Lr (cc))] 40)
        replace MV := MV.alloc (.cells #[.int .i64 (Wi.Hq (cc)), .int .u64 (Wi.Lr (cc))] 40)
        replace D := D.alloc (.cells #[.int .i64 (Wi.Hq (cc)), .int .u64 (Wi.Lr (cc))] 40)
        replace hB := bal hB (.cells #[.int .i64 (Wi.Hq (cc)), .int .u64 (Wi.Lr (cc))] 40)
        have E := Blk.new w8 40 #[.int .i64 (Wi.Hq (cc)), .int .u64 (Wi.Lr (cc))]
        obtain ⟨y00, y01, y02, y03⟩ := Q.open2
        have KO1 := fun W_ : World => of_c _ W_ p1 p2
        have KO2 := fun W_ : World => of_c _ W_ p3 p4
        have KC1 := fun W_ : World => cmp_c _ _ _ _ _ _ W_ wf wl
        have KC2 := fun W_ : World => cmp_c _ _ _ _ _ _ W_ wc wh
        rw [hcm1.out] at KC1
        rw [hcm2.out] at KC2
        go_wp2_with fail
        generalize World.alloc w8 _ = W0 at X Y NN Q MU MV D E hB ⊢
        have hreg : ∀ w', Below W0.heap.size W0 w' → Below W0.heap.size W0 w' ∧ w'.cell? ⟨w7.heap.size, 0, none⟩ = some (.int .i64 (Wi.Hq (f))) ∧ w'.cell? ⟨w7.heap.size, 1, none⟩ = some (.int .u64 (Wi.Lr (f))) ∧ w'.cell? ⟨w8.heap.size, 0, none⟩ = some (.int .i64 (Wi.Hq (cc))) ∧ w'.cell? ⟨w8.heap.size, 1, none⟩ = some (.int .u64 (Wi.Lr (cc))) ∧ w'.cell? ⟨w2.heap.size, 0, none⟩ = some (.int .i64 qlo) ∧ w'.cell? ⟨w2.heap.size, 1, none⟩ = some (.int .i64 qhi) := fun w' h => ⟨h, (D.keep h).cell 0, (D.keep h).cell 1, (E.keep h).cell 0, (E.keep h).cell 1, (Q.keep h).cell 0, (Q.keep h).cell 1⟩
        go_region_held3 (fun w' => Below W0.heap.size W0 w' ∧ w'.cell? ⟨w7.heap.size, 0, none⟩ = some (.int .i64 (Wi.Hq (f))) ∧ w'.cell? ⟨w7.heap.size, 1, none⟩ = some (.int .u64 (Wi.Lr (f))) ∧ w'.cell? ⟨w8.heap.size, 0, none⟩ = some (.int .i64 (Wi.Hq (cc))) ∧ w'.cell? ⟨w8.heap.size, 1, none⟩ = some (.int .u64 (Wi.Lr (cc))) ∧ w'.cell? ⟨w2.heap.size, 0, none⟩ = some (.int .i64 qlo) ∧ w'.cell? ⟨w2.heap.size, 1, none⟩ = some (.int .i64 qhi)) (first | exact hreg _ (Below.refl _ _).drew | exact keepR hreg hbn (by assumption)) (first | (go_at_call 34; (first | with_reducible refine (KO1 _).mono ?_ | with_reducible refine (KO2 _).mono ?_); rintro e wn ⟨rfl, hbn⟩) | (go_at_call 53; (first | with_reducible refine (KC1 _).mono ?_ | with_reducible refine (KC2 _).mono ?_); rintro e wn ⟨rfl, hbn⟩))
        rename_i hS
        replace X := X.keep hS.1
        replace Y := Y.keep hS.1
        replace NN := NN.keep hS.1
        replace Q := Q.keep hS.1
        replace MU := MU.keep hS.1
        replace MV := MV.keep hS.1
        replace D := D.keep hS.1
        replace E := E.keep hS.1
        replace hB := bt hB hS.1
        clear hS hreg
        clear y00 y01 y02 y03 KO1 KO2 KC1 KC2
        obtain ⟨c00, c01, c02, c03⟩ := X.open2
        go_wp2_with fail
        refine (sqrt_ci _ _ _).mono ?_
        rw [S.out.1, S.out.2.1, S.out.2.2]
        rintro e w9 ⟨rfl, hb⟩
        clear c00 c01 c02 c03
        replace X := X.keep hb
        replace Y := Y.keep hb
        replace NN := NN.keep hb
        replace Q := Q.keep hb
        replace MU := MU.keep hb
        replace MV := MV.keep hb
        replace D := D.keep hb
        replace E := E.keep hb
        replace hB := bt hB hb
        clear hb
        have hz9 := hB.size
        have l9X := X.lt
        have l9Y := Y.lt
        have l9NN := NN.lt
        have l9Q := Q.lt
        have l9MU := MU.lt
        have l9MV := MV.lt
        have l9D := D.lt
        have l9E := E.lt
        replace X := X.alloc (.cells #[.int .i64 sl, .int .i64 sh] 23)
        replace Y := Y.alloc (.cells #[.int .i64 sl, .int .i64 sh] 23)
        replace NN := NN.alloc (.cells #[.int .i64 sl, .int .i64 sh] 23)
        replace Q := Q.alloc (.cells #[.int .i64 sl, .int .i64 sh] 23)
        replace MU := MU.alloc (.cells #[.int .i64 sl, .int .i64 sh] 23)
        replace MV := MV.alloc (.cells #[.int .i64 sl, .int .i64 sh] 23)
        replace D := D.alloc (.cells #[.int .i64 sl, .int .i64 sh] 23)
        replace E := E.alloc (.cells #[.int .i64 sl, .int .i64 sh] 23)
        replace hB := bal hB (.cells #[.int .i64 sl, .int .i64 sh] 23)
        have SB := Blk.new w9 23 #[.int .i64 sl, .int .i64 sh]
        obtain ⟨c00, c01, c02, c03⟩ := MU.open2
        obtain ⟨c10, c11, c12, c13⟩ := SB.open2
        go_wp2_with fail
        refine (sqrt_c _ _ _ _ wu).mono ?_
        rw [hsm.out, sb.out]
        rintro e w10 ⟨rfl, hb⟩
        clear c00 c01 c02 c03 c10 c11 c12 c13
        replace X := X.keep hb
        replace Y := Y.keep hb
        replace NN := NN.keep hb
        replace Q := Q.keep hb
        replace MU := MU.keep hb
        replace MV := MV.keep hb
        replace D := D.keep hb
        replace E := E.keep hb
        replace SB := SB.keep hb
        replace hB := bt hB hb
        clear hb
        obtain ⟨c00, c01, c02, c03⟩ := X.open2
        obtain ⟨c10, c11, c12, c13⟩ := SB.open2
        go_wp2_with fail
        go_returns
        exact ⟨rfl, hB⟩
  · have e1 := Lib.hid c1
    clear c1
    go_enter Try.func11, Try.ntmps11
    have X := Blk.new w 23 #[.int .i64 (l), .int .i64 (h)]
    have hB := ba w (.cells #[.int .i64 (l), .int .i64 (h)] 23)
    have Y := Blk.new1 w (.cells #[.int .i64 (l), .int .i64 (h)] 23) 23 #[.int .i64 (l'), .int .i64 (h')]
    replace X := X.alloc (.cells #[.int .i64 (l'), .int .i64 (h')] 23)
    replace hB := bal hB (.cells #[.int .i64 (l'), .int .i64 (h')] 23)
    have NN := Blk.new2 w (.cells #[.int .i64 (l), .int .i64 (h)] 23) (.cells #[.int .i64 (l'), .int .i64 (h')] 23) 45 #[.int .u64 n0, .int .u64 n1]
    replace X := X.alloc (.cells #[.int .u64 n0, .int .u64 n1] 45)
    replace Y := Y.alloc (.cells #[.int .u64 n0, .int .u64 n1] 45)
    replace hB := bal hB (.cells #[.int .u64 n0, .int .u64 n1] 45)
    go_wp2_with fail
    refine (awake_ci _).mono ?_
    rintro e w1 ⟨rfl, hb⟩
    replace X := X.keep hb
    replace Y := Y.keep hb
    replace NN := NN.keep hb
    replace hB := bt hB hb
    clear hb
    obtain ⟨c00, c01, c02, c03⟩ := X.open2
    obtain ⟨c10, c11, c12, c13⟩ := Y.open2
    go_wp2_with fail
    refine (quo_ci _ _ _ _ _).mono ?_
    rw [e1.out]
    rintro e w2 ⟨rfl, hb⟩
    clear c00 c01 c02 c03 c10 c11 c12 c13
    replace X := X.keep hb
    replace Y := Y.keep hb
    replace NN := NN.keep hb
    replace hB := bt hB hb
    clear hb
    have hz2 := hB.size
    have l2X := X.lt
    have l2Y := Y.lt
    have l2NN := NN.lt
    replace X := X.alloc (.cells #[.int .i64 (Iv.quo l h l' h').lo, .int .i64 (Iv.quo l h l' h').hi] 23)
    replace Y := Y.alloc (.cells #[.int .i64 (Iv.quo l h l' h').lo, .int .i64 (Iv.quo l h l' h').hi] 23)
    replace NN := NN.alloc (.cells #[.int .i64 (Iv.quo l h l' h').lo, .int .i64 (Iv.quo l h l' h').hi] 23)
    replace hB := bal hB (.cells #[.int .i64 (Iv.quo l h l' h').lo, .int .i64 (Iv.quo l h l' h').hi] 23)
    have Q := Blk.new w2 23 #[.int .i64 (Iv.quo l h l' h').lo, .int .i64 (Iv.quo l h l' h').hi]
    go_wp2_with fail
    go_returns
    exact ⟨rfl, hB⟩
  · have e1 := Lib.hid c1
    clear c1
    go_enter Try.func11, Try.ntmps11
    have X := Blk.new w 23 #[.int .i64 (l), .int .i64 (h)]
    have hB := ba w (.cells #[.int .i64 (l), .int .i64 (h)] 23)
    have Y := Blk.new1 w (.cells #[.int .i64 (l), .int .i64 (h)] 23) 23 #[.int .i64 (l'), .int .i64 (h')]
    replace X := X.alloc (.cells #[.int .i64 (l'), .int .i64 (h')] 23)
    replace hB := bal hB (.cells #[.int .i64 (l'), .int .i64 (h')] 23)
    have NN := Blk.new2 w (.cells #[.int .i64 (l), .int .i64 (h)] 23) (.cells #[.int .i64 (l'), .int .i64 (h')] 23) 45 #[.int .u64 n0, .int .u64 n1]
    replace X := X.alloc (.cells #[.int .u64 n0, .int .u64 n1] 45)
    replace Y := Y.alloc (.cells #[.int .u64 n0, .int .u64 n1] 45)
    replace hB := bal hB (.cells #[.int .u64 n0, .int .u64 n1] 45)
    go_wp2_with fail
    refine (awake_ci _).mono ?_
    rintro e w1 ⟨rfl, hb⟩
    replace X := X.keep hb
    replace Y := Y.keep hb
    replace NN := NN.keep hb
    replace hB := bt hB hb
    clear hb
    obtain ⟨c00, c01, c02, c03⟩ := X.open2
    obtain ⟨c10, c11, c12, c13⟩ := Y.open2
    go_wp2_with fail
    refine (quo_ci _ _ _ _ _).mono ?_
    rw [e1.out]
    rintro e w2 ⟨rfl, hb⟩
    clear c00 c01 c02 c03 c10 c11 c12 c13
    replace X := X.keep hb
    replace Y := Y.keep hb
    replace NN := NN.keep hb
    replace hB := bt hB hb
    clear hb
    have hz2 := hB.size
    have l2X := X.lt
    have l2Y := Y.lt
    have l2NN := NN.lt
    replace X := X.alloc (.cells #[.int .i64 (Iv.quo l h l' h').lo, .int .i64 (Iv.quo l h l' h').hi] 23)
    replace Y := Y.alloc (.cells #[.int .i64 (Iv.quo l h l' h').lo, .int .i64 (Iv.quo l h l' h').hi] 23)
    replace NN := NN.alloc (.cells #[.int .i64 (Iv.quo l h l' h').lo, .int .i64 (Iv.quo l h l' h').hi] 23)
    replace hB := bal hB (.cells #[.int .i64 (Iv.quo l h l' h').lo, .int .i64 (Iv.quo l h l' h').hi] 23)
    have Q := Blk.new w2 23 #[.int .i64 (Iv.quo l h l' h').lo, .int .i64 (Iv.quo l h l' h').hi]
    go_wp2_with fail
    go_returns
    exact ⟨rfl, hB⟩
end Go.Proofs.Ytclohghongpfkaa
