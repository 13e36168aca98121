/-
  The walk of IntervalContains.
-/
import Derived.Test.YtclohghongpfkaaI20
import Derived.Test.YtclohghongpfkaaI3
namespace Go.Proofs.Ytclohghongpfkaa
set_option linter.unusedVariables false
set_option linter.unusedSimpArgs false
open Go.RowKit

set_option maxRecDepth 100000 in
set_option maxHeartbeats 4000000 in
theorem law_contains (l h l' h' n0 n1 : Int) (w : World) (a1 : 0 ≤ n0) (a2 : n0 ≤ 18446744073709551615) (b1 : 0 ≤ n1) (b2 : n1 ≤ 18446744073709551615) : Calls Try.prog 9 #[.agg #[.int .i64 l, .int .i64 h], .agg #[.int .i64 l', .int .i64 h'], .agg #[.int .u64 n0, .int .u64 n1]] w fun e w' => e = .returned (.bool true) ∧ Below w.heap.size w w' := by
  by_cases v : Iv.Vd l h
  rotate_left
  · have e1 := Lib.hid (Iv.vb_no v)
    have hm := Lib.hid (show (Iv.add l h l' h').lo = 0 ∧ (Iv.add l h l' h').hi = 0 ∧ (Iv.add l h l' h').er = 1 from by unfold Iv.add; rw [if_neg (fun q => v q.1)]; exact ⟨rfl, rfl, rfl⟩)
    clear v
    go_enter Try.func9, Try.ntmps9
    have X := Blk.new w 23 #[.int .i64 (l), .int .i64 (h)]
    have hB := ba w (.cells #[.int .i64 (l), .int .i64 (h)] 23)
    have Y := Blk.new1 w (.cells #[.int .i64 (l), .int .i64 (h)] 23) 23 #[.int .i64 (l'), .int .i64 (h')]
    replace X := X.alloc (.cells #[.int .i64 (l'), .int .i64 (h')] 23)
    replace hB := bal hB (.cells #[.int .i64 (l'), .int .i64 (h')] 23)
    have NN := Blk.new2 w (.cells #[.int .i64 (l), .int .i64 (h)] 23) (.cells #[.int .i64 (l'), .int .i64 (h')] 23) 45 #[.int .u64 n0, .int .u64 n1]
    replace X := X.alloc (.cells #[.int .u64 n0, .int .u64 n1] 45)
    replace Y := Y.alloc (.cells #[.int .u64 n0, .int .u64 n1] 45)
    replace hB := bal hB (.cells #[.int .u64 n0, .int .u64 n1] 45)
    go_wp2_with fail
    refine (awake_ci _).mono ?_
    rintro e w1 ⟨rfl, hb⟩
    replace X := X.keep hb
    replace Y := Y.keep hb
    replace NN := NN.keep hb
    replace hB := bt hB hb
    clear hb
    obtain ⟨c00, c01, c02, c03⟩ := X.open2
    go_wp2_with fail
    refine (valid_c _ _ _).mono ?_
    rw [e1.out]
    rintro e w2 ⟨rfl, hb⟩
    clear c00 c01 c02 c03
    replace X := X.keep hb
    replace Y := Y.keep hb
    replace NN := NN.keep hb
    replace hB := bt hB hb
    clear hb
    obtain ⟨c00, c01, c02, c03⟩ := X.open2
    obtain ⟨c10, c11, c12, c13⟩ := Y.open2
    go_wp2_with fail
    refine (add_ci _ _ _ _ _).mono ?_
    rw [hm.out.1, hm.out.2.1, hm.out.2.2]
    rintro e w3 ⟨rfl, hb⟩
    clear c00 c01 c02 c03 c10 c11 c12 c13
    replace X := X.keep hb
    replace Y := Y.keep hb
    replace NN := NN.keep hb
    replace hB := bt hB hb
    clear hb
    go_wp2_with fail
    go_returns
    exact ⟨rfl, by repeat (first | exact Below.refl _ _ | (with_reducible assumption) | (with_reducible apply bal) | (with_reducible apply bdr) | (with_reducible apply bdnl) | (with_reducible refine bst ?_ (by first | (simp; done) | (simp; omega) | omega) _) | (with_reducible refine bt ?_ (by with_reducible assumption)))⟩
  by_cases v2 : Iv.Vd l' h'
  rotate_left
  · have e1 := Lib.hid (Iv.vb_yes v)
    have e2 := Lib.hid (Iv.vb_no v2)
    have hm := Lib.hid (show (Iv.add l h l' h').lo = 0 ∧ (Iv.add l h l' h').hi = 0 ∧ (Iv.add l h l' h').er = 1 from by unfold Iv.add; rw [if_neg (fun q => v2 q.2)]; exact ⟨rfl, rfl, rfl⟩)
    clear v v2
    go_enter Try.func9, Try.ntmps9
    have X := Blk.new w 23 #[.int .i64 (l), .int .i64 (h)]
    have hB := ba w (.cells #[.int .i64 (l), .int .i64 (h)] 23)
    have Y := Blk.new1 w (.cells #[.int .i64 (l), .int .i64 (h)] 23) 23 #[.int .i64 (l'), .int .i64 (h')]
    replace X := X.alloc (.cells #[.int .i64 (l'), .int .i64 (h')] 23)
    replace hB := bal hB (.cells #[.int .i64 (l'), .int .i64 (h')] 23)
    have NN := Blk.new2 w (.cells #[.int .i64 (l), .int .i64 (h)] 23) (.cells #[.int .i64 (l'), .int .i64 (h')] 23) 45 #[.int .u64 n0, .int .u64 n1]
    replace X := X.alloc (.cells #[.int .u64 n0, .int .u64 n1] 45)
    replace Y := Y.alloc (.cells #[.int .u64 n0, .int .u64 n1] 45)
    replace hB := bal hB (.cells #[.int .u64 n0, .int .u64 n1] 45)
    go_wp2_with fail
    refine (awake_ci _).mono ?_
    rintro e w1 ⟨rfl, hb⟩
    replace X := X.keep hb
    replace Y := Y.keep hb
    replace NN := NN.keep hb
    replace hB := bt hB hb
    clear hb
    obtain ⟨c00, c01, c02, c03⟩ := X.open2
    go_wp2_with fail
    refine (valid_c _ _ _).mono ?_
    rw [e1.out]
    rintro e w2 ⟨rfl, hb⟩
    clear c00 c01 c02 c03
    replace X := X.keep hb
    replace Y := Y.keep hb
    replace NN := NN.keep hb
    replace hB := bt hB hb
    clear hb
    obtain ⟨c00, c01, c02, c03⟩ := Y.open2
    go_wp2_with fail
    refine (valid_c _ _ _).mono ?_
    rw [e2.out]
    rintro e w3 ⟨rfl, hb⟩
    clear c00 c01 c02 c03
    replace X := X.keep hb
    replace Y := Y.keep hb
    replace NN := NN.keep hb
    replace hB := bt hB hb
    clear hb
    obtain ⟨c00, c01, c02, c03⟩ := X.open2
    obtain ⟨c10, c11, c12, c13⟩ := Y.open2
    go_wp2_with fail
    refine (add_ci _ _ _ _ _).mono ?_
    rw [hm.out.1, hm.out.2.1, hm.out.2.2]
    rintro e w4 ⟨rfl, hb⟩
    clear c00 c01 c02 c03 c10 c11 c12 c13
    replace X := X.keep hb
    replace Y := Y.keep hb
    replace NN := NN.keep hb
    replace hB := bt hB hb
    clear hb
    go_wp2_with fail
    go_returns
    exact ⟨rfl, by repeat (first | exact Below.refl _ _ | (with_reducible assumption) | (with_reducible apply bal) | (with_reducible apply bdr) | (with_reducible apply bdnl) | (with_reducible refine bst ?_ (by first | (simp; done) | (simp; omega) | omega) _) | (with_reducible refine bt ?_ (by with_reducible assumption)))⟩
  by_cases c0 : (Iv.add l h l' h').er = 0 <;> by_cases c1 : (Iv.sub l h l' h').er = 0 <;> by_cases c2 : (Iv.mul l h l' h').er = 0
  · have e1 := Lib.hid (Iv.vb_yes v)
    have e2 := Lib.hid (Iv.vb_yes v2)
    have V1 := Lib.hid v
    have V2 := Lib.hid v2
    obtain ⟨mu, hx⟩ : ∃ u, Hid (Iv.mb l h n0 = u) := ⟨_, Lib.hid rfl⟩
    obtain ⟨mv, hy⟩ : ∃ u, Hid (Iv.mb l' h' n1 = u) := ⟨_, Lib.hid rfl⟩
    have hu := Iv.mb_in (n := n0) v
    have hv := Iv.mb_in (n := n1) v2
    rw [hx.out] at hu
    rw [hy.out] at hv
    have g1 := Lib.hid (Iv.hs_yes v hu.1 hu.2)
    have g2 := Lib.hid (Iv.hs_yes v2 hv.1 hv.2)
    have x1 : -9223372036854775808 ≤ mu := by unfold Iv.Vd at v; omega
    have x2 : mu ≤ 9223372036854775807 := by unfold Iv.Vd at v; omega
    have y1 : -9223372036854775808 ≤ mv := by unfold Iv.Vd at v2; omega
    have y2 : mv ≤ 9223372036854775807 := by unfold Iv.Vd at v2; omega
    have mw := Wi.wd_self (mul_W x1 x2 y1 y2)
    have N0 := Iv.add_has hu hv c0
    have ew0 := IntWalk.i64_in (mu + mv) ⟨N0.2.1, N0.2.2⟩
    replace N0 := Lib.hid N0.1
    replace c0 := Lib.hid c0
    have N1 := Iv.sub_has hu hv c1
    have ew1 := IntWalk.i64_in (mu - mv) ⟨N1.2.1, N1.2.2⟩
    replace N1 := Lib.hid N1.1
    replace c1 := Lib.hid c1
    have N2 := Iv.mul_has hu hv c2
    have k1 := Lib.hid (Wi.ib_yes N2.2)
    have k2 := Lib.hid (Wi.iv_yes N2.2)
    replace N2 := Lib.hid N2.1
    replace c2 := Lib.hid c2
    clear v v2 hu hv
    go_enter Try.func9, Try.ntmps9
    have X := Blk.new w 23 #[.int .i64 (l), .int .i64 (h)]
    have hB := ba w (.cells #[.int .i64 (l), .int .i64 (h)] 23)
    have Y := Blk.new1 w (.cells #[.int .i64 (l), .int .i64 (h)] 23) 23 #[.int .i64 (l'), .int .i64 (h')]
    replace X := X.alloc (.cells #[.int .i64 (l'), .int .i64 (h')] 23)
    replace hB := bal hB (.cells #[.int .i64 (l'), .int .i64 (h')] 23)
    have NN := Blk.new2 w (.cells #[.int .i64 (l), .int .i64 (h)] 23) (.cells #[.int .i64 (l'), .int .i64 (h')] 23) 45 #[.int .u64 n0, .int .u64 n1]
    replace X := X.alloc (.cells #[.int .u64 n0, .int .u64 n1] 45)
    replace Y := Y.alloc (.cells #[.int .u64 n0, .int .u64 n1] 45)
    replace hB := bal hB (.cells #[.int .u64 n0, .int .u64 n1] 45)
    go_wp2_with fail
    refine (awake_ci _).mono ?_
    rintro e w1 ⟨rfl, hb⟩
    replace X := X.keep hb
    replace Y := Y.keep hb
    replace NN := NN.keep hb
    replace hB := bt hB hb
    clear hb
    obtain ⟨c00, c01, c02, c03⟩ := X.open2
    go_wp2_with fail
    refine (valid_c _ _ _).mono ?_
    rw [e1.out]
    rintro e w2 ⟨rfl, hb⟩
    clear c00 c01 c02 c03
    replace X := X.keep hb
    replace Y := Y.keep hb
    replace NN := NN.keep hb
    replace hB := bt hB hb
    clear hb
    obtain ⟨c00, c01, c02, c03⟩ := Y.open2
    go_wp2_with fail
    refine (valid_c _ _ _).mono ?_
    rw [e2.out]
    rintro e w3 ⟨rfl, hb⟩
    clear c00 c01 c02 c03
    replace X := X.keep hb
    replace Y := Y.keep hb
    replace NN := NN.keep hb
    replace hB := bt hB hb
    clear hb
    go_wp2_with fail
    refine wp_region_inv (fun L x G wx => Below w.heap.size w wx
          ∧ w.heap.size < wx.heap.size
          ∧ Blk wx (w.heap.size) 23 #[.int .i64 (l), .int .i64 (h)]
          ∧ w.heap.size + 1 < wx.heap.size
          ∧ Blk wx (w.heap.size + 1) 23 #[.int .i64 (l'), .int .i64 (h')]
          ∧ w.heap.size + 1 + 1 < wx.heap.size
          ∧ Blk wx (w.heap.size + 1 + 1) 45 #[.int .u64 n0, .int .u64 n1]
          ∧ (L 0 → x 37 = .agg #[.int .i64 (l), .int .i64 (h)])
          ∧ (L 1 → x 38 = .pointer (some ⟨w.heap.size + 1 + 1, 0, none⟩))
          ∧ (L 2 → x 39 = .int .u64 n0)
          ∧ (L 3 → x 40 = .int .i64 (mu))
          ∧ (L 4 → x 41 = .agg #[.int .i64 (l'), .int .i64 (h')])
          ∧ (L 5 → x 42 = .pointer (some ⟨w.heap.size + 1 + 1, 1, none⟩))
          ∧ (L 6 → x 43 = .int .u64 n1)
          ∧ (L 7 → x 44 = .int .i64 (mv))
          ∧ (L 8 → x 9 = .int .i64 (mu))
          ∧ (L 9 → x 10 = .int .i64 (mv))) [37, 38, 39, 40, 41, 42, 43, 44, 9, 10] 10 (by kernel_rfl) (by kernel_rfl) (by kernel_rfl) ?h0 ?st ?fin
    case h0 =>
      exact ⟨bdr hB, Blk.lt X.drew, X.drew, Blk.lt Y.drew, Y.drew, Blk.lt NN.drew, NN.drew, fun q => q.elim, fun q => q.elim, fun q => q.elim, fun q => q.elim, fun q => q.elim, fun q => q.elim, fun q => q.elim, fun q => q.elim, fun q => q.elim, fun q => q.elim⟩
    case st =>
      refine StepsOk.cons (i := 0) rfl (fun L x G w1 K Q hn hp hJ hK => ?_) ?_
      · skip
        have hc := Blk.open2 ((hJ.2.2.1))
        have c0 := hc.1
        have c1 := hc.2.1
        have c2 := hc.2.2.1
        have c3 := hc.2.2.2
        clear hc
        simp only [putAll, Act.put, List.setIfInBounds_toArray, List.set_cons_zero, List.set_cons_succ]
        go_simp
        refine hK _ G _ (by kernel_rfl) ?_
        exact ⟨(hJ.1),
          (hJ.2.1),
          (hJ.2.2.1),
          (hJ.2.2.2.1),
          (hJ.2.2.2.2.1),
          (hJ.2.2.2.2.2.1),
          (hJ.2.2.2.2.2.2.1),
          fun _ => rfl,
          fun q => (hJ.2.2.2.2.2.2.2.2.1) (q.resolve_left (by decide)),
          fun q => (hJ.2.2.2.2.2.2.2.2.2.1) (q.resolve_left (by decide)),
          fun q => (hJ.2.2.2.2.2.2.2.2.2.2.1) (q.resolve_left (by decide)),
          fun q => (hJ.2.2.2.2.2.2.2.2.2.2.2.1) (q.resolve_left (by decide)),
          fun q => (hJ.2.2.2.2.2.2.2.2.2.2.2.2.1) (q.resolve_left (by decide)),
          fun q => (hJ.2.2.2.2.2.2.2.2.2.2.2.2.2.1) (q.resolve_left (by decide)),
          fun q => (hJ.2.2.2.2.2.2.2.2.2.2.2.2.2.2.1) (q.resolve_left (by decide)),
          fun q => (hJ.2.2.2.2.2.2.2.2.2.2.2.2.2.2.2.1) (q.resolve_left (by decide)),
          fun q => (hJ.2.2.2.2.2.2.2.2.2.2.2.2.2.2.2.2) (q.resolve_left (by decide))⟩
      refine StepsOk.cons (i := 1) rfl (fun L x G w1 K Q hn hp hJ hK => ?_) ?_
      · skip
        simp only [putAll, Act.put, List.setIfInBounds_toArray, List.set_cons_zero, List.set_cons_succ]
        go_simp
        refine hK _ G _ (by kernel_rfl) ?_
        exact ⟨(hJ.1),
          (hJ.2.1),
          (hJ.2.2.1),
          (hJ.2.2.2.1),
          (hJ.2.2.2.2.1),
          (hJ.2.2.2.2.2.1),
          (hJ.2.2.2.2.2.2.1),
          fun q => (hJ.2.2.2.2.2.2.2.1) (q.resolve_left (by decide)),
          fun _ => rfl,
          fun q => (hJ.2.2.2.2.2.2.2.2.2.1) (q.resolve_left (by decide)),
          fun q => (hJ.2.2.2.2.2.2.2.2.2.2.1) (q.resolve_left (by decide)),
          fun q => (hJ.2.2.2.2.2.2.2.2.2.2.2.1) (q.resolve_left (by decide)),
          fun q => (hJ.2.2.2.2.2.2.2.2.2.2.2.2.1) (q.resolve_left (by decide)),
          fun q => (hJ.2.2.2.2.2.2.2.2.2.2.2.2.2.1) (q.resolve_left (by decide)),
          fun q => (hJ.2.2.2.2.2.2.2.2.2.2.2.2.2.2.1) (q.resolve_left (by decide)),
          fun q => (hJ.2.2.2.2.2.2.2.2.2.2.2.2.2.2.2.1) (q.resolve_left (by decide)),
          fun q => (hJ.2.2.2.2.2.2.2.2.2.2.2.2.2.2.2.2) (q.resolve_left (by decide))⟩
      refine StepsOk.cons (i := 2) rfl (fun L x G w1 K Q hn hp hJ hK => ?_) ?_
      · skip
        have p1 : L 1 := hp ⟨1, .data⟩ (by simp) rfl
        have e1 := (hJ.2.2.2.2.2.2.2.2.1) p1
        have hc := Blk.open2 ((hJ.2.2.2.2.2.2.1))
        have c0 := hc.1
        have c1 := hc.2.1
        have c2 := hc.2.2.1
        have c3 := hc.2.2.2
        clear hc
        simp only [putAll, Act.put, List.setIfInBounds_toArray, List.set_cons_zero, List.set_cons_succ]
        go_simp
        refine hK _ G _ (by kernel_rfl) ?_
        exact ⟨(hJ.1),
          (hJ.2.1),
          (hJ.2.2.1),
          (hJ.2.2.2.1),
          (hJ.2.2.2.2.1),
          (hJ.2.2.2.2.2.1),
          (hJ.2.2.2.2.2.2.1),
          fun q => (hJ.2.2.2.2.2.2.2.1) (q.resolve_left (by decide)),
          fun _ => by first | exact rfl | exact e1,
          fun _ => rfl,
          fun q => (hJ.2.2.2.2.2.2.2.2.2.2.1) (q.resolve_left (by decide)),
          fun q => (hJ.2.2.2.2.2.2.2.2.2.2.2.1) (q.resolve_left (by decide)),
          fun q => (hJ.2.2.2.2.2.2.2.2.2.2.2.2.1) (q.resolve_left (by decide)),
          fun q => (hJ.2.2.2.2.2.2.2.2.2.2.2.2.2.1) (q.resolve_left (by decide)),
          fun q => (hJ.2.2.2.2.2.2.2.2.2.2.2.2.2.2.1) (q.resolve_left (by decide)),
          fun q => (hJ.2.2.2.2.2.2.2.2.2.2.2.2.2.2.2.1) (q.resolve_left (by decide)),
          fun q => (hJ.2.2.2.2.2.2.2.2.2.2.2.2.2.2.2.2) (q.resolve_left (by decide))⟩
      refine StepsOk.cons (i := 3) rfl (fun L x G w1 K Q hn hp hJ hK => ?_) ?_
      · skip
        have p0 : L 0 := hp ⟨0, .data⟩ (by simp) rfl
        have e0 := (hJ.2.2.2.2.2.2.2.1) p0
        have p2 : L 2 := hp ⟨2, .data⟩ (by simp) rfl
        have e2 := (hJ.2.2.2.2.2.2.2.2.2.1) p2
        simp only [putAll, Act.put, List.setIfInBounds_toArray, List.set_cons_zero, List.set_cons_succ]
        go_simp
        refine (member_c _ _ _ _ V1.out a1 a2).mono ?_
        rw [hx.out]
        rintro e w2 ⟨rfl, hb⟩
        have hz := hb.size
        try go_simp
        refine hK _ G _ (by kernel_rfl) ?_
        exact ⟨bt (hJ.1) hb,
          Nat.lt_of_lt_of_le (hJ.2.1) hb.size,
          Blk.keep ((hJ.2.2.1)) hb,
          Nat.lt_of_lt_of_le (hJ.2.2.2.1) hb.size,
          Blk.keep ((hJ.2.2.2.2.1)) hb,
          Nat.lt_of_lt_of_le (hJ.2.2.2.2.2.1) hb.size,
          Blk.keep ((hJ.2.2.2.2.2.2.1)) hb,
          fun _ => by first | exact rfl | exact e0,
          fun q => (hJ.2.2.2.2.2.2.2.2.1) (q.resolve_left (by decide)),
          fun _ => by first | exact rfl | exact e2,
          fun _ => rfl,
          fun q => (hJ.2.2.2.2.2.2.2.2.2.2.2.1) (q.resolve_left (by decide)),
          fun q => (hJ.2.2.2.2.2.2.2.2.2.2.2.2.1) (q.resolve_left (by decide)),
          fun q => (hJ.2.2.2.2.2.2.2.2.2.2.2.2.2.1) (q.resolve_left (by decide)),
          fun q => (hJ.2.2.2.2.2.2.2.2.2.2.2.2.2.2.1) (q.resolve_left (by decide)),
          fun q => (hJ.2.2.2.2.2.2.2.2.2.2.2.2.2.2.2.1) (q.resolve_left (by decide)),
          fun q => (hJ.2.2.2.2.2.2.2.2.2.2.2.2.2.2.2.2) (q.resolve_left (by decide))⟩
      refine StepsOk.cons (i := 4) rfl (fun L x G w1 K Q hn hp hJ hK => ?_) ?_
      · skip
        have hc := Blk.open2 ((hJ.2.2.2.2.1))
        have c0 := hc.1
        have c1 := hc.2.1
        have c2 := hc.2.2.1
        have c3 := hc.2.2.2
        clear hc
        simp only [putAll, Act.put, List.setIfInBounds_toArray, List.set_cons_zero, List.set_cons_succ]
        go_simp
        refine hK _ G _ (by kernel_rfl) ?_
        exact ⟨(hJ.1),
          (hJ.2.1),
          (hJ.2.2.1),
          (hJ.2.2.2.1),
          (hJ.2.2.2.2.1),
          (hJ.2.2.2.2.2.1),
          (hJ.2.2.2.2.2.2.1),
          fun q => (hJ.2.2.2.2.2.2.2.1) (q.resolve_left (by decide)),
          fun q => (hJ.2.2.2.2.2.2.2.2.1) (q.resolve_left (by decide)),
          fun q => (hJ.2.2.2.2.2.2.2.2.2.1) (q.resolve_left (by decide)),
          fun q => (hJ.2.2.2.2.2.2.2.2.2.2.1) (q.resolve_left (by decide)),
          fun _ => rfl,
          fun q => (hJ.2.2.2.2.2.2.2.2.2.2.2.2.1) (q.resolve_left (by decide)),
          fun q => (hJ.2.2.2.2.2.2.2.2.2.2.2.2.2.1) (q.resolve_left (by decide)),
          fun q => (hJ.2.2.2.2.2.2.2.2.2.2.2.2.2.2.1) (q.resolve_left (by decide)),
          fun q => (hJ.2.2.2.2.2.2.2.2.2.2.2.2.2.2.2.1) (q.resolve_left (by decide)),
          fun q => (hJ.2.2.2.2.2.2.2.2.2.2.2.2.2.2.2.2) (q.resolve_left (by decide))⟩
      refine StepsOk.cons (i := 5) rfl (fun L x G w1 K Q hn hp hJ hK => ?_) ?_
      · skip
        simp only [putAll, Act.put, List.setIfInBounds_toArray, List.set_cons_zero, List.set_cons_succ]
        go_simp
        refine hK _ G _ (by kernel_rfl) ?_
        exact ⟨(hJ.1),
          (hJ.2.1),
          (hJ.2.2.1),
          (hJ.2.2.2.1),
          (hJ.2.2.2.2.1),
          (hJ.2.2.2.2.2.1),
          (hJ.2.2.2.2.2.2.1),
          fun q => (hJ.2.2.2.2.2.2.2.1) (q.resolve_left (by decide)),
          fun q => (hJ.2.2.2.2.2.2.2.2.1) (q.resolve_left (by decide)),
          fun q => (hJ.2.2.2.2.2.2.2.2.2.1) (q.resolve_left (by decide)),
          fun q => (hJ.2.2.2.2.2.2.2.2.2.2.1) (q.resolve_left (by decide)),
          fun q => (hJ.2.2.2.2.2.2.2.2.2.2.2.1) (q.resolve_left (by decide)),
          fun _ => rfl,
          fun q => (hJ.2.2.2.2.2.2.2.2.2.2.2.2.2.1) (q.resolve_left (by decide)),
          fun q => (hJ.2.2.2.2.2.2.2.2.2.2.2.2.2.2.1) (q.resolve_left (by decide)),
          fun q => (hJ.2.2.2.2.2.2.2.2.2.2.2.2.2.2.2.1) (q.resolve_left (by decide)),
          fun q => (hJ.2.2.2.2.2.2.2.2.2.2.2.2.2.2.2.2) (q.resolve_left (by decide))⟩
      refine StepsOk.cons (i := 6) rfl (fun L x G w1 K Q hn hp hJ hK => ?_) ?_
      · skip
        have p5 : L 5 := hp ⟨5, .data⟩ (by simp) rfl
        have e5 := (hJ.2.2.2.2.2.2.2.2.2.2.2.2.1) p5
        have hc := Blk.open2 ((hJ.2.2.2.2.2.2.1))
        have c0 := hc.1
        have c1 := hc.2.1
        have c2 := hc.2.2.1
        have c3 := hc.2.2.2
        clear hc
        simp only [putAll, Act.put, List.setIfInBounds_toArray, List.set_cons_zero, List.set_cons_succ]
        go_simp
        refine hK _ G _ (by kernel_rfl) ?_
        exact ⟨(hJ.1),
          (hJ.2.1),
          (hJ.2.2.1),
          (hJ.2.2.2.1),
          (hJ.2.2.2.2.1),
          (hJ.2.2.2.2.2.1),
          (hJ.2.2.2.2.2.2.1),
          fun q => (hJ.2.2.2.2.2.2.2.1) (q.resolve_left (by decide)),
          fun q => (hJ.2.2.2.2.2.2.2.2.1) (q.resolve_left (by decide)),
          fun q => (hJ.2.2.2.2.2.2.2.2.2.1) (q.resolve_left (by decide)),
          fun q => (hJ.2.2.2.2.2.2.2.2.2.2.1) (q.resolve_left (by decide)),
          fun q => (hJ.2.2.2.2.2.2.2.2.2.2.2.1) (q.resolve_left (by decide)),
          fun _ => by first | exact rfl | exact e5,
          fun _ => rfl,
          fun q => (hJ.2.2.2.2.2.2.2.2.2.2.2.2.2.2.1) (q.resolve_left (by decide)),
          fun q => (hJ.2.2.2.2.2.2.2.2.2.2.2.2.2.2.2.1) (q.resolve_left (by decide)),
          fun q => (hJ.2.2.2.2.2.2.2.2.2.2.2.2.2.2.2.2) (q.resolve_left (by decide))⟩
      refine StepsOk.cons (i := 7) rfl (fun L x G w1 K Q hn hp hJ hK => ?_) ?_
      · skip
        have p4 : L 4 := hp ⟨4, .data⟩ (by simp) rfl
        have e4 := (hJ.2.2.2.2.2.2.2.2.2.2.2.1) p4
        have p6 : L 6 := hp ⟨6, .data⟩ (by simp) rfl
        have e6 := (hJ.2.2.2.2.2.2.2.2.2.2.2.2.2.1) p6
        simp only [putAll, Act.put, List.setIfInBounds_toArray, List.set_cons_zero, List.set_cons_succ]
        go_simp
        refine (member_c _ _ _ _ V2.out b1 b2).mono ?_
        rw [hy.out]
        rintro e w2 ⟨rfl, hb⟩
        have hz := hb.size
        try go_simp
        refine hK _ G _ (by kernel_rfl) ?_
        exact ⟨bt (hJ.1) hb,
          Nat.lt_of_lt_of_le (hJ.2.1) hb.size,
          Blk.keep ((hJ.2.2.1)) hb,
          Nat.lt_of_lt_of_le (hJ.2.2.2.1) hb.size,
          Blk.keep ((hJ.2.2.2.2.1)) hb,
          Nat.lt_of_lt_of_le (hJ.2.2.2.2.2.1) hb.size,
          Blk.keep ((hJ.2.2.2.2.2.2.1)) hb,
          fun q => (hJ.2.2.2.2.2.2.2.1) (q.resolve_left (by decide)),
          fun q => (hJ.2.2.2.2.2.2.2.2.1) (q.resolve_left (by decide)),
          fun q => (hJ.2.2.2.2.2.2.2.2.2.1) (q.resolve_left (by decide)),
          fun q => (hJ.2.2.2.2.2.2.2.2.2.2.1) (q.resolve_left (by decide)),
          fun _ => by first | exact rfl | exact e4,
          fun q => (hJ.2.2.2.2.2.2.2.2.2.2.2.2.1) (q.resolve_left (by decide)),
          fun _ => by first | exact rfl | exact e6,
          fun _ => rfl,
          fun q => (hJ.2.2.2.2.2.2.2.2.2.2.2.2.2.2.2.1) (q.resolve_left (by decide)),
          fun q => (hJ.2.2.2.2.2.2.2.2.2.2.2.2.2.2.2.2) (q.resolve_left (by decide))⟩
      refine StepsOk.cons (i := 8) rfl (fun L x G w1 K Q hn hp hJ hK => ?_) ?_
      · skip
        have p3 : L 3 := hp ⟨3, .data⟩ (by simp) rfl
        have e3 := (hJ.2.2.2.2.2.2.2.2.2.2.1) p3
        simp only [putAll, Act.put, List.setIfInBounds_toArray, List.set_cons_zero, List.set_cons_succ]
        go_simp
        refine hK _ G _ (by kernel_rfl) ?_
        exact ⟨(hJ.1),
          (hJ.2.1),
          (hJ.2.2.1),
          (hJ.2.2.2.1),
          (hJ.2.2.2.2.1),
          (hJ.2.2.2.2.2.1),
          (hJ.2.2.2.2.2.2.1),
          fun q => (hJ.2.2.2.2.2.2.2.1) (q.resolve_left (by decide)),
          fun q => (hJ.2.2.2.2.2.2.2.2.1) (q.resolve_left (by decide)),
          fun q => (hJ.2.2.2.2.2.2.2.2.2.1) (q.resolve_left (by decide)),
          fun _ => by first | exact rfl | exact e3,
          fun q => (hJ.2.2.2.2.2.2.2.2.2.2.2.1) (q.resolve_left (by decide)),
          fun q => (hJ.2.2.2.2.2.2.2.2.2.2.2.2.1) (q.resolve_left (by decide)),
          fun q => (hJ.2.2.2.2.2.2.2.2.2.2.2.2.2.1) (q.resolve_left (by decide)),
          fun q => (hJ.2.2.2.2.2.2.2.2.2.2.2.2.2.2.1) (q.resolve_left (by decide)),
          fun _ => rfl,
          fun q => (hJ.2.2.2.2.2.2.2.2.2.2.2.2.2.2.2.2) (q.resolve_left (by decide))⟩
      refine StepsOk.cons (i := 9) rfl (fun L x G w1 K Q hn hp hJ hK => ?_) ?_
      · skip
        have p7 : L 7 := hp ⟨7, .data⟩ (by simp) rfl
        have e7 := (hJ.2.2.2.2.2.2.2.2.2.2.2.2.2.2.1) p7
        simp only [putAll, Act.put, List.setIfInBounds_toArray, List.set_cons_zero, List.set_cons_succ]
        go_simp
        refine hK _ G _ (by kernel_rfl) ?_
        exact ⟨(hJ.1),
          (hJ.2.1),
          (hJ.2.2.1),
          (hJ.2.2.2.1),
          (hJ.2.2.2.2.1),
          (hJ.2.2.2.2.2.1),
          (hJ.2.2.2.2.2.2.1),
          fun q => (hJ.2.2.2.2.2.2.2.1) (q.resolve_left (by decide)),
          fun q => (hJ.2.2.2.2.2.2.2.2.1) (q.resolve_left (by decide)),
          fun q => (hJ.2.2.2.2.2.2.2.2.2.1) (q.resolve_left (by decide)),
          fun q => (hJ.2.2.2.2.2.2.2.2.2.2.1) (q.resolve_left (by decide)),
          fun q => (hJ.2.2.2.2.2.2.2.2.2.2.2.1) (q.resolve_left (by decide)),
          fun q => (hJ.2.2.2.2.2.2.2.2.2.2.2.2.1) (q.resolve_left (by decide)),
          fun q => (hJ.2.2.2.2.2.2.2.2.2.2.2.2.2.1) (q.resolve_left (by decide)),
          fun _ => by first | exact rfl | exact e7,
          fun q => (hJ.2.2.2.2.2.2.2.2.2.2.2.2.2.2.2.1) (q.resolve_left (by decide)),
          fun _ => rfl⟩
      exact StepsOk.nil
    case fin =>
      intro L x G w4 hall hJ
      replace X := (hJ.2.2.1)
      replace Y := (hJ.2.2.2.2.1)
      replace NN := (hJ.2.2.2.2.2.2.1)
      have u0 := hJ.2.2.2.2.2.2.2.1 (hall 0 (by decide))
      have u1 := hJ.2.2.2.2.2.2.2.2.1 (hall 1 (by decide))
      have u2 := hJ.2.2.2.2.2.2.2.2.2.1 (hall 2 (by decide))
      have u3 := hJ.2.2.2.2.2.2.2.2.2.2.1 (hall 3 (by decide))
      have u4 := hJ.2.2.2.2.2.2.2.2.2.2.2.1 (hall 4 (by decide))
      have u5 := hJ.2.2.2.2.2.2.2.2.2.2.2.2.1 (hall 5 (by decide))
      have u6 := hJ.2.2.2.2.2.2.2.2.2.2.2.2.2.1 (hall 6 (by decide))
      have u7 := hJ.2.2.2.2.2.2.2.2.2.2.2.2.2.2.1 (hall 7 (by decide))
      have u8 := hJ.2.2.2.2.2.2.2.2.2.2.2.2.2.2.2.1 (hall 8 (by decide))
      have u9 := hJ.2.2.2.2.2.2.2.2.2.2.2.2.2.2.2.2 (hall 9 (by decide))
      replace hB := hJ.1
      simp only [putAll, Act.put, List.setIfInBounds_toArray, List.set_cons_zero, List.set_cons_succ]
      simp only [u0, u1, u2, u3, u4, u5, u6, u7, u8, u9]
      clear hall hJ u0 u1 u2 u3 u4 u5 u6 u7 u8 u9
      obtain ⟨c00, c01, c02, c03⟩ := X.open2
      go_wp2_with fail
      refine (has_c _ _ _ _).mono ?_
      rw [g1.out]
      rintro e w5 ⟨rfl, hb⟩
      clear c00 c01 c02 c03
      replace X := X.keep hb
      replace Y := Y.keep hb
      replace NN := NN.keep hb
      replace hB := bt hB hb
      clear hb
      obtain ⟨c00, c01, c02, c03⟩ := Y.open2
      go_wp2_with fail
      refine (has_c _ _ _ _).mono ?_
      rw [g2.out]
      rintro e w6 ⟨rfl, hb⟩
      clear c00 c01 c02 c03
      replace X := X.keep hb
      replace Y := Y.keep hb
      replace NN := NN.keep hb
      replace hB := bt hB hb
      clear hb
      obtain ⟨c00, c01, c02, c03⟩ := X.open2
      obtain ⟨c10, c11, c12, c13⟩ := Y.open2
      go_wp2_with fail
      refine (add_ci _ _ _ _ _).mono ?_
      rw [c0.out]
      rintro e w7 ⟨rfl, hb⟩
      clear c00 c01 c02 c03 c10 c11 c12 c13
      replace X := X.keep hb
      replace Y := Y.keep hb
      replace NN := NN.keep hb
      replace hB := bt hB hb
      clear hb
      have hz7 := hB.size
      have l7X := X.lt
      have l7Y := Y.lt
      have l7NN := NN.lt
      replace X := X.alloc (.cells #[.int .i64 (Iv.add l h l' h').lo, .int .i64 (Iv.add l h l' h').hi] 23)
      replace Y := Y.alloc (.cells #[.int .i64 (Iv.add l h l' h').lo, .int .i64 (Iv.add l h l' h').hi] 23)
      replace NN := NN.alloc (.cells #[.int .i64 (Iv.add l h l' h').lo, .int .i64 (Iv.add l h l' h').hi] 23)
      replace hB := bal hB (.cells #[.int .i64 (Iv.add l h l' h').lo, .int .i64 (Iv.add l h l' h').hi] 23)
      have A := Blk.new w7 23 #[.int .i64 (Iv.add l h l' h').lo, .int .i64 (Iv.add l h l' h').hi]
      obtain ⟨c00, c01, c02, c03⟩ := X.open2
      obtain ⟨c10, c11, c12, c13⟩ := Y.open2
      obtain ⟨c20, c21, c22, c23⟩ := A.open2
      go_wp2_with fail
      refine (sub_ci _ _ _ _ _).mono ?_
      rw [c1.out]
      rintro e w8 ⟨rfl, hb⟩
      clear c00 c01 c02 c03 c10 c11 c12 c13 c20 c21 c22 c23
      replace X := X.keep hb
      replace Y := Y.keep hb
      replace NN := NN.keep hb
      replace A := A.keep hb
      replace hB := bt hB hb
      clear hb
      have hz8 := hB.size
      have l8X := X.lt
      have l8Y := Y.lt
      have l8NN := NN.lt
      have l8A := A.lt
      replace X := X.alloc (.cells #[.int .i64 (Iv.sub l h l' h').lo, .int .i64 (Iv.sub l h l' h').hi] 23)
      replace Y := Y.alloc (.cells #[.int .i64 (Iv.sub l h l' h').lo, .int .i64 (Iv.sub l h l' h').hi] 23)
      replace NN := NN.alloc (.cells #[.int .i64 (Iv.sub l h l' h').lo, .int .i64 (Iv.sub l h l' h').hi] 23)
      replace A := A.alloc (.cells #[.int .i64 (Iv.sub l h l' h').lo, .int .i64 (Iv.sub l h l' h').hi] 23)
      replace hB := bal hB (.cells #[.int .i64 (Iv.sub l h l' h').lo, .int .i64 (Iv.sub l h l' h').hi] 23)
      have B := Blk.new w8 23 #[.int .i64 (Iv.sub l h l' h').lo, .int .i64 (Iv.sub l h l' h').hi]
      obtain ⟨c00, c01, c02, c03⟩ := X.open2
      obtain ⟨c10, c11, c12, c13⟩ := Y.open2
      obtain ⟨c20, c21, c22, c23⟩ := A.open2
      obtain ⟨c30, c31, c32, c33⟩ := B.open2
      go_wp2_with fail
      refine (mul_ci _ _ _ _ _).mono ?_
      rw [c2.out]
      rintro e w9 ⟨rfl, hb⟩
      clear c00 c01 c02 c03 c10 c11 c12 c13 c20 c21 c22 c23 c30 c31 c32 c33
      replace X := X.keep hb
      replace Y := Y.keep hb
      replace NN := NN.keep hb
      replace A := A.keep hb
      replace B := B.keep hb
      replace hB := bt hB hb
      clear hb
      have hz9 := hB.size
      have l9X := X.lt
      have l9Y := Y.lt
      have l9NN := NN.lt
      have l9A := A.lt
      have l9B := B.lt
      replace X := X.alloc (.cells #[.int .i64 (Iv.mul l h l' h').lo, .int .i64 (Iv.mul l h l' h').hi] 23)
      replace Y := Y.alloc (.cells #[.int .i64 (Iv.mul l h l' h').lo, .int .i64 (Iv.mul l h l' h').hi] 23)
      replace NN := NN.alloc (.cells #[.int .i64 (Iv.mul l h l' h').lo, .int .i64 (Iv.mul l h l' h').hi] 23)
      replace A := A.alloc (.cells #[.int .i64 (Iv.mul l h l' h').lo, .int .i64 (Iv.mul l h l' h').hi] 23)
      replace B := B.alloc (.cells #[.int .i64 (Iv.mul l h l' h').lo, .int .i64 (Iv.mul l h l' h').hi] 23)
      replace hB := bal hB (.cells #[.int .i64 (Iv.mul l h l' h').lo, .int .i64 (Iv.mul l h l' h').hi] 23)
      have C := Blk.new w9 23 #[.int .i64 (Iv.mul l h l' h').lo, .int .i64 (Iv.mul l h l' h').hi]
      obtain ⟨c00, c01, c02, c03⟩ := A.open2
      obtain ⟨c10, c11, c12, c13⟩ := B.open2
      obtain ⟨c20, c21, c22, c23⟩ := C.open2
      go_wp2_with fail
      refine (has_c _ _ _ _).mono ?_
      rw [N0.out]
      rintro e w10 ⟨rfl, hb⟩
      clear c00 c01 c02 c03 c10 c11 c12 c13 c20 c21 c22 c23
      replace X := X.keep hb
      replace Y := Y.keep hb
      replace NN := NN.keep hb
      replace A := A.keep hb
      replace B := B.keep hb
      replace C := C.keep hb
      replace hB := bt hB hb
      clear hb
      obtain ⟨c00, c01, c02, c03⟩ := A.open2
      obtain ⟨c10, c11, c12, c13⟩ := B.open2
      obtain ⟨c20, c21, c22, c23⟩ := C.open2
      go_wp2_with fail
      refine (has_c _ _ _ _).mono ?_
      rw [N1.out]
      rintro e w11 ⟨rfl, hb⟩
      clear c00 c01 c02 c03 c10 c11 c12 c13 c20 c21 c22 c23
      replace X := X.keep hb
      replace Y := Y.keep hb
      replace NN := NN.keep hb
      replace A := A.keep hb
      replace B := B.keep hb
      replace C := C.keep hb
      replace hB := bt hB hb
      clear hb
      obtain ⟨c00, c01, c02, c03⟩ := C.open2
      go_wp2_with fail
      refine (mul_c _ _ _ x1 x2 y1 y2).mono ?_
      rintro e w12 ⟨rfl, hb⟩
      clear c00 c01 c02 c03
      replace X := X.keep hb
      replace Y := Y.keep hb
      replace NN := NN.keep hb
      replace A := A.keep hb
      replace B := B.keep hb
      replace C := C.keep hb
      replace hB := bt hB hb
      clear hb
      obtain ⟨c00, c01, c02, c03⟩ := C.open2
      go_wp2_with fail
      refine (int_c _ _ _ _ mw).mono ?_
      rw [k1.out, k2.out]
      rintro e w13 ⟨rfl, hb⟩
      clear c00 c01 c02 c03
      replace X := X.keep hb
      replace Y := Y.keep hb
      replace NN := NN.keep hb
      replace A := A.keep hb
      replace B := B.keep hb
      replace C := C.keep hb
      replace hB := bt hB hb
      clear hb
      obtain ⟨c00, c01, c02, c03⟩ := C.open2
      go_wp2_with fail
      refine (has_c _ _ _ _).mono ?_
      rw [N2.out]
      rintro e w14 ⟨rfl, hb⟩
      clear c00 c01 c02 c03
      replace X := X.keep hb
      replace Y := Y.keep hb
      replace NN := NN.keep hb
      replace A := A.keep hb
      replace B := B.keep hb
      replace C := C.keep hb
      replace hB := bt hB hb
      clear hb
      go_wp2_with fail
      go_returns
      exact ⟨rfl, hB⟩
  · have e1 := Lib.hid (Iv.vb_yes v)
    have e2 := Lib.hid (Iv.vb_yes v2)
    have V1 := Lib.hid v
    have V2 := Lib.hid v2
    obtain ⟨mu, hx⟩ : ∃ u, Hid (Iv.mb l h n0 = u) := ⟨_, Lib.hid rfl⟩
    obtain ⟨mv, hy⟩ : ∃ u, Hid (Iv.mb l' h' n1 = u) := ⟨_, Lib.hid rfl⟩
    have hu := Iv.mb_in (n := n0) v
    have hv := Iv.mb_in (n := n1) v2
    rw [hx.out] at hu
    rw [hy.out] at hv
    have g1 := Lib.hid (Iv.hs_yes v hu.1 hu.2)
    have g2 := Lib.hid (Iv.hs_yes v2 hv.1 hv.2)
    have x1 : -9223372036854775808 ≤ mu := by unfold Iv.Vd at v; omega
    have x2 : mu ≤ 9223372036854775807 := by unfold Iv.Vd at v; omega
    have y1 : -9223372036854775808 ≤ mv := by unfold Iv.Vd at v2; omega
    have y2 : mv ≤ 9223372036854775807 := by unfold Iv.Vd at v2; omega
    have mw := Wi.wd_self (mul_W x1 x2 y1 y2)
    have N0 := Iv.add_has hu hv c0
    have ew0 := IntWalk.i64_in (mu + mv) ⟨N0.2.1, N0.2.2⟩
    replace N0 := Lib.hid N0.1
    replace c0 := Lib.hid c0
    have N1 := Iv.sub_has hu hv c1
    have ew1 := IntWalk.i64_in (mu - mv) ⟨N1.2.1, N1.2.2⟩
    replace N1 := Lib.hid N1.1
    replace c1 := Lib.hid c1
    obtain ⟨m2, hm2⟩ : ∃ m, Hid ((Iv.mul l h l' h').er = m) := ⟨_, Lib.hid rfl⟩
    rw [hm2.out] at c2
    have k2_ : (m2 == 0) = false := by simpa using c2
    have kk2_ : (m2 != 0) = true := by simpa using c2
    clear c2
    clear v v2 hu hv
    go_enter Try.func9, Try.ntmps9
    have X := Blk.new w 23 #[.int .i64 (l), .int .i64 (h)]
    have hB := ba w (.cells #[.int .i64 (l), .int .i64 (h)] 23)
    have Y := Blk.new1 w (.cells #[.int .i64 (l), .int .i64 (h)] 23) 23 #[.int .i64 (l'), .int .i64 (h')]
    replace X := X.alloc (.cells #[.int .i64 (l'), .int .i64 (h')] 23)
    replace hB := bal hB (.cells #[.int .i64 (l'), .int .i64 (h')] 23)
    have NN := Blk.new2 w (.cells #[.int .i64 (l), .int .i64 (h)] 23) (.cells #[.int .i64 (l'), .int .i64 (h')] 23) 45 #[.int .u64 n0, .int .u64 n1]
    replace X := X.alloc (.cells #[.int .u64 n0, .int .u64 n1] 45)
    replace Y := Y.alloc (.cells #[.int .u64 n0, .int .u64 n1] 45)
    replace hB := bal hB (.cells #[.int .u64 n0, .int .u64 n1] 45)
    go_wp2_with fail
    refine (awake_ci _).mono ?_
    rintro e w1 ⟨rfl, hb⟩
    replace X := X.keep hb
    replace Y := Y.keep hb
    replace NN := NN.keep hb
    replace hB := bt hB hb
    clear hb
    obtain ⟨c00, c01, c02, c03⟩ := X.open2
    go_wp2_with fail
    refine (valid_c _ _ _).mono ?_
    rw [e1.out]
    rintro e w2 ⟨rfl, hb⟩
    clear c00 c01 c02 c03
    replace X := X.keep hb
    replace Y := Y.keep hb
    replace NN := NN.keep hb
    replace hB := bt hB hb
    clear hb
    obtain ⟨c00, c01, c02, c03⟩ := Y.open2
    go_wp2_with fail
    refine (valid_c _ _ _).mono ?_
    rw [e2.out]
    rintro e w3 ⟨rfl, hb⟩
    clear c00 c01 c02 c03
    replace X := X.keep hb
    replace Y := Y.keep hb
    replace NN := NN.keep hb
    replace hB := bt hB hb
    clear hb
    go_wp2_with fail
    refine wp_region_inv (fun L x G wx => Below w.heap.size w wx
          ∧ w.heap.size < wx.heap.size
          ∧ Blk wx (w.heap.size) 23 #[.int .i64 (l), .int .i64 (h)]
          ∧ w.heap.size + 1 < wx.heap.size
          ∧ Blk wx (w.heap.size + 1) 23 #[.int .i64 (l'), .int .i64 (h')]
          ∧ w.heap.size + 1 + 1 < wx.heap.size
          ∧ Blk wx (w.heap.size + 1 + 1) 45 #[.int .u64 n0, .int .u64 n1]
          ∧ (L 0 → x 37 = .agg #[.int .i64 (l), .int .i64 (h)])
          ∧ (L 1 → x 38 = .pointer (some ⟨w.heap.size + 1 + 1, 0, none⟩))
          ∧ (L 2 → x 39 = .int .u64 n0)
          ∧ (L 3 → x 40 = .int .i64 (mu))
          ∧ (L 4 → x 41 = .agg #[.int .i64 (l'), .int .i64 (h')])
          ∧ (L 5 → x 42 = .pointer (some ⟨w.heap.size + 1 + 1, 1, none⟩))
          ∧ (L 6 → x 43 = .int .u64 n1)
          ∧ (L 7 → x 44 = .int .i64 (mv))
          ∧ (L 8 → x 9 = .int .i64 (mu))
          ∧ (L 9 → x 10 = .int .i64 (mv))) [37, 38, 39, 40, 41, 42, 43, 44, 9, 10] 10 (by kernel_rfl) (by kernel_rfl) (by kernel_rfl) ?h0 ?st ?fin
    case h0 =>
      exact ⟨bdr hB, Blk.lt X.drew, X.drew, Blk.lt Y.drew, Y.drew, Blk.lt NN.drew, NN.drew, fun q => q.elim, fun q => q.elim, fun q => q.elim, fun q => q.elim, fun q => q.elim, fun q => q.elim, fun q => q.elim, fun q => q.elim, fun q => q.elim, fun q => q.elim⟩
    case st =>
      refine StepsOk.cons (i := 0) rfl (fun L x G w1 K Q hn hp hJ hK => ?_) ?_
      · skip
        have hc := Blk.open2 ((hJ.2.2.1))
        have c0 := hc.1
        have c1 := hc.2.1
        have c2 := hc.2.2.1
        have c3 := hc.2.2.2
        clear hc
        simp only [putAll, Act.put, List.setIfInBounds_toArray, List.set_cons_zero, List.set_cons_succ]
        go_simp
        refine hK _ G _ (by kernel_rfl) ?_
        exact ⟨(hJ.1),
          (hJ.2.1),
          (hJ.2.2.1),
          (hJ.2.2.2.1),
          (hJ.2.2.2.2.1),
          (hJ.2.2.2.2.2.1),
          (hJ.2.2.2.2.2.2.1),
          fun _ => rfl,
          fun q => (hJ.2.2.2.2.2.2.2.2.1) (q.resolve_left (by decide)),
          fun q => (hJ.2.2.2.2.2.2.2.2.2.1) (q.resolve_left (by decide)),
          fun q => (hJ.2.2.2.2.2.2.2.2.2.2.1) (q.resolve_left (by decide)),
          fun q => (hJ.2.2.2.2.2.2.2.2.2.2.2.1) (q.resolve_left (by decide)),
          fun q => (hJ.2.2.2.2.2.2.2.2.2.2.2.2.1) (q.resolve_left (by decide)),
          fun q => (hJ.2.2.2.2.2.2.2.2.2.2.2.2.2.1) (q.resolve_left (by decide)),
          fun q => (hJ.2.2.2.2.2.2.2.2.2.2.2.2.2.2.1) (q.resolve_left (by decide)),
          fun q => (hJ.2.2.2.2.2.2.2.2.2.2.2.2.2.2.2.1) (q.resolve_left (by decide)),
          fun q => (hJ.2.2.2.2.2.2.2.2.2.2.2.2.2.2.2.2) (q.resolve_left (by decide))⟩
      refine StepsOk.cons (i := 1) rfl (fun L x G w1 K Q hn hp hJ hK => ?_) ?_
      · skip
        simp only [putAll, Act.put, List.setIfInBounds_toArray, List.set_cons_zero, List.set_cons_succ]
        go_simp
        refine hK _ G _ (by kernel_rfl) ?_
        exact ⟨(hJ.1),
          (hJ.2.1),
          (hJ.2.2.1),
          (hJ.2.2.2.1),
          (hJ.2.2.2.2.1),
          (hJ.2.2.2.2.2.1),
          (hJ.2.2.2.2.2.2.1),
          fun q => (hJ.2.2.2.2.2.2.2.1) (q.resolve_left (by decide)),
          fun _ => rfl,
          fun q => (hJ.2.2.2.2.2.2.2.2.2.1) (q.resolve_left (by decide)),
          fun q => (hJ.2.2.2.2.2.2.2.2.2.2.1) (q.resolve_left (by decide)),
          fun q => (hJ.2.2.2.2.2.2.2.2.2.2.2.1) (q.resolve_left (by decide)),
          fun q => (hJ.2.2.2.2.2.2.2.2.2.2.2.2.1) (q.resolve_left (by decide)),
          fun q => (hJ.2.2.2.2.2.2.2.2.2.2.2.2.2.1) (q.resolve_left (by decide)),
          fun q => (hJ.2.2.2.2.2.2.2.2.2.2.2.2.2.2.1) (q.resolve_left (by decide)),
          fun q => (hJ.2.2.2.2.2.2.2.2.2.2.2.2.2.2.2.1) (q.resolve_left (by decide)),
          fun q => (hJ.2.2.2.2.2.2.2.2.2.2.2.2.2.2.2.2) (q.resolve_left (by decide))⟩
      refine StepsOk.cons (i := 2) rfl (fun L x G w1 K Q hn hp hJ hK => ?_) ?_
      · skip
        have p1 : L 1 := hp ⟨1, .data⟩ (by simp) rfl
        have e1 := (hJ.2.2.2.2.2.2.2.2.1) p1
        have hc := Blk.open2 ((hJ.2.2.2.2.2.2.1))
        have c0 := hc.1
        have c1 := hc.2.1
        have c2 := hc.2.2.1
        have c3 := hc.2.2.2
        clear hc
        simp only [putAll, Act.put, List.setIfInBounds_toArray, List.set_cons_zero, List.set_cons_succ]
        go_simp
        refine hK _ G _ (by kernel_rfl) ?_
        exact ⟨(hJ.1),
          (hJ.2.1),
          (hJ.2.2.1),
          (hJ.2.2.2.1),
          (hJ.2.2.2.2.1),
          (hJ.2.2.2.2.2.1),
          (hJ.2.2.2.2.2.2.1),
          fun q => (hJ.2.2.2.2.2.2.2.1) (q.resolve_left (by decide)),
          fun _ => by first | exact rfl | exact e1,
          fun _ => rfl,
          fun q => (hJ.2.2.2.2.2.2.2.2.2.2.1) (q.resolve_left (by decide)),
          fun q => (hJ.2.2.2.2.2.2.2.2.2.2.2.1) (q.resolve_left (by decide)),
          fun q => (hJ.2.2.2.2.2.2.2.2.2.2.2.2.1) (q.resolve_left (by decide)),
          fun q => (hJ.2.2.2.2.2.2.2.2.2.2.2.2.2.1) (q.resolve_left (by decide)),
          fun q => (hJ.2.2.2.2.2.2.2.2.2.2.2.2.2.2.1) (q.resolve_left (by decide)),
          fun q => (hJ.2.2.2.2.2.2.2.2.2.2.2.2.2.2.2.1) (q.resolve_left (by decide)),
          fun q => (hJ.2.2.2.2.2.2.2.2.2.2.2.2.2.2.2.2) (q.resolve_left (by decide))⟩
      refine StepsOk.cons (i := 3) rfl (fun L x G w1 K Q hn hp hJ hK => ?_) ?_
      · skip
        have p0 : L 0 := hp ⟨0, .data⟩ (by simp) rfl
        have e0 := (hJ.2.2.2.2.2.2.2.1) p0
        have p2 : L 2 := hp ⟨2, .data⟩ (by simp) rfl
        have e2 := (hJ.2.2.2.2.2.2.2.2.2.1) p2
        simp only [putAll, Act.put, List.setIfInBounds_toArray, List.set_cons_zero, List.set_cons_succ]
        go_simp
        refine (member_c _ _ _ _ V1.out a1 a2).mono ?_
        rw [hx.out]
        rintro e w2 ⟨rfl, hb⟩
        have hz := hb.size
        try go_simp
        refine hK _ G _ (by kernel_rfl) ?_
        exact ⟨bt (hJ.1) hb,
          Nat.lt_of_lt_of_le (hJ.2.1) hb.size,
          Blk.keep ((hJ.2.2.1)) hb,
          Nat.lt_of_lt_of_le (hJ.2.2.2.1) hb.size,
          Blk.keep ((hJ.2.2.2.2.1)) hb,
          Nat.lt_of_lt_of_le (hJ.2.2.2.2.2.1) hb.size,
          Blk.keep ((hJ.2.2.2.2.2.2.1)) hb,
          fun _ => by first | exact rfl | exact e0,
          fun q => (hJ.2.2.2.2.2.2.2.2.1) (q.resolve_left (by decide)),
          fun _ => by first | exact rfl | exact e2,
          fun _ => rfl,
          fun q => (hJ.2.2.2.2.2.2.2.2.2.2.2.1) (q.resolve_left (by decide)),
          fun q => (hJ.2.2.2.2.2.2.2.2.2.2.2.2.1) (q.resolve_left (by decide)),
          fun q => (hJ.2.2.2.2.2.2.2.2.2.2.2.2.2.1) (q.resolve_left (by decide)),
          fun q => (hJ.2.2.2.2.2.2.2.2.2.2.2.2.2.2.1) (q.resolve_left (by decide)),
          fun q => (hJ.2.2.2.2.2.2.2.2.2.2.2.2.2.2.2.1) (q.resolve_left (by decide)),
          fun q => (hJ.2.2.2.2.2.2.2.2.2.2.2.2.2.2.2.2) (q.resolve_left (by decide))⟩
      refine StepsOk.cons (i := 4) rfl (fun L x G w1 K Q hn hp hJ hK => ?_) ?_
      · skip
        have hc := Blk.open2 ((hJ.2.2.2.2.1))
        have c0 := hc.1
        have c1 := hc.2.1
        have c2 := hc.2.2.1
        have c3 := hc.2.2.2
        clear hc
        simp only [putAll, Act.put, List.setIfInBounds_toArray, List.set_cons_zero, List.set_cons_succ]
        go_simp
        refine hK _ G _ (by kernel_rfl) ?_
        exact ⟨(hJ.1),
          (hJ.2.1),
          (hJ.2.2.1),
          (hJ.2.2.2.1),
          (hJ.2.2.2.2.1),
          (hJ.2.2.2.2.2.1),
          (hJ.2.2.2.2.2.2.1),
          fun q => (hJ.2.2.2.2.2.2.2.1) (q.resolve_left (by decide)),
          fun q => (hJ.2.2.2.2.2.2.2.2.1) (q.resolve_left (by decide)),
          fun q => (hJ.2.2.2.2.2.2.2.2.2.1) (q.resolve_left (by decide)),
          fun q => (hJ.2.2.2.2.2.2.2.2.2.2.1) (q.resolve_left (by decide)),
          fun _ => rfl,
          fun q => (hJ.2.2.2.2.2.2.2.2.2.2.2.2.1) (q.resolve_left (by decide)),
          fun q => (hJ.2.2.2.2.2.2.2.2.2.2.2.2.2.1) (q.resolve_left (by decide)),
          fun q => (hJ.2.2.2.2.2.2.2.2.2.2.2.2.2.2.1) (q.resolve_left (by decide)),
          fun q => (hJ.2.2.2.2.2.2.2.2.2.2.2.2.2.2.2.1) (q.resolve_left (by decide)),
          fun q => (hJ.2.2.2.2.2.2.2.2.2.2.2.2.2.2.2.2) (q.resolve_left (by decide))⟩
      refine StepsOk.cons (i := 5) rfl (fun L x G w1 K Q hn hp hJ hK => ?_) ?_
      · skip
        simp only [putAll, Act.put, List.setIfInBounds_toArray, List.set_cons_zero, List.set_cons_succ]
        go_simp
        refine hK _ G _ (by kernel_rfl) ?_
        exact ⟨(hJ.1),
          (hJ.2.1),
          (hJ.2.2.1),
          (hJ.2.2.2.1),
          (hJ.2.2.2.2.1),
          (hJ.2.2.2.2.2.1),
          (hJ.2.2.2.2.2.2.1),
          fun q => (hJ.2.2.2.2.2.2.2.1) (q.resolve_left (by decide)),
          fun q => (hJ.2.2.2.2.2.2.2.2.1) (q.resolve_left (by decide)),
          fun q => (hJ.2.2.2.2.2.2.2.2.2.1) (q.resolve_left (by decide)),
          fun q => (hJ.2.2.2.2.2.2.2.2.2.2.1) (q.resolve_left (by decide)),
          fun q => (hJ.2.2.2.2.2.2.2.2.2.2.2.1) (q.resolve_left (by decide)),
          fun _ => rfl,
          fun q => (hJ.2.2.2.2.2.2.2.2.2.2.2.2.2.1) (q.resolve_left (by decide)),
          fun q => (hJ.2.2.2.2.2.2.2.2.2.2.2.2.2.2.1) (q.resolve_left (by decide)),
          fun q => (hJ.2.2.2.2.2.2.2.2.2.2.2.2.2.2.2.1) (q.resolve_left (by decide)),
          fun q => (hJ.2.2.2.2.2.2.2.2.2.2.2.2.2.2.2.2) (q.resolve_left (by decide))⟩
      refine StepsOk.cons (i := 6) rfl (fun L x G w1 K Q hn hp hJ hK => ?_) ?_
      · skip
        have p5 : L 5 := hp ⟨5, .data⟩ (by simp) rfl
        have e5 := (hJ.2.2.2.2.2.2.2.2.2.2.2.2.1) p5
        have hc := Blk.open2 ((hJ.2.2.2.2.2.2.1))
        have c0 := hc.1
        have c1 := hc.2.1
        have c2 := hc.2.2.1
        have c3 := hc.2.2.2
        clear hc
        simp only [putAll, Act.put, List.setIfInBounds_toArray, List.set_cons_zero, List.set_cons_succ]
        go_simp
        refine hK _ G _ (by kernel_rfl) ?_
        exact ⟨(hJ.1),
          (hJ.2.1),
          (hJ.2.2.1),
          (hJ.2.2.2.1),
          (hJ.2.2.2.2.1),
          (hJ.2.2.2.2.2.1),
          (hJ.2.2.2.2.2.2.1),
          fun q => (hJ.2.2.2.2.2.2.2.1) (q.resolve_left (by decide)),
          fun q => (hJ.2.2.2.2.2.2.2.2.1) (q.resolve_left (by decide)),
          fun q => (hJ.2.2.2.2.2.2.2.2.2.1) (q.resolve_left (by decide)),
          fun q => (hJ.2.2.2.2.2.2.2.2.2.2.1) (q.resolve_left (by decide)),
          fun q => (hJ.2.2.2.2.2.2.2.2.2.2.2.1) (q.resolve_left (by decide)),
          fun _ => by first | exact rfl | exact e5,
          fun _ => rfl,
          fun q => (hJ.2.2.2.2.2.2.2.2.2.2.2.2.2.2.1) (q.resolve_left (by decide)),
          fun q => (hJ.2.2.2.2.2.2.2.2.2.2.2.2.2.2.2.1) (q.resolve_left (by decide)),
          fun q => (hJ.2.2.2.2.2.2.2.2.2.2.2.2.2.2.2.2) (q.resolve_left (by decide))⟩
      refine StepsOk.cons (i := 7) rfl (fun L x G w1 K Q hn hp hJ hK => ?_) ?_
      · skip
        have p4 : L 4 := hp ⟨4, .data⟩ (by simp) rfl
        have e4 := (hJ.2.2.2.2.2.2.2.2.2.2.2.1) p4
        have p6 : L 6 := hp ⟨6, .data⟩ (by simp) rfl
        have e6 := (hJ.2.2.2.2.2.2.2.2.2.2.2.2.2.1) p6
        simp only [putAll, Act.put, List.setIfInBounds_toArray, List.set_cons_zero, List.set_cons_succ]
        go_simp
        refine (member_c _ _ _ _ V2.out b1 b2).mono ?_
        rw [hy.out]
        rintro e w2 ⟨rfl, hb⟩
        have hz := hb.size
        try go_simp
        refine hK _ G _ (by kernel_rfl) ?_
        exact ⟨bt (hJ.1) hb,
          Nat.lt_of_lt_of_le (hJ.2.1) hb.size,
          Blk.keep ((hJ.2.2.1)) hb,
          Nat.lt_of_lt_of_le (hJ.2.2.2.1) hb.size,
          Blk.keep ((hJ.2.2.2.2.1)) hb,
          Nat.lt_of_lt_of_le (hJ.2.2.2.2.2.1) hb.size,
          Blk.keep ((hJ.2.2.2.2.2.2.1)) hb,
          fun q => (hJ.2.2.2.2.2.2.2.1) (q.resolve_left (by decide)),
          fun q => (hJ.2.2.2.2.2.2.2.2.1) (q.resolve_left (by decide)),
          fun q => (hJ.2.2.2.2.2.2.2.2.2.1) (q.resolve_left (by decide)),
          fun q => (hJ.2.2.2.2.2.2.2.2.2.2.1) (q.resolve_left (by decide)),
          fun _ => by first | exact rfl | exact e4,
          fun q => (hJ.2.2.2.2.2.2.2.2.2.2.2.2.1) (q.resolve_left (by decide)),
          fun _ => by first | exact rfl | exact e6,
          fun _ => rfl,
          fun q => (hJ.2.2.2.2.2.2.2.2.2.2.2.2.2.2.2.1) (q.resolve_left (by decide)),
          fun q => (hJ.2.2.2.2.2.2.2.2.2.2.2.2.2.2.2.2) (q.resolve_left (by decide))⟩
      refine StepsOk.cons (i := 8) rfl (fun L x G w1 K Q hn hp hJ hK => ?_) ?_
      · skip
        have p3 : L 3 := hp ⟨3, .data⟩ (by simp) rfl
        have e3 := (hJ.2.2.2.2.2.2.2.2.2.2.1) p3
        simp only [putAll, Act.put, List.setIfInBounds_toArray, List.set_cons_zero, List.set_cons_succ]
        go_simp
        refine hK _ G _ (by kernel_rfl) ?_
        exact ⟨(hJ.1),
          (hJ.2.1),
          (hJ.2.2.1),
          (hJ.2.2.2.1),
          (hJ.2.2.2.2.1),
          (hJ.2.2.2.2.2.1),
          (hJ.2.2.2.2.2.2.1),
          fun q => (hJ.2.2.2.2.2.2.2.1) (q.resolve_left (by decide)),
          fun q => (hJ.2.2.2.2.2.2.2.2.1) (q.resolve_left (by decide)),
          fun q => (hJ.2.2.2.2.2.2.2.2.2.1) (q.resolve_left (by decide)),
          fun _ => by first | exact rfl | exact e3,
          fun q => (hJ.2.2.2.2.2.2.2.2.2.2.2.1) (q.resolve_left (by decide)),
          fun q => (hJ.2.2.2.2.2.2.2.2.2.2.2.2.1) (q.resolve_left (by decide)),
          fun q => (hJ.2.2.2.2.2.2.2.2.2.2.2.2.2.1) (q.resolve_left (by decide)),
          fun q => (hJ.2.2.2.2.2.2.2.2.2.2.2.2.2.2.1) (q.resolve_left (by decide)),
          fun _ => rfl,
          fun q => (hJ.2.2.2.2.2.2.2.2.2.2.2.2.2.2.2.2) (q.resolve_left (by decide))⟩
      refine StepsOk.cons (i := 9) rfl (fun L x G w1 K Q hn hp hJ hK => ?_) ?_
      · skip
        have p7 : L 7 := hp ⟨7, .data⟩ (by simp) rfl
        have e7 := (hJ.2.2.2.2.2.2.2.2.2.2.2.2.2.2.1) p7
        simp only [putAll, Act.put, List.setIfInBounds_toArray, List.set_cons_zero, List.set_cons_succ]
        go_simp
        refine hK _ G _ (by kernel_rfl) ?_
        exact ⟨(hJ.1),
          (hJ.2.1),
          (hJ.2.2.1),
          (hJ.2.2.2.1),
          (hJ.2.2.2.2.1),
          (hJ.2.2.2.2.2.1),
          (hJ.2.2.2.2.2.2.1),
          fun q => (hJ.2.2.2.2.2.2.2.1) (q.resolve_left (by decide)),
          fun q => (hJ.2.2.2.2.2.2.2.2.1) (q.resolve_left (by decide)),
          fun q => (hJ.2.2.2.2.2.2.2.2.2.1) (q.resolve_left (by decide)),
          fun q => (hJ.2.2.2.2.2.2.2.2.2.2.1) (q.resolve_left (by decide)),
          fun q => (hJ.2.2.2.2.2.2.2.2.2.2.2.1) (q.resolve_left (by decide)),
          fun q => (hJ.2.2.2.2.2.2.2.2.2.2.2.2.1) (q.resolve_left (by decide)),
          fun q => (hJ.2.2.2.2.2.2.2.2.2.2.2.2.2.1) (q.resolve_left (by decide)),
          fun _ => by first | exact rfl | exact e7,
          fun q => (hJ.2.2.2.2.2.2.2.2.2.2.2.2.2.2.2.1) (q.resolve_left (by decide)),
          fun _ => rfl⟩
      exact StepsOk.nil
    case fin =>
      intro L x G w4 hall hJ
      replace X := (hJ.2.2.1)
      replace Y := (hJ.2.2.2.2.1)
      replace NN := (hJ.2.2.2.2.2.2.1)
      have u0 := hJ.2.2.2.2.2.2.2.1 (hall 0 (by decide))
      have u1 := hJ.2.2.2.2.2.2.2.2.1 (hall 1 (by decide))
      have u2 := hJ.2.2.2.2.2.2.2.2.2.1 (hall 2 (by decide))
      have u3 := hJ.2.2.2.2.2.2.2.2.2.2.1 (hall 3 (by decide))
      have u4 := hJ.2.2.2.2.2.2.2.2.2.2.2.1 (hall 4 (by decide))
      have u5 := hJ.2.2.2.2.2.2.2.2.2.2.2.2.1 (hall 5 (by decide))
      have u6 := hJ.2.2.2.2.2.2.2.2.2.2.2.2.2.1 (hall 6 (by decide))
      have u7 := hJ.2.2.2.2.2.2.2.2.2.2.2.2.2.2.1 (hall 7 (by decide))
      have u8 := hJ.2.2.2.2.2.2.2.2.2.2.2.2.2.2.2.1 (hall 8 (by decide))
      have u9 := hJ.2.2.2.2.2.2.2.2.2.2.2.2.2.2.2.2 (hall 9 (by decide))
      replace hB := hJ.1
      simp only [putAll, Act.put, List.setIfInBounds_toArray, List.set_cons_zero, List.set_cons_succ]
      simp only [u0, u1, u2, u3, u4, u5, u6, u7, u8, u9]
      clear hall hJ u0 u1 u2 u3 u4 u5 u6 u7 u8 u9
      obtain ⟨c00, c01, c02, c03⟩ := X.open2
      go_wp2_with fail
      refine (has_c _ _ _ _).mono ?_
      rw [g1.out]
      rintro e w5 ⟨rfl, hb⟩
      clear c00 c01 c02 c03
      replace X := X.keep hb
      replace Y := Y.keep hb
      replace NN := NN.keep hb
      replace hB := bt hB hb
      clear hb
      obtain ⟨c00, c01, c02, c03⟩ := Y.open2
      go_wp2_with fail
      refine (has_c _ _ _ _).mono ?_
      rw [g2.out]
      rintro e w6 ⟨rfl, hb⟩
      clear c00 c01 c02 c03
      replace X := X.keep hb
      replace Y := Y.keep hb
      replace NN := NN.keep hb
      replace hB := bt hB hb
      clear hb
      obtain ⟨c00, c01, c02, c03⟩ := X.open2
      obtain ⟨c10, c11, c12, c13⟩ := Y.open2
      go_wp2_with fail
      refine (add_ci _ _ _ _ _).mono ?_
      rw [c0.out]
      rintro e w7 ⟨rfl, hb⟩
      clear c00 c01 c02 c03 c10 c11 c12 c13
      replace X := X.keep hb
      replace Y := Y.keep hb
      replace NN := NN.keep hb
      replace hB := bt hB hb
      clear hb
      have hz7 := hB.size
      have l7X := X.lt
      have l7Y := Y.lt
      have l7NN := NN.lt
      replace X := X.alloc (.cells #[.int .i64 (Iv.add l h l' h').lo, .int .i64 (Iv.add l h l' h').hi] 23)
      replace Y := Y.alloc (.cells #[.int .i64 (Iv.add l h l' h').lo, .int .i64 (Iv.add l h l' h').hi] 23)
      replace NN := NN.alloc (.cells #[.int .i64 (Iv.add l h l' h').lo, .int .i64 (Iv.add l h l' h').hi] 23)
      replace hB := bal hB (.cells #[.int .i64 (Iv.add l h l' h').lo, .int .i64 (Iv.add l h l' h').hi] 23)
      have A := Blk.new w7 23 #[.int .i64 (Iv.add l h l' h').lo, .int .i64 (Iv.add l h l' h').hi]
      obtain ⟨c00, c01, c02, c03⟩ := X.open2
      obtain ⟨c10, c11, c12, c13⟩ := Y.open2
      obtain ⟨c20, c21, c22, c23⟩ := A.open2
      go_wp2_with fail
      refine (sub_ci _ _ _ _ _).mono ?_
      rw [c1.out]
      rintro e w8 ⟨rfl, hb⟩
      clear c00 c01 c02 c03 c10 c11 c12 c13 c20 c21 c22 c23
      replace X := X.keep hb
      replace Y := Y.keep hb
      replace NN := NN.keep hb
      replace A := A.keep hb
      replace hB := bt hB hb
      clear hb
      have hz8 := hB.size
      have l8X := X.lt
      have l8Y := Y.lt
      have l8NN := NN.lt
      have l8A := A.lt
      replace X := X.alloc (.cells #[.int .i64 (Iv.sub l h l' h').lo, .int .i64 (Iv.sub l h l' h').hi] 23)
      replace Y := Y.alloc (.cells #[.int .i64 (Iv.sub l h l' h').lo, .int .i64 (Iv.sub l h l' h').hi] 23)
      replace NN := NN.alloc (.cells #[.int .i64 (Iv.sub l h l' h').lo, .int .i64 (Iv.sub l h l' h').hi] 23)
      replace A := A.alloc (.cells #[.int .i64 (Iv.sub l h l' h').lo, .int .i64 (Iv.sub l h l' h').hi] 23)
      replace hB := bal hB (.cells #[.int .i64 (Iv.sub l h l' h').lo, .int .i64 (Iv.sub l h l' h').hi] 23)
      have B := Blk.new w8 23 #[.int .i64 (Iv.sub l h l' h').lo, .int .i64 (Iv.sub l h l' h').hi]
      obtain ⟨c00, c01, c02, c03⟩ := X.open2
      obtain ⟨c10, c11, c12, c13⟩ := Y.open2
      obtain ⟨c20, c21, c22, c23⟩ := A.open2
      obtain ⟨c30, c31, c32, c33⟩ := B.open2
      go_wp2_with fail
      refine (mul_ci _ _ _ _ _).mono ?_
      rw [hm2.out]
      rintro e w9 ⟨rfl, hb⟩
      clear c00 c01 c02 c03 c10 c11 c12 c13 c20 c21 c22 c23 c30 c31 c32 c33
      replace X := X.keep hb
      replace Y := Y.keep hb
      replace NN := NN.keep hb
      replace A := A.keep hb
      replace B := B.keep hb
      replace hB := bt hB hb
      clear hb
      have hz9 := hB.size
      have l9X := X.lt
      have l9Y := Y.lt
      have l9NN := NN.lt
      have l9A := A.lt
      have l9B := B.lt
      replace X := X.alloc (.cells #[.int .i64 (Iv.mul l h l' h').lo, .int .i64 (Iv.mul l h l' h').hi] 23)
      replace Y := Y.alloc (.cells #[.int .i64 (Iv.mul l h l' h').lo, .int .i64 (Iv.mul l h l' h').hi] 23)
      replace NN := NN.alloc (.cells #[.int .i64 (Iv.mul l h l' h').lo, .int .i64 (Iv.mul l h l' h').hi] 23)
      replace A := A.alloc (.cells #[.int .i64 (Iv.mul l h l' h').lo, .int .i64 (Iv.mul l h l' h').hi] 23)
      replace B := B.alloc (.cells #[.int .i64 (Iv.mul l h l' h').lo, .int .i64 (Iv.mul l h l' h').hi] 23)
      replace hB := bal hB (.cells #[.int .i64 (Iv.mul l h l' h').lo, .int .i64 (Iv.mul l h l' h').hi] 23)
      have C := Blk.new w9 23 #[.int .i64 (Iv.mul l h l' h').lo, .int .i64 (Iv.mul l h l' h').hi]
      obtain ⟨c00, c01, c02, c03⟩ := A.open2
      obtain ⟨c10, c11, c12, c13⟩ := B.open2
      obtain ⟨c20, c21, c22, c23⟩ := C.open2
      go_wp2_with fail
      refine (has_c _ _ _ _).mono ?_
      rw [N0.out]
      rintro e w10 ⟨rfl, hb⟩
      clear c00 c01 c02 c03 c10 c11 c12 c13 c20 c21 c22 c23
      replace X := X.keep hb
      replace Y := Y.keep hb
      replace NN := NN.keep hb
      replace A := A.keep hb
      replace B := B.keep hb
      replace C := C.keep hb
      replace hB := bt hB hb
      clear hb
      obtain ⟨c00, c01, c02, c03⟩ := A.open2
      obtain ⟨c10, c11, c12, c13⟩ := B.open2
      obtain ⟨c20, c21, c22, c23⟩ := C.open2
      go_wp2_with fail
      refine (has_c _ _ _ _).mono ?_
      rw [N1.out]
      rintro e w11 ⟨rfl, hb⟩
      clear c00 c01 c02 c03 c10 c11 c12 c13 c20 c21 c22 c23
      replace X := X.keep hb
      replace Y := Y.keep hb
      replace NN := NN.keep hb
      replace A := A.keep hb
      replace B := B.keep hb
      replace C := C.keep hb
      replace hB := bt hB hb
      clear hb
      obtain ⟨c00, c01, c02, c03⟩ := C.open2
      go_wp2_with fail
      refine (mul_c _ _ _ x1 x2 y1 y2).mono ?_
      rintro e w12 ⟨rfl, hb⟩
      clear c00 c01 c02 c03
      replace X := X.keep hb
      replace Y := Y.keep hb
      replace NN := NN.keep hb
      replace A := A.keep hb
      replace B := B.keep hb
      replace C := C.keep hb
      replace hB := bt hB hb
      clear hb
      obtain ⟨c00, c01, c02, c03⟩ := C.open2
      go_wp2_with fail
      refine (int_c _ _ _ _ mw).mono ?_
      rintro e w13 ⟨rfl, hb⟩
      clear c00 c01 c02 c03
      replace X := X.keep hb
      replace Y := Y.keep hb
      replace NN := NN.keep hb
      replace A := A.keep hb
      replace B := B.keep hb
      replace C := C.keep hb
      replace hB := bt hB hb
      clear hb
      go_wp2_with fail
      go_returns
      exact ⟨rfl, hB⟩
  · have e1 := Lib.hid (Iv.vb_yes v)
    have e2 := Lib.hid (Iv.vb_yes v2)
    have V1 := Lib.hid v
    have V2 := Lib.hid v2
    obtain ⟨mu, hx⟩ : ∃ u, Hid (Iv.mb l h n0 = u) := ⟨_, Lib.hid rfl⟩
    obtain ⟨mv, hy⟩ : ∃ u, Hid (Iv.mb l' h' n1 = u) := ⟨_, Lib.hid rfl⟩
    have hu := Iv.mb_in (n := n0) v
    have hv := Iv.mb_in (n := n1) v2
    rw [hx.out] at hu
    rw [hy.out] at hv
    have g1 := Lib.hid (Iv.hs_yes v hu.1 hu.2)
    have g2 := Lib.hid (Iv.hs_yes v2 hv.1 hv.2)
    have x1 : -9223372036854775808 ≤ mu := by unfold Iv.Vd at v; omega
    have x2 : mu ≤ 9223372036854775807 := by unfold Iv.Vd at v; omega
    have y1 : -9223372036854775808 ≤ mv := by unfold Iv.Vd at v2; omega
    have y2 : mv ≤ 9223372036854775807 := by unfold Iv.Vd at v2; omega
    have mw := Wi.wd_self (mul_W x1 x2 y1 y2)
    have N0 := Iv.add_has hu hv c0
    have ew0 := IntWalk.i64_in (mu + mv) ⟨N0.2.1, N0.2.2⟩
    replace N0 := Lib.hid N0.1
    replace c0 := Lib.hid c0
    obtain ⟨m1, hm1⟩ : ∃ m, Hid ((Iv.sub l h l' h').er = m) := ⟨_, Lib.hid rfl⟩
    rw [hm1.out] at c1
    have k1_ : (m1 == 0) = false := by simpa using c1
    have kk1_ : (m1 != 0) = true := by simpa using c1
    clear c1
    have N2 := Iv.mul_has hu hv c2
    have k1 := Lib.hid (Wi.ib_yes N2.2)
    have k2 := Lib.hid (Wi.iv_yes N2.2)
    replace N2 := Lib.hid N2.1
    replace c2 := Lib.hid c2
    clear v v2 hu hv
    go_enter Try.func9, Try.ntmps9
    have X := Blk.new w 23 #[.int .i64 (l), .int .i64 (h)]
    have hB := ba w (.cells #[.int .i64 (l), .int .i64 (h)] 23)
    have Y := Blk.new1 w (.cells #[.int .i64 (l), .int .i64 (h)] 23) 23 #[.int .i64 (l'), .int .i64 (h')]
    replace X := X.alloc (.cells #[.int .i64 (l'), .int .i64 (h')] 23)
    replace hB := bal hB (.cells #[.int .i64 (l'), .int .i64 (h')] 23)
    have NN := Blk.new2 w (.cells #[.int .i64 (l), .int .i64 (h)] 23) (.cells #[.int .i64 (l'), .int .i64 (h')] 23) 45 #[.int .u64 n0, .int .u64 n1]
    replace X := X.alloc (.cells #[.int .u64 n0, .int .u64 n1] 45)
    replace Y := Y.alloc (.cells #[.int .u64 n0, .int .u64 n1] 45)
    replace hB := bal hB (.cells #[.int .u64 n0, .int .u64 n1] 45)
    go_wp2_with fail
    refine (awake_ci _).mono ?_
    rintro e w1 ⟨rfl, hb⟩
    replace X := X.keep hb
    replace Y := Y.keep hb
    replace NN := NN.keep hb
    replace hB := bt hB hb
    clear hb
    obtain ⟨c00, c01, c02, c03⟩ := X.open2
    go_wp2_with fail
    refine (valid_c _ _ _).mono ?_
    rw [e1.out]
    rintro e w2 ⟨rfl, hb⟩
    clear c00 c01 c02 c03
    replace X := X.keep hb
    replace Y := Y.keep hb
    replace NN := NN.keep hb
    replace hB := bt hB hb
    clear hb
    obtain ⟨c00, c01, c02, c03⟩ := Y.open2
    go_wp2_with fail
    refine (valid_c _ _ _).mono ?_
    rw [e2.out]
    rintro e w3 ⟨rfl, hb⟩
    clear c00 c01 c02 c03
    replace X := X.keep hb
    replace Y := Y.keep hb
    replace NN := NN.keep hb
    replace hB := bt hB hb
    clear hb
    go_wp2_with fail
    refine wp_region_inv (fun L x G wx => Below w.heap.size w wx
          ∧ w.heap.size < wx.heap.size
          ∧ Blk wx (w.heap.size) 23 #[.int .i64 (l), .int .i64 (h)]
          ∧ w.heap.size + 1 < wx.heap.size
          ∧ Blk wx (w.heap.size + 1) 23 #[.int .i64 (l'), .int .i64 (h')]
          ∧ w.heap.size + 1 + 1 < wx.heap.size
          ∧ Blk wx (w.heap.size + 1 + 1) 45 #[.int .u64 n0, .int .u64 n1]
          ∧ (L 0 → x 37 = .agg #[.int .i64 (l), .int .i64 (h)])
          ∧ (L 1 → x 38 = .pointer (some ⟨w.heap.size + 1 + 1, 0, none⟩))
          ∧ (L 2 → x 39 = .int .u64 n0)
          ∧ (L 3 → x 40 = .int .i64 (mu))
          ∧ (L 4 → x 41 = .agg #[.int .i64 (l'), .int .i64 (h')])
          ∧ (L 5 → x 42 = .pointer (some ⟨w.heap.size + 1 + 1, 1, none⟩))
          ∧ (L 6 → x 43 = .int .u64 n1)
          ∧ (L 7 → x 44 = .int .i64 (mv))
          ∧ (L 8 → x 9 = .int .i64 (mu))
          ∧ (L 9 → x 10 = .int .i64 (mv))) [37, 38, 39, 40, 41, 42, 43, 44, 9, 10] 10 (by kernel_rfl) (by kernel_rfl) (by kernel_rfl) ?h0 ?st ?fin
    case h0 =>
      exact ⟨bdr hB, Blk.lt X.drew, X.drew, Blk.lt Y.drew, Y.drew, Blk.lt NN.drew, NN.drew, fun q => q.elim, fun q => q.elim, fun q => q.elim, fun q => q.elim, fun q => q.elim, fun q => q.elim, fun q => q.elim, fun q => q.elim, fun q => q.elim, fun q => q.elim⟩
    case st =>
      refine StepsOk.cons (i := 0) rfl (fun L x G w1 K Q hn hp hJ hK => ?_) ?_
      · skip
        have hc := Blk.open2 ((hJ.2.2.1))
        have c0 := hc.1
        have c1 := hc.2.1
        have c2 := hc.2.2.1
        have c3 := hc.2.2.2
        clear hc
        simp only [putAll, Act.put, List.setIfInBounds_toArray, List.set_cons_zero, List.set_cons_succ]
        go_simp
        refine hK _ G _ (by kernel_rfl) ?_
        exact ⟨(hJ.1),
          (hJ.2.1),
          (hJ.2.2.1),
          (hJ.2.2.2.1),
          (hJ.2.2.2.2.1),
          (hJ.2.2.2.2.2.1),
          (hJ.2.2.2.2.2.2.1),
          fun _ => rfl,
          fun q => (hJ.2.2.2.2.2.2.2.2.1) (q.resolve_left (by decide)),
          fun q => (hJ.2.2.2.2.2.2.2.2.2.1) (q.resolve_left (by decide)),
          fun q => (hJ.2.2.2.2.2.2.2.2.2.2.1) (q.resolve_left (by decide)),
          fun q => (hJ.2.2.2.2.2.2.2.2.2.2.2.1) (q.resolve_left (by decide)),
          fun q => (hJ.2.2.2.2.2.2.2.2.2.2.2.2.1) (q.resolve_left (by decide)),
          fun q => (hJ.2.2.2.2.2.2.2.2.2.2.2.2.2.1) (q.resolve_left (by decide)),
          fun q => (hJ.2.2.2.2.2.2.2.2.2.2.2.2.2.2.1) (q.resolve_left (by decide)),
          fun q => (hJ.2.2.2.2.2.2.2.2.2.2.2.2.2.2.2.1) (q.resolve_left (by decide)),
          fun q => (hJ.2.2.2.2.2.2.2.2.2.2.2.2.2.2.2.2) (q.resolve_left (by decide))⟩
      refine StepsOk.cons (i := 1) rfl (fun L x G w1 K Q hn hp hJ hK => ?_) ?_
      · skip
        simp only [putAll, Act.put, List.setIfInBounds_toArray, List.set_cons_zero, List.set_cons_succ]
        go_simp
        refine hK _ G _ (by kernel_rfl) ?_
        exact ⟨(hJ.1),
          (hJ.2.1),
          (hJ.2.2.1),
          (hJ.2.2.2.1),
          (hJ.2.2.2.2.1),
          (hJ.2.2.2.2.2.1),
          (hJ.2.2.2.2.2.2.1),
          fun q => (hJ.2.2.2.2.2.2.2.1) (q.resolve_left (by decide)),
          fun _ => rfl,
          fun q => (hJ.2.2.2.2.2.2.2.2.2.1) (q.resolve_left (by decide)),
          fun q => (hJ.2.2.2.2.2.2.2.2.2.2.1) (q.resolve_left (by decide)),
          fun q => (hJ.2.2.2.2.2.2.2.2.2.2.2.1) (q.resolve_left (by decide)),
          fun q => (hJ.2.2.2.2.2.2.2.2.2.2.2.2.1) (q.resolve_left (by decide)),
          fun q => (hJ.2.2.2.2.2.2.2.2.2.2.2.2.2.1) (q.resolve_left (by decide)),
          fun q => (hJ.2.2.2.2.2.2.2.2.2.2.2.2.2.2.1) (q.resolve_left (by decide)),
          fun q => (hJ.2.2.2.2.2.2.2.2.2.2.2.2.2.2.2.1) (q.resolve_left (by decide)),
          fun q => (hJ.2.2.2.2.2.2.2.2.2.2.2.2.2.2.2.2) (q.resolve_left (by decide))⟩
      refine StepsOk.cons (i := 2) rfl (fun L x G w1 K Q hn hp hJ hK => ?_) ?_
      · skip
        have p1 : L 1 := hp ⟨1, .data⟩ (by simp) rfl
        have e1 := (hJ.2.2.2.2.2.2.2.2.1) p1
        have hc := Blk.open2 ((hJ.2.2.2.2.2.2.1))
        have c0 := hc.1
        have c1 := hc.2.1
        have c2 := hc.2.2.1
        have c3 := hc.2.2.2
        clear hc
        simp only [putAll, Act.put, List.setIfInBounds_toArray, List.set_cons_zero, List.set_cons_succ]
        go_simp
        refine hK _ G _ (by kernel_rfl) ?_
        exact ⟨(hJ.1),
          (hJ.2.1),
          (hJ.2.2.1),
          (hJ.2.2.2.1),
          (hJ.2.2.2.2.1),
          (hJ.2.2.2.2.2.1),
          (hJ.2.2.2.2.2.2.1),
          fun q => (hJ.2.2.2.2.2.2.2.1) (q.resolve_left (by decide)),
          fun _ => by first | exact rfl | exact e1,
          fun _ => rfl,
          fun q => (hJ.2.2.2.2.2.2.2.2.2.2.1) (q.resolve_left (by decide)),
          fun q => (hJ.2.2.2.2.2.2.2.2.2.2.2.1) (q.resolve_left (by decide)),
          fun q => (hJ.2.2.2.2.2.2.2.2.2.2.2.2.1) (q.resolve_left (by decide)),
          fun q => (hJ.2.2.2.2.2.2.2.2.2.2.2.2.2.1) (q.resolve_left (by decide)),
          fun q => (hJ.2.2.2.2.2.2.2.2.2.2.2.2.2.2.1) (q.resolve_left (by decide)),
          fun q => (hJ.2.2.2.2.2.2.2.2.2.2.2.2.2.2.2.1) (q.resolve_left (by decide)),
          fun q => (hJ.2.2.2.2.2.2.2.2.2.2.2.2.2.2.2.2) (q.resolve_left (by decide))⟩
      refine StepsOk.cons (i := 3) rfl (fun L x G w1 K Q hn hp hJ hK => ?_) ?_
      · skip
        have p0 : L 0 := hp ⟨0, .data⟩ (by simp) rfl
        have e0 := (hJ.2.2.2.2.2.2.2.1) p0
        have p2 : L 2 := hp ⟨2, .data⟩ (by simp) rfl
        have e2 := (hJ.2.2.2.2.2.2.2.2.2.1) p2
        simp only [putAll, Act.put, List.setIfInBounds_toArray, List.set_cons_zero, List.set_cons_succ]
        go_simp
        refine (member_c _ _ _ _ V1.out a1 a2).mono ?_
        rw [hx.out]
        rintro e w2 ⟨rfl, hb⟩
        have hz := hb.size
        try go_simp
        refine hK _ G _ (by kernel_rfl) ?_
        exact ⟨bt (hJ.1) hb,
          Nat.lt_of_lt_of_le (hJ.2.1) hb.size,
          Blk.keep ((hJ.2.2.1)) hb,
          Nat.lt_of_lt_of_le (hJ.2.2.2.1) hb.size,
          Blk.keep ((hJ.2.2.2.2.1)) hb,
          Nat.lt_of_lt_of_le (hJ.2.2.2.2.2.1) hb.size,
          Blk.keep ((hJ.2.2.2.2.2.2.1)) hb,
          fun _ => by first | exact rfl | exact e0,
          fun q => (hJ.2.2.2.2.2.2.2.2.1) (q.resolve_left (by decide)),
          fun _ => by first | exact rfl | exact e2,
          fun _ => rfl,
          fun q => (hJ.2.2.2.2.2.2.2.2.2.2.2.1) (q.resolve_left (by decide)),
          fun q => (hJ.2.2.2.2.2.2.2.2.2.2.2.2.1) (q.resolve_left (by decide)),
          fun q => (hJ.2.2.2.2.2.2.2.2.2.2.2.2.2.1) (q.resolve_left (by decide)),
          fun q => (hJ.2.2.2.2.2.2.2.2.2.2.2.2.2.2.1) (q.resolve_left (by decide)),
          fun q => (hJ.2.2.2.2.2.2.2.2.2.2.2.2.2.2.2.1) (q.resolve_left (by decide)),
          fun q => (hJ.2.2.2.2.2.2.2.2.2.2.2.2.2.2.2.2) (q.resolve_left (by decide))⟩
      refine StepsOk.cons (i := 4) rfl (fun L x G w1 K Q hn hp hJ hK => ?_) ?_
      · skip
        have hc := Blk.open2 ((hJ.2.2.2.2.1))
        have c0 := hc.1
        have c1 := hc.2.1
        have c2 := hc.2.2.1
        have c3 := hc.2.2.2
        clear hc
        simp only [putAll, Act.put, List.setIfInBounds_toArray, List.set_cons_zero, List.set_cons_succ]
        go_simp
        refine hK _ G _ (by kernel_rfl) ?_
        exact ⟨(hJ.1),
          (hJ.2.1),
          (hJ.2.2.1),
          (hJ.2.2.2.1),
          (hJ.2.2.2.2.1),
          (hJ.2.2.2.2.2.1),
          (hJ.2.2.2.2.2.2.1),
          fun q => (hJ.2.2.2.2.2.2.2.1) (q.resolve_left (by decide)),
          fun q => (hJ.2.2.2.2.2.2.2.2.1) (q.resolve_left (by decide)),
          fun q => (hJ.2.2.2.2.2.2.2.2.2.1) (q.resolve_left (by decide)),
          fun q => (hJ.2.2.2.2.2.2.2.2.2.2.1) (q.resolve_left (by decide)),
          fun _ => rfl,
          fun q => (hJ.2.2.2.2.2.2.2.2.2.2.2.2.1) (q.resolve_left (by decide)),
          fun q => (hJ.2.2.2.2.2.2.2.2.2.2.2.2.2.1) (q.resolve_left (by decide)),
          fun q => (hJ.2.2.2.2.2.2.2.2.2.2.2.2.2.2.1) (q.resolve_left (by decide)),
          fun q => (hJ.2.2.2.2.2.2.2.2.2.2.2.2.2.2.2.1) (q.resolve_left (by decide)),
          fun q => (hJ.2.2.2.2.2.2.2.2.2.2.2.2.2.2.2.2) (q.resolve_left (by decide))⟩
      refine StepsOk.cons (i := 5) rfl (fun L x G w1 K Q hn hp hJ hK => ?_) ?_
      · skip
        simp only [putAll, Act.put, List.setIfInBounds_toArray, List.set_cons_zero, List.set_cons_succ]
        go_simp
        refine hK _ G _ (by kernel_rfl) ?_
        exact ⟨(hJ.1),
          (hJ.2.1),
          (hJ.2.2.1),
          (hJ.2.2.2.1),
          (hJ.2.2.2.2.1),
          (hJ.2.2.2.2.2.1),
          (hJ.2.2.2.2.2.2.1),
          fun q => (hJ.2.2.2.2.2.2.2.1) (q.resolve_left (by decide)),
          fun q => (hJ.2.2.2.2.2.2.2.2.1) (q.resolve_left (by decide)),
          fun q => (hJ.2.2.2.2.2.2.2.2.2.1) (q.resolve_left (by decide)),
          fun q => (hJ.2.2.2.2.2.2.2.2.2.2.1) (q.resolve_left (by decide)),
          fun q => (hJ.2.2.2.2.2.2.2.2.2.2.2.1) (q.resolve_left (by decide)),
          fun _ => rfl,
          fun q => (hJ.2.2.2.2.2.2.2.2.2.2.2.2.2.1) (q.resolve_left (by decide)),
          fun q => (hJ.2.2.2.2.2.2.2.2.2.2.2.2.2.2.1) (q.resolve_left (by decide)),
          fun q => (hJ.2.2.2.2.2.2.2.2.2.2.2.2.2.2.2.1) (q.resolve_left (by decide)),
          fun q => (hJ.2.2.2.2.2.2.2.2.2.2.2.2.2.2.2.2) (q.resolve_left (by decide))⟩
      refine StepsOk.cons (i := 6) rfl (fun L x G w1 K Q hn hp hJ hK => ?_) ?_
      · skip
        have p5 : L 5 := hp ⟨5, .data⟩ (by simp) rfl
        have e5 := (hJ.2.2.2.2.2.2.2.2.2.2.2.2.1) p5
        have hc := Blk.open2 ((hJ.2.2.2.2.2.2.1))
        have c0 := hc.1
        have c1 := hc.2.1
        have c2 := hc.2.2.1
        have c3 := hc.2.2.2
        clear hc
        simp only [putAll, Act.put, List.setIfInBounds_toArray, List.set_cons_zero, List.set_cons_succ]
        go_simp
        refine hK _ G _ (by kernel_rfl) ?_
        exact ⟨(hJ.1),
          (hJ.2.1),
          (hJ.2.2.1),
          (hJ.2.2.2.1),
          (hJ.2.2.2.2.1),
          (hJ.2.2.2.2.2.1),
          (hJ.2.2.2.2.2.2.1),
          fun q => (hJ.2.2.2.2.2.2.2.1) (q.resolve_left (by decide)),
          fun q => (hJ.2.2.2.2.2.2.2.2.1) (q.resolve_left (by decide)),
          fun q => (hJ.2.2.2.2.2.2.2.2.2.1) (q.resolve_left (by decide)),
          fun q => (hJ.2.2.2.2.2.2.2.2.2.2.1) (q.resolve_left (by decide)),
          fun q => (hJ.2.2.2.2.2.2.2.2.2.2.2.1) (q.resolve_left (by decide)),
          fun _ => by first | exact rfl | exact e5,
          fun _ => rfl,
          fun q => (hJ.2.2.2.2.2.2.2.2.2.2.2.2.2.2.1) (q.resolve_left (by decide)),
          fun q => (hJ.2.2.2.2.2.2.2.2.2.2.2.2.2.2.2.1) (q.resolve_left (by decide)),
          fun q => (hJ.2.2.2.2.2.2.2.2.2.2.2.2.2.2.2.2) (q.resolve_left (by decide))⟩
      refine StepsOk.cons (i := 7) rfl (fun L x G w1 K Q hn hp hJ hK => ?_) ?_
      · skip
        have p4 : L 4 := hp ⟨4, .data⟩ (by simp) rfl
        have e4 := (hJ.2.2.2.2.2.2.2.2.2.2.2.1) p4
        have p6 : L 6 := hp ⟨6, .data⟩ (by simp) rfl
        have e6 := (hJ.2.2.2.2.2.2.2.2.2.2.2.2.2.1) p6
        simp only [putAll, Act.put, List.setIfInBounds_toArray, List.set_cons_zero, List.set_cons_succ]
        go_simp
        refine (member_c _ _ _ _ V2.out b1 b2).mono ?_
        rw [hy.out]
        rintro e w2 ⟨rfl, hb⟩
        have hz := hb.size
        try go_simp
        refine hK _ G _ (by kernel_rfl) ?_
        exact ⟨bt (hJ.1) hb,
          Nat.lt_of_lt_of_le (hJ.2.1) hb.size,
          Blk.keep ((hJ.2.2.1)) hb,
          Nat.lt_of_lt_of_le (hJ.2.2.2.1) hb.size,
          Blk.keep ((hJ.2.2.2.2.1)) hb,
          Nat.lt_of_lt_of_le (hJ.2.2.2.2.2.1) hb.size,
          Blk.keep ((hJ.2.2.2.2.2.2.1)) hb,
          fun q => (hJ.2.2.2.2.2.2.2.1) (q.resolve_left (by decide)),
          fun q => (hJ.2.2.2.2.2.2.2.2.1) (q.resolve_left (by decide)),
          fun q => (hJ.2.2.2.2.2.2.2.2.2.1) (q.resolve_left (by decide)),
          fun q => (hJ.2.2.2.2.2.2.2.2.2.2.1) (q.resolve_left (by decide)),
          fun _ => by first | exact rfl | exact e4,
          fun q => (hJ.2.2.2.2.2.2.2.2.2.2.2.2.1) (q.resolve_left (by decide)),
          fun _ => by first | exact rfl | exact e6,
          fun _ => rfl,
          fun q => (hJ.2.2.2.2.2.2.2.2.2.2.2.2.2.2.2.1) (q.resolve_left (by decide)),
          fun q => (hJ.2.2.2.2.2.2.2.2.2.2.2.2.2.2.2.2) (q.resolve_left (by decide))⟩
      refine StepsOk.cons (i := 8) rfl (fun L x G w1 K Q hn hp hJ hK => ?_) ?_
      · skip
        have p3 : L 3 := hp ⟨3, .data⟩ (by simp) rfl
        have e3 := (hJ.2.2.2.2.2.2.2.2.2.2.1) p3
        simp only [putAll, Act.put, List.setIfInBounds_toArray, List.set_cons_zero, List.set_cons_succ]
        go_simp
        refine hK _ G _ (by kernel_rfl) ?_
        exact ⟨(hJ.1),
          (hJ.2.1),
          (hJ.2.2.1),
          (hJ.2.2.2.1),
          (hJ.2.2.2.2.1),
          (hJ.2.2.2.2.2.1),
          (hJ.2.2.2.2.2.2.1),
          fun q => (hJ.2.2.2.2.2.2.2.1) (q.resolve_left (by decide)),
          fun q => (hJ.2.2.2.2.2.2.2.2.1) (q.resolve_left (by decide)),
          fun q => (hJ.2.2.2.2.2.2.2.2.2.1) (q.resolve_left (by decide)),
          fun _ => by first | exact rfl | exact e3,
          fun q => (hJ.2.2.2.2.2.2.2.2.2.2.2.1) (q.resolve_left (by decide)),
          fun q => (hJ.2.2.2.2.2.2.2.2.2.2.2.2.1) (q.resolve_left (by decide)),
          fun q => (hJ.2.2.2.2.2.2.2.2.2.2.2.2.2.1) (q.resolve_left (by decide)),
          fun q => (hJ.2.2.2.2.2.2.2.2.2.2.2.2.2.2.1) (q.resolve_left (by decide)),
          fun _ => rfl,
          fun q => (hJ.2.2.2.2.2.2.2.2.2.2.2.2.2.2.2.2) (q.resolve_left (by decide))⟩
      refine StepsOk.cons (i := 9) rfl (fun L x G w1 K Q hn hp hJ hK => ?_) ?_
      · skip
        have p7 : L 7 := hp ⟨7, .data⟩ (by simp) rfl
        have e7 := (hJ.2.2.2.2.2.2.2.2.2.2.2.2.2.2.1) p7
        simp only [putAll, Act.put, List.setIfInBounds_toArray, List.set_cons_zero, List.set_cons_succ]
        go_simp
        refine hK _ G _ (by kernel_rfl) ?_
        exact ⟨(hJ.1),
          (hJ.2.1),
          (hJ.2.2.1),
          (hJ.2.2.2.1),
          (hJ.2.2.2.2.1),
          (hJ.2.2.2.2.2.1),
          (hJ.2.2.2.2.2.2.1),
          fun q => (hJ.2.2.2.2.2.2.2.1) (q.resolve_left (by decide)),
          fun q => (hJ.2.2.2.2.2.2.2.2.1) (q.resolve_left (by decide)),
          fun q => (hJ.2.2.2.2.2.2.2.2.2.1) (q.resolve_left (by decide)),
          fun q => (hJ.2.2.2.2.2.2.2.2.2.2.1) (q.resolve_left (by decide)),
          fun q => (hJ.2.2.2.2.2.2.2.2.2.2.2.1) (q.resolve_left (by decide)),
          fun q => (hJ.2.2.2.2.2.2.2.2.2.2.2.2.1) (q.resolve_left (by decide)),
          fun q => (hJ.2.2.2.2.2.2.2.2.2.2.2.2.2.1) (q.resolve_left (by decide)),
          fun _ => by first | exact rfl | exact e7,
          fun q => (hJ.2.2.2.2.2.2.2.2.2.2.2.2.2.2.2.1) (q.resolve_left (by decide)),
          fun _ => rfl⟩
      exact StepsOk.nil
    case fin =>
      intro L x G w4 hall hJ
      replace X := (hJ.2.2.1)
      replace Y := (hJ.2.2.2.2.1)
      replace NN := (hJ.2.2.2.2.2.2.1)
      have u0 := hJ.2.2.2.2.2.2.2.1 (hall 0 (by decide))
      have u1 := hJ.2.2.2.2.2.2.2.2.1 (hall 1 (by decide))
      have u2 := hJ.2.2.2.2.2.2.2.2.2.1 (hall 2 (by decide))
      have u3 := hJ.2.2.2.2.2.2.2.2.2.2.1 (hall 3 (by decide))
      have u4 := hJ.2.2.2.2.2.2.2.2.2.2.2.1 (hall 4 (by decide))
      have u5 := hJ.2.2.2.2.2.2.2.2.2.2.2.2.1 (hall 5 (by decide))
      have u6 := hJ.2.2.2.2.2.2.2.2.2.2.2.2.2.1 (hall 6 (by decide))
      have u7 := hJ.2.2.2.2.2.2.2.2.2.2.2.2.2.2.1 (hall 7 (by decide))
      have u8 := hJ.2.2.2.2.2.2.2.2.2.2.2.2.2.2.2.1 (hall 8 (by decide))
      have u9 := hJ.2.2.2.2.2.2.2.2.2.2.2.2.2.2.2.2 (hall 9 (by decide))
      replace hB := hJ.1
      simp only [putAll, Act.put, List.setIfInBounds_toArray, List.set_cons_zero, List.set_cons_succ]
      simp only [u0, u1, u2, u3, u4, u5, u6, u7, u8, u9]
      clear hall hJ u0 u1 u2 u3 u4 u5 u6 u7 u8 u9
      obtain ⟨c00, c01, c02, c03⟩ := X.open2
      go_wp2_with fail
      refine (has_c _ _ _ _).mono ?_
      rw [g1.out]
      rintro e w5 ⟨rfl, hb⟩
      clear c00 c01 c02 c03
      replace X := X.keep hb
      replace Y := Y.keep hb
      replace NN := NN.keep hb
      replace hB := bt hB hb
      clear hb
      obtain ⟨c00, c01, c02, c03⟩ := Y.open2
      go_wp2_with fail
      refine (has_c _ _ _ _).mono ?_
      rw [g2.out]
      rintro e w6 ⟨rfl, hb⟩
      clear c00 c01 c02 c03
      replace X := X.keep hb
      replace Y := Y.keep hb
      replace NN := NN.keep hb
      replace hB := bt hB hb
      clear hb
      obtain ⟨c00, c01, c02, c03⟩ := X.open2
      obtain ⟨c10, c11, c12, c13⟩ := Y.open2
      go_wp2_with fail
      refine (add_ci _ _ _ _ _).mono ?_
      rw [c0.out]
      rintro e w7 ⟨rfl, hb⟩
      clear c00 c01 c02 c03 c10 c11 c12 c13
      replace X := X.keep hb
      replace Y := Y.keep hb
      replace NN := NN.keep hb
      replace hB := bt hB hb
      clear hb
      have hz7 := hB.size
      have l7X := X.lt
      have l7Y := Y.lt
      have l7NN := NN.lt
      replace X := X.alloc (.cells #[.int .i64 (Iv.add l h l' h').lo, .int .i64 (Iv.add l h l' h').hi] 23)
      replace Y := Y.alloc (.cells #[.int .i64 (Iv.add l h l' h').lo, .int .i64 (Iv.add l h l' h').hi] 23)
      replace NN := NN.alloc (.cells #[.int .i64 (Iv.add l h l' h').lo, .int .i64 (Iv.add l h l' h').hi] 23)
      replace hB := bal hB (.cells #[.int .i64 (Iv.add l h l' h').lo, .int .i64 (Iv.add l h l' h').hi] 23)
      have A := Blk.new w7 23 #[.int .i64 (Iv.add l h l' h').lo, .int .i64 (Iv.add l h l' h').hi]
      obtain ⟨c00, c01, c02, c03⟩ := X.open2
      obtain ⟨c10, c11, c12, c13⟩ := Y.open2
      obtain ⟨c20, c21, c22, c23⟩ := A.open2
      go_wp2_with fail
      refine (sub_ci _ _ _ _ _).mono ?_
      rw [hm1.out]
      rintro e w8 ⟨rfl, hb⟩
      clear c00 c01 c02 c03 c10 c11 c12 c13 c20 c21 c22 c23
      replace X := X.keep hb
      replace Y := Y.keep hb
      replace NN := NN.keep hb
      replace A := A.keep hb
      replace hB := bt hB hb
      clear hb
      have hz8 := hB.size
      have l8X := X.lt
      have l8Y := Y.lt
      have l8NN := NN.lt
      have l8A := A.lt
      replace X := X.alloc (.cells #[.int .i64 (Iv.sub l h l' h').lo, .int .i64 (Iv.sub l h l' h').hi] 23)
      replace Y := Y.alloc (.cells #[.int .i64 (Iv.sub l h l' h').lo, .int .i64 (Iv.sub l h l' h').hi] 23)
      replace NN := NN.alloc (.cells #[.int .i64 (Iv.sub l h l' h').lo, .int .i64 (Iv.sub l h l' h').hi] 23)
      replace A := A.alloc (.cells #[.int .i64 (Iv.sub l h l' h').lo, .int .i64 (Iv.sub l h l' h').hi] 23)
      replace hB := bal hB (.cells #[.int .i64 (Iv.sub l h l' h').lo, .int .i64 (Iv.sub l h l' h').hi] 23)
      have B := Blk.new w8 23 #[.int .i64 (Iv.sub l h l' h').lo, .int .i64 (Iv.sub l h l' h').hi]
      obtain ⟨c00, c01, c02, c03⟩ := X.open2
      obtain ⟨c10, c11, c12, c13⟩ := Y.open2
      obtain ⟨c20, c21, c22, c23⟩ := A.open2
      obtain ⟨c30, c31, c32, c33⟩ := B.open2
      go_wp2_with fail
      refine (mul_ci _ _ _ _ _).mono ?_
      rw [c2.out]
      rintro e w9 ⟨rfl, hb⟩
      clear c00 c01 c02 c03 c10 c11 c12 c13 c20 c21 c22 c23 c30 c31 c32 c33
      replace X := X.keep hb
      replace Y := Y.keep hb
      replace NN := NN.keep hb
      replace A := A.keep hb
      replace B := B.keep hb
      replace hB := bt hB hb
      clear hb
      have hz9 := hB.size
      have l9X := X.lt
      have l9Y := Y.lt
      have l9NN := NN.lt
      have l9A := A.lt
      have l9B := B.lt
      replace X := X.alloc (.cells #[.int .i64 (Iv.mul l h l' h').lo, .int .i64 (Iv.mul l h l' h').hi] 23)
      replace Y := Y.alloc (.cells #[.int .i64 (Iv.mul l h l' h').lo, .int .i64 (Iv.mul l h l' h').hi] 23)
      replace NN := NN.alloc (.cells #[.int .i64 (Iv.mul l h l' h').lo, .int .i64 (Iv.mul l h l' h').hi] 23)
      replace A := A.alloc (.cells #[.int .i64 (Iv.mul l h l' h').lo, .int .i64 (Iv.mul l h l' h').hi] 23)
      replace B := B.alloc (.cells #[.int .i64 (Iv.mul l h l' h').lo, .int .i64 (Iv.mul l h l' h').hi] 23)
      replace hB := bal hB (.cells #[.int .i64 (Iv.mul l h l' h').lo, .int .i64 (Iv.mul l h l' h').hi] 23)
      have C := Blk.new w9 23 #[.int .i64 (Iv.mul l h l' h').lo, .int .i64 (Iv.mul l h l' h').hi]
      obtain ⟨c00, c01, c02, c03⟩ := A.open2
      obtain ⟨c10, c11, c12, c13⟩ := B.open2
      obtain ⟨c20, c21, c22, c23⟩ := C.open2
      go_wp2_with fail
      refine (has_c _ _ _ _).mono ?_
      rw [N0.out]
      rintro e w10 ⟨rfl, hb⟩
      clear c00 c01 c02 c03 c10 c11 c12 c13 c20 c21 c22 c23
      replace X := X.keep hb
      replace Y := Y.keep hb
      replace NN := NN.keep hb
      replace A := A.keep hb
      replace B := B.keep hb
      replace C := C.keep hb
      replace hB := bt hB hb
      clear hb
      obtain ⟨c00, c01, c02, c03⟩ := C.open2
      go_wp2_with fail
      refine (mul_c _ _ _ x1 x2 y1 y2).mono ?_
      rintro e w11 ⟨rfl, hb⟩
      clear c00 c01 c02 c03
      replace X := X.keep hb
      replace Y := Y.keep hb
      replace NN := NN.keep hb
      replace A := A.keep hb
      replace B := B.keep hb
      replace C := C.keep hb
      replace hB := bt hB hb
      clear hb
      obtain ⟨c00, c01, c02, c03⟩ := C.open2
      go_wp2_with fail
      refine (int_c _ _ _ _ mw).mono ?_
      rw [k1.out, k2.out]
      rintro e w12 ⟨rfl, hb⟩
      clear c00 c01 c02 c03
      replace X := X.keep hb
      replace Y := Y.keep hb
      replace NN := NN.keep hb
      replace A := A.keep hb
      replace B := B.keep hb
      replace C := C.keep hb
      replace hB := bt hB hb
      clear hb
      obtain ⟨c00, c01, c02, c03⟩ := C.open2
      go_wp2_with fail
      refine (has_c _ _ _ _).mono ?_
      rw [N2.out]
      rintro e w13 ⟨rfl, hb⟩
      clear c00 c01 c02 c03
      replace X := X.keep hb
      replace Y := Y.keep hb
      replace NN := NN.keep hb
      replace A := A.keep hb
      replace B := B.keep hb
      replace C := C.keep hb
      replace hB := bt hB hb
      clear hb
      go_wp2_with fail
      go_returns
      exact ⟨rfl, hB⟩
  · have e1 := Lib.hid (Iv.vb_yes v)
    have e2 := Lib.hid (Iv.vb_yes v2)
    have V1 := Lib.hid v
    have V2 := Lib.hid v2
    obtain ⟨mu, hx⟩ : ∃ u, Hid (Iv.mb l h n0 = u) := ⟨_, Lib.hid rfl⟩
    obtain ⟨mv, hy⟩ : ∃ u, Hid (Iv.mb l' h' n1 = u) := ⟨_, Lib.hid rfl⟩
    have hu := Iv.mb_in (n := n0) v
    have hv := Iv.mb_in (n := n1) v2
    rw [hx.out] at hu
    rw [hy.out] at hv
    have g1 := Lib.hid (Iv.hs_yes v hu.1 hu.2)
    have g2 := Lib.hid (Iv.hs_yes v2 hv.1 hv.2)
    have x1 : -9223372036854775808 ≤ mu := by unfold Iv.Vd at v; omega
    have x2 : mu ≤ 9223372036854775807 := by unfold Iv.Vd at v; omega
    have y1 : -9223372036854775808 ≤ mv := by unfold Iv.Vd at v2; omega
    have y2 : mv ≤ 9223372036854775807 := by unfold Iv.Vd at v2; omega
    have mw := Wi.wd_self (mul_W x1 x2 y1 y2)
    have N0 := Iv.add_has hu hv c0
    have ew0 := IntWalk.i64_in (mu + mv) ⟨N0.2.1, N0.2.2⟩
    replace N0 := Lib.hid N0.1
    replace c0 := Lib.hid c0
    obtain ⟨m1, hm1⟩ : ∃ m, Hid ((Iv.sub l h l' h').er = m) := ⟨_, Lib.hid rfl⟩
    rw [hm1.out] at c1
    have k1_ : (m1 == 0) = false := by simpa using c1
    have kk1_ : (m1 != 0) = true := by simpa using c1
    clear c1
    obtain ⟨m2, hm2⟩ : ∃ m, Hid ((Iv.mul l h l' h').er = m) := ⟨_, Lib.hid rfl⟩
    rw [hm2.out] at c2
    have k2_ : (m2 == 0) = false := by simpa using c2
    have kk2_ : (m2 != 0) = true := by simpa using c2
    clear c2
    clear v v2 hu hv
    go_enter Try.func9, Try.ntmps9
    have X := Blk.new w 23 #[.int .i64 (l), .int .i64 (h)]
    have hB := ba w (.cells #[.int .i64 (l), .int .i64 (h)] 23)
    have Y := Blk.new1 w (.cells #[.int .i64 (l), .int .i64 (h)] 23) 23 #[.int .i64 (l'), .int .i64 (h')]
    replace X := X.alloc (.cells #[.int .i64 (l'), .int .i64 (h')] 23)
    replace hB := bal hB (.cells #[.int .i64 (l'), .int .i64 (h')] 23)
    have NN := Blk.new2 w (.cells #[.int .i64 (l), .int .i64 (h)] 23) (.cells #[.int .i64 (l'), .int .i64 (h')] 23) 45 #[.int .u64 n0, .int .u64 n1]
    replace X := X.alloc (.cells #[.int .u64 n0, .int .u64 n1] 45)
    replace Y := Y.alloc (.cells #[.int .u64 n0, .int .u64 n1] 45)
    replace hB := bal hB (.cells #[.int .u64 n0, .int .u64 n1] 45)
    go_wp2_with fail
    refine (awake_ci _).mono ?_
    rintro e w1 ⟨rfl, hb⟩
    replace X := X.keep hb
    replace Y := Y.keep hb
    replace NN := NN.keep hb
    replace hB := bt hB hb
    clear hb
    obtain ⟨c00, c01, c02, c03⟩ := X.open2
    go_wp2_with fail
    refine (valid_c _ _ _).mono ?_
    rw [e1.out]
    rintro e w2 ⟨rfl, hb⟩
    clear c00 c01 c02 c03
    replace X := X.keep hb
    replace Y := Y.keep hb
    replace NN := NN.keep hb
    replace hB := bt hB hb
    clear hb
    obtain ⟨c00, c01, c02, c03⟩ := Y.open2
    go_wp2_with fail
    refine (valid_c _ _ _).mono ?_
    rw [e2.out]
    rintro e w3 ⟨rfl, hb⟩
    clear c00 c01 c02 c03
    replace X := X.keep hb
    replace Y := Y.keep hb
    replace NN := NN.keep hb
    replace hB := bt hB hb
    clear hb
    go_wp2_with fail
    refine wp_region_inv (fun L x G wx => Below w.heap.size w wx
          ∧ w.heap.size < wx.heap.size
          ∧ Blk wx (w.heap.size) 23 #[.int .i64 (l), .int .i64 (h)]
          ∧ w.heap.size + 1 < wx.heap.size
          ∧ Blk wx (w.heap.size + 1) 23 #[.int .i64 (l'), .int .i64 (h')]
          ∧ w.heap.size + 1 + 1 < wx.heap.size
          ∧ Blk wx (w.heap.size + 1 + 1) 45 #[.int .u64 n0, .int .u64 n1]
          ∧ (L 0 → x 37 = .agg #[.int .i64 (l), .int .i64 (h)])
          ∧ (L 1 → x 38 = .pointer (some ⟨w.heap.size + 1 + 1, 0, none⟩))
          ∧ (L 2 → x 39 = .int .u64 n0)
          ∧ (L 3 → x 40 = .int .i64 (mu))
          ∧ (L 4 → x 41 = .agg #[.int .i64 (l'), .int .i64 (h')])
          ∧ (L 5 → x 42 = .pointer (some ⟨w.heap.size + 1 + 1, 1, none⟩))
          ∧ (L 6 → x 43 = .int .u64 n1)
          ∧ (L 7 → x 44 = .int .i64 (mv))
          ∧ (L 8 → x 9 = .int .i64 (mu))
          ∧ (L 9 → x 10 = .int .i64 (mv))) [37, 38, 39, 40, 41, 42, 43, 44, 9, 10] 10 (by kernel_rfl) (by kernel_rfl) (by kernel_rfl) ?h0 ?st ?fin
    case h0 =>
      exact ⟨bdr hB, Blk.lt X.drew, X.drew, Blk.lt Y.drew, Y.drew, Blk.lt NN.drew, NN.drew, fun q => q.elim, fun q => q.elim, fun q => q.elim, fun q => q.elim, fun q => q.elim, fun q => q.elim, fun q => q.elim, fun q => q.elim, fun q => q.elim, fun q => q.elim⟩
    case st =>
      refine StepsOk.cons (i := 0) rfl (fun L x G w1 K Q hn hp hJ hK => ?_) ?_
      · skip
        have hc := Blk.open2 ((hJ.2.2.1))
        have c0 := hc.1
        have c1 := hc.2.1
        have c2 := hc.2.2.1
        have c3 := hc.2.2.2
        clear hc
        simp only [putAll, Act.put, List.setIfInBounds_toArray, List.set_cons_zero, List.set_cons_succ]
        go_simp
        refine hK _ G _ (by kernel_rfl) ?_
        exact ⟨(hJ.1),
          (hJ.2.1),
          (hJ.2.2.1),
          (hJ.2.2.2.1),
          (hJ.2.2.2.2.1),
          (hJ.2.2.2.2.2.1),
          (hJ.2.2.2.2.2.2.1),
          fun _ => rfl,
          fun q => (hJ.2.2.2.2.2.2.2.2.1) (q.resolve_left (by decide)),
          fun q => (hJ.2.2.2.2.2.2.2.2.2.1) (q.resolve_left (by decide)),
          fun q => (hJ.2.2.2.2.2.2.2.2.2.2.1) (q.resolve_left (by decide)),
          fun q => (hJ.2.2.2.2.2.2.2.2.2.2.2.1) (q.resolve_left (by decide)),
          fun q => (hJ.2.2.2.2.2.2.2.2.2.2.2.2.1) (q.resolve_left (by decide)),
          fun q => (hJ.2.2.2.2.2.2.2.2.2.2.2.2.2.1) (q.resolve_left (by decide)),
          fun q => (hJ.2.2.2.2.2.2.2.2.2.2.2.2.2.2.1) (q.resolve_left (by decide)),
          fun q => (hJ.2.2.2.2.2.2.2.2.2.2.2.2.2.2.2.1) (q.resolve_left (by decide)),
          fun q => (hJ.2.2.2.2.2.2.2.2.2.2.2.2.2.2.2.2) (q.resolve_left (by decide))⟩
      refine StepsOk.cons (i := 1) rfl (fun L x G w1 K Q hn hp hJ hK => ?_) ?_
      · skip
        simp only [putAll, Act.put, List.setIfInBounds_toArray, List.set_cons_zero, List.set_cons_succ]
        go_simp
        refine hK _ G _ (by kernel_rfl) ?_
        exact ⟨(hJ.1),
          (hJ.2.1),
          (hJ.2.2.1),
          (hJ.2.2.2.1),
          (hJ.2.2.2.2.1),
          (hJ.2.2.2.2.2.1),
          (hJ.2.2.2.2.2.2.1),
          fun q => (hJ.2.2.2.2.2.2.2.1) (q.resolve_left (by decide)),
          fun _ => rfl,
          fun q => (hJ.2.2.2.2.2.2.2.2.2.1) (q.resolve_left (by decide)),
          fun q => (hJ.2.2.2.2.2.2.2.2.2.2.1) (q.resolve_left (by decide)),
          fun q => (hJ.2.2.2.2.2.2.2.2.2.2.2.1) (q.resolve_left (by decide)),
          fun q => (hJ.2.2.2.2.2.2.2.2.2.2.2.2.1) (q.resolve_left (by decide)),
          fun q => (hJ.2.2.2.2.2.2.2.2.2.2.2.2.2.1) (q.resolve_left (by decide)),
          fun q => (hJ.2.2.2.2.2.2.2.2.2.2.2.2.2.2.1) (q.resolve_left (by decide)),
          fun q => (hJ.2.2.2.2.2.2.2.2.2.2.2.2.2.2.2.1) (q.resolve_left (by decide)),
          fun q => (hJ.2.2.2.2.2.2.2.2.2.2.2.2.2.2.2.2) (q.resolve_left (by decide))⟩
      refine StepsOk.cons (i := 2) rfl (fun L x G w1 K Q hn hp hJ hK => ?_) ?_
      · skip
        have p1 : L 1 := hp ⟨1, .data⟩ (by simp) rfl
        have e1 := (hJ.2.2.2.2.2.2.2.2.1) p1
        have hc := Blk.open2 ((hJ.2.2.2.2.2.2.1))
        have c0 := hc.1
        have c1 := hc.2.1
        have c2 := hc.2.2.1
        have c3 := hc.2.2.2
        clear hc
        simp only [putAll, Act.put, List.setIfInBounds_toArray, List.set_cons_zero, List.set_cons_succ]
        go_simp
        refine hK _ G _ (by kernel_rfl) ?_
        exact ⟨(hJ.1),
          (hJ.2.1),
          (hJ.2.2.1),
          (hJ.2.2.2.1),
          (hJ.2.2.2.2.1),
          (hJ.2.2.2.2.2.1),
          (hJ.2.2.2.2.2.2.1),
          fun q => (hJ.2.2.2.2.2.2.2.1) (q.resolve_left (by decide)),
          fun _ => by first | exact rfl | exact e1,
          fun _ => rfl,
          fun q => (hJ.2.2.2.2.2.2.2.2.2.2.1) (q.resolve_left (by decide)),
          fun q => (hJ.2.2.2.2.2.2.2.2.2.2.2.1) (q.resolve_left (by decide)),
          fun q => (hJ.2.2.2.2.2.2.2.2.2.2.2.2.1) (q.resolve_left (by decide)),
          fun q => (hJ.2.2.2.2.2.2.2.2.2.2.2.2.2.1) (q.resolve_left (by decide)),
          fun q => (hJ.2.2.2.2.2.2.2.2.2.2.2.2.2.2.1) (q.resolve_left (by decide)),
          fun q => (hJ.2.2.2.2.2.2.2.2.2.2.2.2.2.2.2.1) (q.resolve_left (by decide)),
          fun q => (hJ.2.2.2.2.2.2.2.2.2.2.2.2.2.2.2.2) (q.resolve_left (by decide))⟩
      refine StepsOk.cons (i := 3) rfl (fun L x G w1 K Q hn hp hJ hK => ?_) ?_
      · skip
        have p0 : L 0 := hp ⟨0, .data⟩ (by simp) rfl
        have e0 := (hJ.2.2.2.2.2.2.2.1) p0
        have p2 : L 2 := hp ⟨2, .data⟩ (by simp) rfl
        have e2 := (hJ.2.2.2.2.2.2.2.2.2.1) p2
        simp only [putAll, Act.put, List.setIfInBounds_toArray, List.set_cons_zero, List.set_cons_succ]
        go_simp
        refine (member_c _ _ _ _ V1.out a1 a2).mono ?_
        rw [hx.out]
        rintro e w2 ⟨rfl, hb⟩
        have hz := hb.size
        try go_simp
        refine hK _ G _ (by kernel_rfl) ?_
        exact ⟨bt (hJ.1) hb,
          Nat.lt_of_lt_of_le (hJ.2.1) hb.size,
          Blk.keep ((hJ.2.2.1)) hb,
          Nat.lt_of_lt_of_le (hJ.2.2.2.1) hb.size,
          Blk.keep ((hJ.2.2.2.2.1)) hb,
          Nat.lt_of_lt_of_le (hJ.2.2.2.2.2.1) hb.size,
          Blk.keep ((hJ.2.2.2.2.2.2.1)) hb,
          fun _ => by first | exact rfl | exact e0,
          fun q => (hJ.2.2.2.2.2.2.2.2.1) (q.resolve_left (by decide)),
          fun _ => by first | exact rfl | exact e2,
          fun _ => rfl,
          fun q => (hJ.2.2.2.2.2.2.2.2.2.2.2.1) (q.resolve_left (by decide)),
          fun q => (hJ.2.2.2.2.2.2.2.2.2.2.2.2.1) (q.resolve_left (by decide)),
          fun q => (hJ.2.2.2.2.2.2.2.2.2.2.2.2.2.1) (q.resolve_left (by decide)),
          fun q => (hJ.2.2.2.2.2.2.2.2.2.2.2.2.2.2.1) (q.resolve_left (by decide)),
          fun q => (hJ.2.2.2.2.2.2.2.2.2.2.2.2.2.2.2.1) (q.resolve_left (by decide)),
          fun q => (hJ.2.2.2.2.2.2.2.2.2.2.2.2.2.2.2.2) (q.resolve_left (by decide))⟩
      refine StepsOk.cons (i := 4) rfl (fun L x G w1 K Q hn hp hJ hK => ?_) ?_
      · skip
        have hc := Blk.open2 ((hJ.2.2.2.2.1))
        have c0 := hc.1
        have c1 := hc.2.1
        have c2 := hc.2.2.1
        have c3 := hc.2.2.2
        clear hc
        simp only [putAll, Act.put, List.setIfInBounds_toArray, List.set_cons_zero, List.set_cons_succ]
        go_simp
        refine hK _ G _ (by kernel_rfl) ?_
        exact ⟨(hJ.1),
          (hJ.2.1),
          (hJ.2.2.1),
          (hJ.2.2.2.1),
          (hJ.2.2.2.2.1),
          (hJ.2.2.2.2.2.1),
          (hJ.2.2.2.2.2.2.1),
          fun q => (hJ.2.2.2.2.2.2.2.1) (q.resolve_left (by decide)),
          fun q => (hJ.2.2.2.2.2.2.2.2.1) (q.resolve_left (by decide)),
          fun q => (hJ.2.2.2.2.2.2.2.2.2.1) (q.resolve_left (by decide)),
          fun q => (hJ.2.2.2.2.2.2.2.2.2.2.1) (q.resolve_left (by decide)),
          fun _ => rfl,
          fun q => (hJ.2.2.2.2.2.2.2.2.2.2.2.2.1) (q.resolve_left (by decide)),
          fun q => (hJ.2.2.2.2.2.2.2.2.2.2.2.2.2.1) (q.resolve_left (by decide)),
          fun q => (hJ.2.2.2.2.2.2.2.2.2.2.2.2.2.2.1) (q.resolve_left (by decide)),
          fun q => (hJ.2.2.2.2.2.2.2.2.2.2.2.2.2.2.2.1) (q.resolve_left (by decide)),
          fun q => (hJ.2.2.2.2.2.2.2.2.2.2.2.2.2.2.2.2) (q.resolve_left (by decide))⟩
      refine StepsOk.cons (i := 5) rfl (fun L x G w1 K Q hn hp hJ hK => ?_) ?_
      · skip
        simp only [putAll, Act.put, List.setIfInBounds_toArray, List.set_cons_zero, List.set_cons_succ]
        go_simp
        refine hK _ G _ (by kernel_rfl) ?_
        exact ⟨(hJ.1),
          (hJ.2.1),
          (hJ.2.2.1),
          (hJ.2.2.2.1),
          (hJ.2.2.2.2.1),
          (hJ.2.2.2.2.2.1),
          (hJ.2.2.2.2.2.2.1),
          fun q => (hJ.2.2.2.2.2.2.2.1) (q.resolve_left (by decide)),
          fun q => (hJ.2.2.2.2.2.2.2.2.1) (q.resolve_left (by decide)),
          fun q => (hJ.2.2.2.2.2.2.2.2.2.1) (q.resolve_left (by decide)),
          fun q => (hJ.2.2.2.2.2.2.2.2.2.2.1) (q.resolve_left (by decide)),
          fun q => (hJ.2.2.2.2.2.2.2.2.2.2.2.1) (q.resolve_left (by decide)),
          fun _ => rfl,
          fun q => (hJ.2.2.2.2.2.2.2.2.2.2.2.2.2.1) (q.resolve_left (by decide)),
          fun q => (hJ.2.2.2.2.2.2.2.2.2.2.2.2.2.2.1) (q.resolve_left (by decide)),
          fun q => (hJ.2.2.2.2.2.2.2.2.2.2.2.2.2.2.2.1) (q.resolve_left (by decide)),
          fun q => (hJ.2.2.2.2.2.2.2.2.2.2.2.2.2.2.2.2) (q.resolve_left (by decide))⟩
      refine StepsOk.cons (i := 6) rfl (fun L x G w1 K Q hn hp hJ hK => ?_) ?_
      · skip
        have p5 : L 5 := hp ⟨5, .data⟩ (by simp) rfl
        have e5 := (hJ.2.2.2.2.2.2.2.2.2.2.2.2.1) p5
        have hc := Blk.open2 ((hJ.2.2.2.2.2.2.1))
        have c0 := hc.1
        have c1 := hc.2.1
        have c2 := hc.2.2.1
        have c3 := hc.2.2.2
        clear hc
        simp only [putAll, Act.put, List.setIfInBounds_toArray, List.set_cons_zero, List.set_cons_succ]
        go_simp
        refine hK _ G _ (by kernel_rfl) ?_
        exact ⟨(hJ.1),
          (hJ.2.1),
          (hJ.2.2.1),
          (hJ.2.2.2.1),
          (hJ.2.2.2.2.1),
          (hJ.2.2.2.2.2.1),
          (hJ.2.2.2.2.2.2.1),
          fun q => (hJ.2.2.2.2.2.2.2.1) (q.resolve_left (by decide)),
          fun q => (hJ.2.2.2.2.2.2.2.2.1) (q.resolve_left (by decide)),
          fun q => (hJ.2.2.2.2.2.2.2.2.2.1) (q.resolve_left (by decide)),
          fun q => (hJ.2.2.2.2.2.2.2.2.2.2.1) (q.resolve_left (by decide)),
          fun q => (hJ.2.2.2.2.2.2.2.2.2.2.2.1) (q.resolve_left (by decide)),
          fun _ => by first | exact rfl | exact e5,
          fun _ => rfl,
          fun q => (hJ.2.2.2.2.2.2.2.2.2.2.2.2.2.2.1) (q.resolve_left (by decide)),
          fun q => (hJ.2.2.2.2.2.2.2.2.2.2.2.2.2.2.2.1) (q.resolve_left (by decide)),
          fun q => (hJ.2.2.2.2.2.2.2.2.2.2.2.2.2.2.2.2) (q.resolve_left (by decide))⟩
      refine StepsOk.cons (i := 7) rfl (fun L x G w1 K Q hn hp hJ hK => ?_) ?_
      · skip
        have p4 : L 4 := hp ⟨4, .data⟩ (by simp) rfl
        have e4 := (hJ.2.2.2.2.2.2.2.2.2.2.2.1) p4
        have p6 : L 6 := hp ⟨6, .data⟩ (by simp) rfl
        have e6 := (hJ.2.2.2.2.2.2.2.2.2.2.2.2.2.1) p6
        simp only [putAll, Act.put, List.setIfInBounds_toArray, List.set_cons_zero, List.set_cons_succ]
        go_simp
        refine (member_c _ _ _ _ V2.out b1 b2).mono ?_
        rw [hy.out]
        rintro e w2 ⟨rfl, hb⟩
        have hz := hb.size
        try go_simp
        refine hK _ G _ (by kernel_rfl) ?_
        exact ⟨bt (hJ.1) hb,
          Nat.lt_of_lt_of_le (hJ.2.1) hb.size,
          Blk.keep ((hJ.2.2.1)) hb,
          Nat.lt_of_lt_of_le (hJ.2.2.2.1) hb.size,
          Blk.keep ((hJ.2.2.2.2.1)) hb,
          Nat.lt_of_lt_of_le (hJ.2.2.2.2.2.1) hb.size,
          Blk.keep ((hJ.2.2.2.2.2.2.1)) hb,
          fun q => (hJ.2.2.2.2.2.2.2.1) (q.resolve_left (by decide)),
          fun q => (hJ.2.2.2.2.2.2.2.2.1) (q.resolve_left (by decide)),
          fun q => (hJ.2.2.2.2.2.2.2.2.2.1) (q.resolve_left (by decide)),
          fun q => (hJ.2.2.2.2.2.2.2.2.2.2.1) (q.resolve_left (by decide)),
          fun _ => by first | exact rfl | exact e4,
          fun q => (hJ.2.2.2.2.2.2.2.2.2.2.2.2.1) (q.resolve_left (by decide)),
          fun _ => by first | exact rfl | exact e6,
          fun _ => rfl,
          fun q => (hJ.2.2.2.2.2.2.2.2.2.2.2.2.2.2.2.1) (q.resolve_left (by decide)),
          fun q => (hJ.2.2.2.2.2.2.2.2.2.2.2.2.2.2.2.2) (q.resolve_left (by decide))⟩
      refine StepsOk.cons (i := 8) rfl (fun L x G w1 K Q hn hp hJ hK => ?_) ?_
      · skip
        have p3 : L 3 := hp ⟨3, .data⟩ (by simp) rfl
        have e3 := (hJ.2.2.2.2.2.2.2.2.2.2.1) p3
        simp only [putAll, Act.put, List.setIfInBounds_toArray, List.set_cons_zero, List.set_cons_succ]
        go_simp
        refine hK _ G _ (by kernel_rfl) ?_
        exact ⟨(hJ.1),
          (hJ.2.1),
          (hJ.2.2.1),
          (hJ.2.2.2.1),
          (hJ.2.2.2.2.1),
          (hJ.2.2.2.2.2.1),
          (hJ.2.2.2.2.2.2.1),
          fun q => (hJ.2.2.2.2.2.2.2.1) (q.resolve_left (by decide)),
          fun q => (hJ.2.2.2.2.2.2.2.2.1) (q.resolve_left (by decide)),
          fun q => (hJ.2.2.2.2.2.2.2.2.2.1) (q.resolve_left (by decide)),
          fun _ => by first | exact rfl | exact e3,
          fun q => (hJ.2.2.2.2.2.2.2.2.2.2.2.1) (q.resolve_left (by decide)),
          fun q => (hJ.2.2.2.2.2.2.2.2.2.2.2.2.1) (q.resolve_left (by decide)),
          fun q => (hJ.2.2.2.2.2.2.2.2.2.2.2.2.2.1) (q.resolve_left (by decide)),
          fun q => (hJ.2.2.2.2.2.2.2.2.2.2.2.2.2.2.1) (q.resolve_left (by decide)),
          fun _ => rfl,
          fun q => (hJ.2.2.2.2.2.2.2.2.2.2.2.2.2.2.2.2) (q.resolve_left (by decide))⟩
      refine StepsOk.cons (i := 9) rfl (fun L x G w1 K Q hn hp hJ hK => ?_) ?_
      · skip
        have p7 : L 7 := hp ⟨7, .data⟩ (by simp) rfl
        have e7 := (hJ.2.2.2.2.2.2.2.2.2.2.2.2.2.2.1) p7
        simp only [putAll, Act.put, List.setIfInBounds_toArray, List.set_cons_zero, List.set_cons_succ]
        go_simp
        refine hK _ G _ (by kernel_rfl) ?_
        exact ⟨(hJ.1),
          (hJ.2.1),
          (hJ.2.2.1),
          (hJ.2.2.2.1),
          (hJ.2.2.2.2.1),
          (hJ.2.2.2.2.2.1),
          (hJ.2.2.2.2.2.2.1),
          fun q => (hJ.2.2.2.2.2.2.2.1) (q.resolve_left (by decide)),
          fun q => (hJ.2.2.2.2.2.2.2.2.1) (q.resolve_left (by decide)),
          fun q => (hJ.2.2.2.2.2.2.2.2.2.1) (q.resolve_left (by decide)),
          fun q => (hJ.2.2.2.2.2.2.2.2.2.2.1) (q.resolve_left (by decide)),
          fun q => (hJ.2.2.2.2.2.2.2.2.2.2.2.1) (q.resolve_left (by decide)),
          fun q => (hJ.2.2.2.2.2.2.2.2.2.2.2.2.1) (q.resolve_left (by decide)),
          fun q => (hJ.2.2.2.2.2.2.2.2.2.2.2.2.2.1) (q.resolve_left (by decide)),
          fun _ => by first | exact rfl | exact e7,
          fun q => (hJ.2.2.2.2.2.2.2.2.2.2.2.2.2.2.2.1) (q.resolve_left (by decide)),
          fun _ => rfl⟩
      exact StepsOk.nil
    case fin =>
      intro L x G w4 hall hJ
      replace X := (hJ.2.2.1)
      replace Y := (hJ.2.2.2.2.1)
      replace NN := (hJ.2.2.2.2.2.2.1)
      have u0 := hJ.2.2.2.2.2.2.2.1 (hall 0 (by decide))
      have u1 := hJ.2.2.2.2.2.2.2.2.1 (hall 1 (by decide))
      have u2 := hJ.2.2.2.2.2.2.2.2.2.1 (hall 2 (by decide))
      have u3 := hJ.2.2.2.2.2.2.2.2.2.2.1 (hall 3 (by decide))
      have u4 := hJ.2.2.2.2.2.2.2.2.2.2.2.1 (hall 4 (by decide))
      have u5 := hJ.2.2.2.2.2.2.2.2.2.2.2.2.1 (hall 5 (by decide))
      have u6 := hJ.2.2.2.2.2.2.2.2.2.2.2.2.2.1 (hall 6 (by decide))
      have u7 := hJ.2.2.2.2.2.2.2.2.2.2.2.2.2.2.1 (hall 7 (by decide))
      have u8 := hJ.2.2.2.2.2.2.2.2.2.2.2.2.2.2.2.1 (hall 8 (by decide))
      have u9 := hJ.2.2.2.2.2.2.2.2.2.2.2.2.2.2.2.2 (hall 9 (by decide))
      replace hB := hJ.1
      simp only [putAll, Act.put, List.setIfInBounds_toArray, List.set_cons_zero, List.set_cons_succ]
      simp only [u0, u1, u2, u3, u4, u5, u6, u7, u8, u9]
      clear hall hJ u0 u1 u2 u3 u4 u5 u6 u7 u8 u9
      obtain ⟨c00, c01, c02, c03⟩ := X.open2
      go_wp2_with fail
      refine (has_c _ _ _ _).mono ?_
      rw [g1.out]
      rintro e w5 ⟨rfl, hb⟩
      clear c00 c01 c02 c03
      replace X := X.keep hb
      replace Y := Y.keep hb
      replace NN := NN.keep hb
      replace hB := bt hB hb
      clear hb
      obtain ⟨c00, c01, c02, c03⟩ := Y.open2
      go_wp2_with fail
      refine (has_c _ _ _ _).mono ?_
      rw [g2.out]
      rintro e w6 ⟨rfl, hb⟩
      clear c00 c01 c02 c03
      replace X := X.keep hb
      replace Y := Y.keep hb
      replace NN := NN.keep hb
      replace hB := bt hB hb
      clear hb
      obtain ⟨c00, c01, c02, c03⟩ := X.open2
      obtain ⟨c10, c11, c12, c13⟩ := Y.open2
      go_wp2_with fail
      refine (add_ci _ _ _ _ _).mono ?_
      rw [c0.out]
      rintro e w7 ⟨rfl, hb⟩
      clear c00 c01 c02 c03 c10 c11 c12 c13
      replace X := X.keep hb
      replace Y := Y.keep hb
      replace NN := NN.keep hb
      replace hB := bt hB hb
      clear hb
      have hz7 := hB.size
      have l7X := X.lt
      have l7Y := Y.lt
      have l7NN := NN.lt
      replace X := X.alloc (.cells #[.int .i64 (Iv.add l h l' h').lo, .int .i64 (Iv.add l h l' h').hi] 23)
      replace Y := Y.alloc (.cells #[.int .i64 (Iv.add l h l' h').lo, .int .i64 (Iv.add l h l' h').hi] 23)
      replace NN := NN.alloc (.cells #[.int .i64 (Iv.add l h l' h').lo, .int .i64 (Iv.add l h l' h').hi] 23)
      replace hB := bal hB (.cells #[.int .i64 (Iv.add l h l' h').lo, .int .i64 (Iv.add l h l' h').hi] 23)
      have A := Blk.new w7 23 #[.int .i64 (Iv.add l h l' h').lo, .int .i64 (Iv.add l h l' h').hi]
      obtain ⟨c00, c01, c02, c03⟩ := X.open2
      obtain ⟨c10, c11, c12, c13⟩ := Y.open2
      obtain ⟨c20, c21, c22, c23⟩ := A.open2
      go_wp2_with fail
      refine (sub_ci _ _ _ _ _).mono ?_
      rw [hm1.out]
      rintro e w8 ⟨rfl, hb⟩
      clear c00 c01 c02 c03 c10 c11 c12 c13 c20 c21 c22 c23
      replace X := X.keep hb
      replace Y := Y.keep hb
      replace NN := NN.keep hb
      replace A := A.keep hb
      replace hB := bt hB hb
      clear hb
      have hz8 := hB.size
      have l8X := X.lt
      have l8Y := Y.lt
      have l8NN := NN.lt
      have l8A := A.lt
      replace X := X.alloc (.cells #[.int .i64 (Iv.sub l h l' h').lo, .int .i64 (Iv.sub l h l' h').hi] 23)
      replace Y := Y.alloc (.cells #[.int .i64 (Iv.sub l h l' h').lo, .int .i64 (Iv.sub l h l' h').hi] 23)
      replace NN := NN.alloc (.cells #[.int .i64 (Iv.sub l h l' h').lo, .int .i64 (Iv.sub l h l' h').hi] 23)
      replace A := A.alloc (.cells #[.int .i64 (Iv.sub l h l' h').lo, .int .i64 (Iv.sub l h l' h').hi] 23)
      replace hB := bal hB (.cells #[.int .i64 (Iv.sub l h l' h').lo, .int .i64 (Iv.sub l h l' h').hi] 23)
      have B := Blk.new w8 23 #[.int .i64 (Iv.sub l h l' h').lo, .int .i64 (Iv.sub l h l' h').hi]
      obtain ⟨c00, c01, c02, c03⟩ := X.open2
      obtain ⟨c10, c11, c12, c13⟩ := Y.open2
      obtain ⟨c20, c21, c22, c23⟩ := A.open2
      obtain ⟨c30, c31, c32, c33⟩ := B.open2
      go_wp2_with fail
      refine (mul_ci _ _ _ _ _).mono ?_
      rw [hm2.out]
      rintro e w9 ⟨rfl, hb⟩
      clear c00 c01 c02 c03 c10 c11 c12 c13 c20 c21 c22 c23 c30 c31 c32 c33
      replace X := X.keep hb
      replace Y := Y.keep hb
      replace NN := NN.keep hb
      replace A := A.keep hb
      replace B := B.keep hb
      replace hB := bt hB hb
      clear hb
      have hz9 := hB.size
      have l9X := X.lt
      have l9Y := Y.lt
      have l9NN := NN.lt
      have l9A := A.lt
      have l9B := B.lt
      replace X := X.alloc (.cells #[.int .i64 (Iv.mul l h l' h').lo, .int .i64 (Iv.mul l h l' h').hi] 23)
      replace Y := Y.alloc (.cells #[.int .i64 (Iv.mul l h l' h').lo, .int .i64 (Iv.mul l h l' h').hi] 23)
      replace NN := NN.alloc (.cells #[.int .i64 (Iv.mul l h l' h').lo, .int .i64 (Iv.mul l h l' h').hi] 23)
      replace A := A.alloc (.cells #[.int .i64 (Iv.mul l h l' h').lo, .int .i64 (Iv.mul l h l' h').hi] 23)
      replace B := B.alloc (.cells #[.int .i64 (Iv.mul l h l' h').lo, .int .i64 (Iv.mul l h l' h').hi] 23)
      replace hB := bal hB (.cells #[.int .i64 (Iv.mul l h l' h').lo, .int .i64 (Iv.mul l h l' h').hi] 23)
      have C := Blk.new w9 23 #[.int .i64 (Iv.mul l h l' h').lo, .int .i64 (Iv.mul l h l' h').hi]
      obtain ⟨c00, c01, c02, c03⟩ := A.open2
      obtain ⟨c10, c11, c12, c13⟩ := B.open2
      obtain ⟨c20, c21, c22, c23⟩ := C.open2
      go_wp2_with fail
      refine (has_c _ _ _ _).mono ?_
      rw [N0.out]
      rintro e w10 ⟨rfl, hb⟩
      clear c00 c01 c02 c03 c10 c11 c12 c13 c20 c21 c22 c23
      replace X := X.keep hb
      replace Y := Y.keep hb
      replace NN := NN.keep hb
      replace A := A.keep hb
      replace B := B.keep hb
      replace C := C.keep hb
      replace hB := bt hB hb
      clear hb
      obtain ⟨c00, c01, c02, c03⟩ := C.open2
      go_wp2_with fail
      refine (mul_c _ _ _ x1 x2 y1 y2).mono ?_
      rintro e w11 ⟨rfl, hb⟩
      clear c00 c01 c02 c03
      replace X := X.keep hb
      replace Y := Y.keep hb
      replace NN := NN.keep hb
      replace A := A.keep hb
      replace B := B.keep hb
      replace C := C.keep hb
      replace hB := bt hB hb
      clear hb
      obtain ⟨c00, c01, c02, c03⟩ := C.open2
      go_wp2_with fail
      refine (int_c _ _ _ _ mw).mono ?_
      rintro e w12 ⟨rfl, hb⟩
      clear c00 c01 c02 c03
      replace X := X.keep hb
      replace Y := Y.keep hb
      replace NN := NN.keep hb
      replace A := A.keep hb
      replace B := B.keep hb
      replace C := C.keep hb
      replace hB := bt hB hb
      clear hb
      go_wp2_with fail
      go_returns
      exact ⟨rfl, hB⟩
  · have e1 := Lib.hid (Iv.vb_yes v)
    have e2 := Lib.hid (Iv.vb_yes v2)
    have V1 := Lib.hid v
    have V2 := Lib.hid v2
    obtain ⟨mu, hx⟩ : ∃ u, Hid (Iv.mb l h n0 = u) := ⟨_, Lib.hid rfl⟩
    obtain ⟨mv, hy⟩ : ∃ u, Hid (Iv.mb l' h' n1 = u) := ⟨_, Lib.hid rfl⟩
    have hu := Iv.mb_in (n := n0) v
    have hv := Iv.mb_in (n := n1) v2
    rw [hx.out] at hu
    rw [hy.out] at hv
    have g1 := Lib.hid (Iv.hs_yes v hu.1 hu.2)
    have g2 := Lib.hid (Iv.hs_yes v2 hv.1 hv.2)
    have x1 : -9223372036854775808 ≤ mu := by unfold Iv.Vd at v; omega
    have x2 : mu ≤ 9223372036854775807 := by unfold Iv.Vd at v; omega
    have y1 : -9223372036854775808 ≤ mv := by unfold Iv.Vd at v2; omega
    have y2 : mv ≤ 9223372036854775807 := by unfold Iv.Vd at v2; omega
    have mw := Wi.wd_self (mul_W x1 x2 y1 y2)
    obtain ⟨m0, hm0⟩ : ∃ m, Hid ((Iv.add l h l' h').er = m) := ⟨_, Lib.hid rfl⟩
    rw [hm0.out] at c0
    have k0_ : (m0 == 0) = false := by simpa using c0
    have kk0_ : (m0 != 0) = true := by simpa using c0
    clear c0
    have N1 := Iv.sub_has hu hv c1
    have ew1 := IntWalk.i64_in (mu - mv) ⟨N1.2.1, N1.2.2⟩
    replace N1 := Lib.hid N1.1
    replace c1 := Lib.hid c1
    have N2 := Iv.mul_has hu hv c2
    have k1 := Lib.hid (Wi.ib_yes N2.2)
    have k2 := Lib.hid (Wi.iv_yes N2.2)
    replace N2 := Lib.hid N2.1
    replace c2 := Lib.hid c2
    clear v v2 hu hv
    go_enter Try.func9, Try.ntmps9
    have X := Blk.new w 23 #[.int .i64 (l), .int .i64 (h)]
    have hB := ba w (.cells #[.int .i64 (l), .int .i64 (h)] 23)
    have Y := Blk.new1 w (.cells #[.int .i64 (l), .int .i64 (h)] 23) 23 #[.int .i64 (l'), .int .i64 (h')]
    replace X := X.alloc (.cells #[.int .i64 (l'), .int .i64 (h')] 23)
    replace hB := bal hB (.cells #[.int .i64 (l'), .int .i64 (h')] 23)
    have NN := Blk.new2 w (.cells #[.int .i64 (l), .int .i64 (h)] 23) (.cells #[.int .i64 (l'), .int .i64 (h')] 23) 45 #[.int .u64 n0, .int .u64 n1]
    replace X := X.alloc (.cells #[.int .u64 n0, .int .u64 n1] 45)
    replace Y := Y.alloc (.cells #[.int .u64 n0, .int .u64 n1] 45)
    replace hB := bal hB (.cells #[.int .u64 n0, .int .u64 n1] 45)
    go_wp2_with fail
    refine (awake_ci _).mono ?_
    rintro e w1 ⟨rfl, hb⟩
    replace X := X.keep hb
    replace Y := Y.keep hb
    replace NN := NN.keep hb
    replace hB := bt hB hb
    clear hb
    obtain ⟨c00, c01, c02, c03⟩ := X.open2
    go_wp2_with fail
    refine (valid_c _ _ _).mono ?_
    rw [e1.out]
    rintro e w2 ⟨rfl, hb⟩
    clear c00 c01 c02 c03
    replace X := X.keep hb
    replace Y := Y.keep hb
    replace NN := NN.keep hb
    replace hB := bt hB hb
    clear hb
    obtain ⟨c00, c01, c02, c03⟩ := Y.open2
    go_wp2_with fail
    refine (valid_c _ _ _).mono ?_
    rw [e2.out]
    rintro e w3 ⟨rfl, hb⟩
    clear c00 c01 c02 c03
    replace X := X.keep hb
    replace Y := Y.keep hb
    replace NN := NN.keep hb
    replace hB := bt hB hb
    clear hb
    go_wp2_with fail
    refine wp_region_inv (fun L x G wx => Below w.heap.size w wx
          ∧ w.heap.size < wx.heap.size
          ∧ Blk wx (w.heap.size) 23 #[.int .i64 (l), .int .i64 (h)]
          ∧ w.heap.size + 1 < wx.heap.size
          ∧ Blk wx (w.heap.size + 1) 23 #[.int .i64 (l'), .int .i64 (h')]
          ∧ w.heap.size + 1 + 1 < wx.heap.size
          ∧ Blk wx (w.heap.size + 1 + 1) 45 #[.int .u64 n0, .int .u64 n1]
          ∧ (L 0 → x 37 = .agg #[.int .i64 (l), .int .i64 (h)])
          ∧ (L 1 → x 38 = .pointer (some ⟨w.heap.size + 1 + 1, 0, none⟩))
          ∧ (L 2 → x 39 = .int .u64 n0)
          ∧ (L 3 → x 40 = .int .i64 (mu))
          ∧ (L 4 → x 41 = .agg #[.int .i64 (l'), .int .i64 (h')])
          ∧ (L 5 → x 42 = .pointer (some ⟨w.heap.size + 1 + 1, 1, none⟩))
          ∧ (L 6 → x 43 = .int .u64 n1)
          ∧ (L 7 → x 44 = .int .i64 (mv))
          ∧ (L 8 → x 9 = .int .i64 (mu))
          ∧ (L 9 → x 10 = .int .i64 (mv))) [37, 38, 39, 40, 41, 42, 43, 44, 9, 10] 10 (by kernel_rfl) (by kernel_rfl) (by kernel_rfl) ?h0 ?st ?fin
    case h0 =>
      exact ⟨bdr hB, Blk.lt X.drew, X.drew, Blk.lt Y.drew, Y.drew, Blk.lt NN.drew, NN.drew, fun q => q.elim, fun q => q.elim, fun q => q.elim, fun q => q.elim, fun q => q.elim, fun q => q.elim, fun q => q.elim, fun q => q.elim, fun q => q.elim, fun q => q.elim⟩
    case st =>
      refine StepsOk.cons (i := 0) rfl (fun L x G w1 K Q hn hp hJ hK => ?_) ?_
      · skip
        have hc := Blk.open2 ((hJ.2.2.1))
        have c0 := hc.1
        have c1 := hc.2.1
        have c2 := hc.2.2.1
        have c3 := hc.2.2.2
        clear hc
        simp only [putAll, Act.put, List.setIfInBounds_toArray, List.set_cons_zero, List.set_cons_succ]
        go_simp
        refine hK _ G _ (by kernel_rfl) ?_
        exact ⟨(hJ.1),
          (hJ.2.1),
          (hJ.2.2.1),
          (hJ.2.2.2.1),
          (hJ.2.2.2.2.1),
          (hJ.2.2.2.2.2.1),
          (hJ.2.2.2.2.2.2.1),
          fun _ => rfl,
          fun q => (hJ.2.2.2.2.2.2.2.2.1) (q.resolve_left (by decide)),
          fun q => (hJ.2.2.2.2.2.2.2.2.2.1) (q.resolve_left (by decide)),
          fun q => (hJ.2.2.2.2.2.2.2.2.2.2.1) (q.resolve_left (by decide)),
          fun q => (hJ.2.2.2.2.2.2.2.2.2.2.2.1) (q.resolve_left (by decide)),
          fun q => (hJ.2.2.2.2.2.2.2.2.2.2.2.2.1) (q.resolve_left (by decide)),
          fun q => (hJ.2.2.2.2.2.2.2.2.2.2.2.2.2.1) (q.resolve_left (by decide)),
          fun q => (hJ.2.2.2.2.2.2.2.2.2.2.2.2.2.2.1) (q.resolve_left (by decide)),
          fun q => (hJ.2.2.2.2.2.2.2.2.2.2.2.2.2.2.2.1) (q.resolve_left (by decide)),
          fun q => (hJ.2.2.2.2.2.2.2.2.2.2.2.2.2.2.2.2) (q.resolve_left (by decide))⟩
      refine StepsOk.cons (i := 1) rfl (fun L x G w1 K Q hn hp hJ hK => ?_) ?_
      · skip
        simp only [putAll, Act.put, List.setIfInBounds_toArray, List.set_cons_zero, List.set_cons_succ]
        go_simp
        refine hK _ G _ (by kernel_rfl) ?_
        exact ⟨(hJ.1),
          (hJ.2.1),
          (hJ.2.2.1),
          (hJ.2.2.2.1),
          (hJ.2.2.2.2.1),
          (hJ.2.2.2.2.2.1),
          (hJ.2.2.2.2.2.2.1),
          fun q => (hJ.2.2.2.2.2.2.2.1) (q.resolve_left (by decide)),
          fun _ => rfl,
          fun q => (hJ.2.2.2.2.2.2.2.2.2.1) (q.resolve_left (by decide)),
          fun q => (hJ.2.2.2.2.2.2.2.2.2.2.1) (q.resolve_left (by decide)),
          fun q => (hJ.2.2.2.2.2.2.2.2.2.2.2.1) (q.resolve_left (by decide)),
          fun q => (hJ.2.2.2.2.2.2.2.2.2.2.2.2.1) (q.resolve_left (by decide)),
          fun q => (hJ.2.2.2.2.2.2.2.2.2.2.2.2.2.1) (q.resolve_left (by decide)),
          fun q => (hJ.2.2.2.2.2.2.2.2.2.2.2.2.2.2.1) (q.resolve_left (by decide)),
          fun q => (hJ.2.2.2.2.2.2.2.2.2.2.2.2.2.2.2.1) (q.resolve_left (by decide)),
          fun q => (hJ.2.2.2.2.2.2.2.2.2.2.2.2.2.2.2.2) (q.resolve_left (by decide))⟩
      refine StepsOk.cons (i := 2) rfl (fun L x G w1 K Q hn hp hJ hK => ?_) ?_
      · skip
        have p1 : L 1 := hp ⟨1, .data⟩ (by simp) rfl
        have e1 := (hJ.2.2.2.2.2.2.2.2.1) p1
        have hc := Blk.open2 ((hJ.2.2.2.2.2.2.1))
        have c0 := hc.1
        have c1 := hc.2.1
        have c2 := hc.2.2.1
        have c3 := hc.2.2.2
        clear hc
        simp only [putAll, Act.put, List.setIfInBounds_toArray, List.set_cons_zero, List.set_cons_succ]
        go_simp
        refine hK _ G _ (by kernel_rfl) ?_
        exact ⟨(hJ.1),
          (hJ.2.1),
          (hJ.2.2.1),
          (hJ.2.2.2.1),
          (hJ.2.2.2.2.1),
          (hJ.2.2.2.2.2.1),
          (hJ.2.2.2.2.2.2.1),
          fun q => (hJ.2.2.2.2.2.2.2.1) (q.resolve_left (by decide)),
          fun _ => by first | exact rfl | exact e1,
          fun _ => rfl,
          fun q => (hJ.2.2.2.2.2.2.2.2.2.2.1) (q.resolve_left (by decide)),
          fun q => (hJ.2.2.2.2.2.2.2.2.2.2.2.1) (q.resolve_left (by decide)),
          fun q => (hJ.2.2.2.2.2.2.2.2.2.2.2.2.1) (q.resolve_left (by decide)),
          fun q => (hJ.2.2.2.2.2.2.2.2.2.2.2.2.2.1) (q.resolve_left (by decide)),
          fun q => (hJ.2.2.2.2.2.2.2.2.2.2.2.2.2.2.1) (q.resolve_left (by decide)),
          fun q => (hJ.2.2.2.2.2.2.2.2.2.2.2.2.2.2.2.1) (q.resolve_left (by decide)),
          fun q => (hJ.2.2.2.2.2.2.2.2.2.2.2.2.2.2.2.2) (q.resolve_left (by decide))⟩
      refine StepsOk.cons (i := 3) rfl (fun L x G w1 K Q hn hp hJ hK => ?_) ?_
      · skip
        have p0 : L 0 := hp ⟨0, .data⟩ (by simp) rfl
        have e0 := (hJ.2.2.2.2.2.2.2.1) p0
        have p2 : L 2 := hp ⟨2, .data⟩ (by simp) rfl
        have e2 := (hJ.2.2.2.2.2.2.2.2.2.1) p2
        simp only [putAll, Act.put, List.setIfInBounds_toArray, List.set_cons_zero, List.set_cons_succ]
        go_simp
        refine (member_c _ _ _ _ V1.out a1 a2).mono ?_
        rw [hx.out]
        rintro e w2 ⟨rfl, hb⟩
        have hz := hb.size
        try go_simp
        refine hK _ G _ (by kernel_rfl) ?_
        exact ⟨bt (hJ.1) hb,
          Nat.lt_of_lt_of_le (hJ.2.1) hb.size,
          Blk.keep ((hJ.2.2.1)) hb,
          Nat.lt_of_lt_of_le (hJ.2.2.2.1) hb.size,
          Blk.keep ((hJ.2.2.2.2.1)) hb,
          Nat.lt_of_lt_of_le (hJ.2.2.2.2.2.1) hb.size,
          Blk.keep ((hJ.2.2.2.2.2.2.1)) hb,
          fun _ => by first | exact rfl | exact e0,
          fun q => (hJ.2.2.2.2.2.2.2.2.1) (q.resolve_left (by decide)),
          fun _ => by first | exact rfl | exact e2,
          fun _ => rfl,
          fun q => (hJ.2.2.2.2.2.2.2.2.2.2.2.1) (q.resolve_left (by decide)),
          fun q => (hJ.2.2.2.2.2.2.2.2.2.2.2.2.1) (q.resolve_left (by decide)),
          fun q => (hJ.2.2.2.2.2.2.2.2.2.2.2.2.2.1) (q.resolve_left (by decide)),
          fun q => (hJ.2.2.2.2.2.2.2.2.2.2.2.2.2.2.1) (q.resolve_left (by decide)),
          fun q => (hJ.2.2.2.2.2.2.2.2.2.2.2.2.2.2.2.1) (q.resolve_left (by decide)),
          fun q => (hJ.2.2.2.2.2.2.2.2.2.2.2.2.2.2.2.2) (q.resolve_left (by decide))⟩
      refine StepsOk.cons (i := 4) rfl (fun L x G w1 K Q hn hp hJ hK => ?_) ?_
      · skip
        have hc := Blk.open2 ((hJ.2.2.2.2.1))
        have c0 := hc.1
        have c1 := hc.2.1
        have c2 := hc.2.2.1
        have c3 := hc.2.2.2
        clear hc
        simp only [putAll, Act.put, List.setIfInBounds_toArray, List.set_cons_zero, List.set_cons_succ]
        go_simp
        refine hK _ G _ (by kernel_rfl) ?_
        exact ⟨(hJ.1),
          (hJ.2.1),
          (hJ.2.2.1),
          (hJ.2.2.2.1),
          (hJ.2.2.2.2.1),
          (hJ.2.2.2.2.2.1),
          (hJ.2.2.2.2.2.2.1),
          fun q => (hJ.2.2.2.2.2.2.2.1) (q.resolve_left (by decide)),
          fun q => (hJ.2.2.2.2.2.2.2.2.1) (q.resolve_left (by decide)),
          fun q => (hJ.2.2.2.2.2.2.2.2.2.1) (q.resolve_left (by decide)),
          fun q => (hJ.2.2.2.2.2.2.2.2.2.2.1) (q.resolve_left (by decide)),
          fun _ => rfl,
          fun q => (hJ.2.2.2.2.2.2.2.2.2.2.2.2.1) (q.resolve_left (by decide)),
          fun q => (hJ.2.2.2.2.2.2.2.2.2.2.2.2.2.1) (q.resolve_left (by decide)),
          fun q => (hJ.2.2.2.2.2.2.2.2.2.2.2.2.2.2.1) (q.resolve_left (by decide)),
          fun q => (hJ.2.2.2.2.2.2.2.2.2.2.2.2.2.2.2.1) (q.resolve_left (by decide)),
          fun q => (hJ.2.2.2.2.2.2.2.2.2.2.2.2.2.2.2.2) (q.resolve_left (by decide))⟩
      refine StepsOk.cons (i := 5) rfl (fun L x G w1 K Q hn hp hJ hK => ?_) ?_
      · skip
        simp only [putAll, Act.put, List.setIfInBounds_toArray, List.set_cons_zero, List.set_cons_succ]
        go_simp
        refine hK _ G _ (by kernel_rfl) ?_
        exact ⟨(hJ.1),
          (hJ.2.1),
          (hJ.2.2.1),
          (hJ.2.2.2.1),
          (hJ.2.2.2.2.1),
          (hJ.2.2.2.2.2.1),
          (hJ.2.2.2.2.2.2.1),
          fun q => (hJ.2.2.2.2.2.2.2.1) (q.resolve_left (by decide)),
          fun q => (hJ.2.2.2.2.2.2.2.2.1) (q.resolve_left (by decide)),
          fun q => (hJ.2.2.2.2.2.2.2.2.2.1) (q.resolve_left (by decide)),
          fun q => (hJ.2.2.2.2.2.2.2.2.2.2.1) (q.resolve_left (by decide)),
          fun q => (hJ.2.2.2.2.2.2.2.2.2.2.2.1) (q.resolve_left (by decide)),
          fun _ => rfl,
          fun q => (hJ.2.2.2.2.2.2.2.2.2.2.2.2.2.1) (q.resolve_left (by decide)),
          fun q => (hJ.2.2.2.2.2.2.2.2.2.2.2.2.2.2.1) (q.resolve_left (by decide)),
          fun q => (hJ.2.2.2.2.2.2.2.2.2.2.2.2.2.2.2.1) (q.resolve_left (by decide)),
          fun q => (hJ.2.2.2.2.2.2.2.2.2.2.2.2.2.2.2.2) (q.resolve_left (by decide))⟩
      refine StepsOk.cons (i := 6) rfl (fun L x G w1 K Q hn hp hJ hK => ?_) ?_
      · skip
        have p5 : L 5 := hp ⟨5, .data⟩ (by simp) rfl
        have e5 := (hJ.2.2.2.2.2.2.2.2.2.2.2.2.1) p5
        have hc := Blk.open2 ((hJ.2.2.2.2.2.2.1))
        have c0 := hc.1
        have c1 := hc.2.1
        have c2 := hc.2.2.1
        have c3 := hc.2.2.2
        clear hc
        simp only [putAll, Act.put, List.setIfInBounds_toArray, List.set_cons_zero, List.set_cons_succ]
        go_simp
        refine hK _ G _ (by kernel_rfl) ?_
        exact ⟨(hJ.1),
          (hJ.2.1),
          (hJ.2.2.1),
          (hJ.2.2.2.1),
          (hJ.2.2.2.2.1),
          (hJ.2.2.2.2.2.1),
          (hJ.2.2.2.2.2.2.1),
          fun q => (hJ.2.2.2.2.2.2.2.1) (q.resolve_left (by decide)),
          fun q => (hJ.2.2.2.2.2.2.2.2.1) (q.resolve_left (by decide)),
          fun q => (hJ.2.2.2.2.2.2.2.2.2.1) (q.resolve_left (by decide)),
          fun q => (hJ.2.2.2.2.2.2.2.2.2.2.1) (q.resolve_left (by decide)),
          fun q => (hJ.2.2.2.2.2.2.2.2.2.2.2.1) (q.resolve_left (by decide)),
          fun _ => by first | exact rfl | exact e5,
          fun _ => rfl,
          fun q => (hJ.2.2.2.2.2.2.2.2.2.2.2.2.2.2.1) (q.resolve_left (by decide)),
          fun q => (hJ.2.2.2.2.2.2.2.2.2.2.2.2.2.2.2.1) (q.resolve_left (by decide)),
          fun q => (hJ.2.2.2.2.2.2.2.2.2.2.2.2.2.2.2.2) (q.resolve_left (by decide))⟩
      refine StepsOk.cons (i := 7) rfl (fun L x G w1 K Q hn hp hJ hK => ?_) ?_
      · skip
        have p4 : L 4 := hp ⟨4, .data⟩ (by simp) rfl
        have e4 := (hJ.2.2.2.2.2.2.2.2.2.2.2.1) p4
        have p6 : L 6 := hp ⟨6, .data⟩ (by simp) rfl
        have e6 := (hJ.2.2.2.2.2.2.2.2.2.2.2.2.2.1) p6
        simp only [putAll, Act.put, List.setIfInBounds_toArray, List.set_cons_zero, List.set_cons_succ]
        go_simp
        refine (member_c _ _ _ _ V2.out b1 b2).mono ?_
        rw [hy.out]
        rintro e w2 ⟨rfl, hb⟩
        have hz := hb.size
        try go_simp
        refine hK _ G _ (by kernel_rfl) ?_
        exact ⟨bt (hJ.1) hb,
          Nat.lt_of_lt_of_le (hJ.2.1) hb.size,
          Blk.keep ((hJ.2.2.1)) hb,
          Nat.lt_of_lt_of_le (hJ.2.2.2.1) hb.size,
          Blk.keep ((hJ.2.2.2.2.1)) hb,
          Nat.lt_of_lt_of_le (hJ.2.2.2.2.2.1) hb.size,
          Blk.keep ((hJ.2.2.2.2.2.2.1)) hb,
          fun q => (hJ.2.2.2.2.2.2.2.1) (q.resolve_left (by decide)),
          fun q => (hJ.2.2.2.2.2.2.2.2.1) (q.resolve_left (by decide)),
          fun q => (hJ.2.2.2.2.2.2.2.2.2.1) (q.resolve_left (by decide)),
          fun q => (hJ.2.2.2.2.2.2.2.2.2.2.1) (q.resolve_left (by decide)),
          fun _ => by first | exact rfl | exact e4,
          fun q => (hJ.2.2.2.2.2.2.2.2.2.2.2.2.1) (q.resolve_left (by decide)),
          fun _ => by first | exact rfl | exact e6,
          fun _ => rfl,
          fun q => (hJ.2.2.2.2.2.2.2.2.2.2.2.2.2.2.2.1) (q.resolve_left (by decide)),
          fun q => (hJ.2.2.2.2.2.2.2.2.2.2.2.2.2.2.2.2) (q.resolve_left (by decide))⟩
      refine StepsOk.cons (i := 8) rfl (fun L x G w1 K Q hn hp hJ hK => ?_) ?_
      · skip
        have p3 : L 3 := hp ⟨3, .data⟩ (by simp) rfl
        have e3 := (hJ.2.2.2.2.2.2.2.2.2.2.1) p3
        simp only [putAll, Act.put, List.setIfInBounds_toArray, List.set_cons_zero, List.set_cons_succ]
        go_simp
        refine hK _ G _ (by kernel_rfl) ?_
        exact ⟨(hJ.1),
          (hJ.2.1),
          (hJ.2.2.1),
          (hJ.2.2.2.1),
          (hJ.2.2.2.2.1),
          (hJ.2.2.2.2.2.1),
          (hJ.2.2.2.2.2.2.1),
          fun q => (hJ.2.2.2.2.2.2.2.1) (q.resolve_left (by decide)),
          fun q => (hJ.2.2.2.2.2.2.2.2.1) (q.resolve_left (by decide)),
          fun q => (hJ.2.2.2.2.2.2.2.2.2.1) (q.resolve_left (by decide)),
          fun _ => by first | exact rfl | exact e3,
          fun q => (hJ.2.2.2.2.2.2.2.2.2.2.2.1) (q.resolve_left (by decide)),
          fun q => (hJ.2.2.2.2.2.2.2.2.2.2.2.2.1) (q.resolve_left (by decide)),
          fun q => (hJ.2.2.2.2.2.2.2.2.2.2.2.2.2.1) (q.resolve_left (by decide)),
          fun q => (hJ.2.2.2.2.2.2.2.2.2.2.2.2.2.2.1) (q.resolve_left (by decide)),
          fun _ => rfl,
          fun q => (hJ.2.2.2.2.2.2.2.2.2.2.2.2.2.2.2.2) (q.resolve_left (by decide))⟩
      refine StepsOk.cons (i := 9) rfl (fun L x G w1 K Q hn hp hJ hK => ?_) ?_
      · skip
        have p7 : L 7 := hp ⟨7, .data⟩ (by simp) rfl
        have e7 := (hJ.2.2.2.2.2.2.2.2.2.2.2.2.2.2.1) p7
        simp only [putAll, Act.put, List.setIfInBounds_toArray, List.set_cons_zero, List.set_cons_succ]
        go_simp
        refine hK _ G _ (by kernel_rfl) ?_
        exact ⟨(hJ.1),
          (hJ.2.1),
          (hJ.2.2.1),
          (hJ.2.2.2.1),
          (hJ.2.2.2.2.1),
          (hJ.2.2.2.2.2.1),
          (hJ.2.2.2.2.2.2.1),
          fun q => (hJ.2.2.2.2.2.2.2.1) (q.resolve_left (by decide)),
          fun q => (hJ.2.2.2.2.2.2.2.2.1) (q.resolve_left (by decide)),
          fun q => (hJ.2.2.2.2.2.2.2.2.2.1) (q.resolve_left (by decide)),
          fun q => (hJ.2.2.2.2.2.2.2.2.2.2.1) (q.resolve_left (by decide)),
          fun q => (hJ.2.2.2.2.2.2.2.2.2.2.2.1) (q.resolve_left (by decide)),
          fun q => (hJ.2.2.2.2.2.2.2.2.2.2.2.2.1) (q.resolve_left (by decide)),
          fun q => (hJ.2.2.2.2.2.2.2.2.2.2.2.2.2.1) (q.resolve_left (by decide)),
          fun _ => by first | exact rfl | exact e7,
          fun q => (hJ.2.2.2.2.2.2.2.2.2.2.2.2.2.2.2.1) (q.resolve_left (by decide)),
          fun _ => rfl⟩
      exact StepsOk.nil
    case fin =>
      intro L x G w4 hall hJ
      replace X := (hJ.2.2.1)
      replace Y := (hJ.2.2.2.2.1)
      replace NN := (hJ.2.2.2.2.2.2.1)
      have u0 := hJ.2.2.2.2.2.2.2.1 (hall 0 (by decide))
      have u1 := hJ.2.2.2.2.2.2.2.2.1 (hall 1 (by decide))
      have u2 := hJ.2.2.2.2.2.2.2.2.2.1 (hall 2 (by decide))
      have u3 := hJ.2.2.2.2.2.2.2.2.2.2.1 (hall 3 (by decide))
      have u4 := hJ.2.2.2.2.2.2.2.2.2.2.2.1 (hall 4 (by decide))
      have u5 := hJ.2.2.2.2.2.2.2.2.2.2.2.2.1 (hall 5 (by decide))
      have u6 := hJ.2.2.2.2.2.2.2.2.2.2.2.2.2.1 (hall 6 (by decide))
      have u7 := hJ.2.2.2.2.2.2.2.2.2.2.2.2.2.2.1 (hall 7 (by decide))
      have u8 := hJ.2.2.2.2.2.2.2.2.2.2.2.2.2.2.2.1 (hall 8 (by decide))
      have u9 := hJ.2.2.2.2.2.2.2.2.2.2.2.2.2.2.2.2 (hall 9 (by decide))
      replace hB := hJ.1
      simp only [putAll, Act.put, List.setIfInBounds_toArray, List.set_cons_zero, List.set_cons_succ]
      simp only [u0, u1, u2, u3, u4, u5, u6, u7, u8, u9]
      clear hall hJ u0 u1 u2 u3 u4 u5 u6 u7 u8 u9
      obtain ⟨c00, c01, c02, c03⟩ := X.open2
      go_wp2_with fail
      refine (has_c _ _ _ _).mono ?_
      rw [g1.out]
      rintro e w5 ⟨rfl, hb⟩
      clear c00 c01 c02 c03
      replace X := X.keep hb
      replace Y := Y.keep hb
      replace NN := NN.keep hb
      replace hB := bt hB hb
      clear hb
      obtain ⟨c00, c01, c02, c03⟩ := Y.open2
      go_wp2_with fail
      refine (has_c _ _ _ _).mono ?_
      rw [g2.out]
      rintro e w6 ⟨rfl, hb⟩
      clear c00 c01 c02 c03
      replace X := X.keep hb
      replace Y := Y.keep hb
      replace NN := NN.keep hb
      replace hB := bt hB hb
      clear hb
      obtain ⟨c00, c01, c02, c03⟩ := X.open2
      obtain ⟨c10, c11, c12, c13⟩ := Y.open2
      go_wp2_with fail
      refine (add_ci _ _ _ _ _).mono ?_
      rw [hm0.out]
      rintro e w7 ⟨rfl, hb⟩
      clear c00 c01 c02 c03 c10 c11 c12 c13
      replace X := X.keep hb
      replace Y := Y.keep hb
      replace NN := NN.keep hb
      replace hB := bt hB hb
      clear hb
      have hz7 := hB.size
      have l7X := X.lt
      have l7Y := Y.lt
      have l7NN := NN.lt
      replace X := X.alloc (.cells #[.int .i64 (Iv.add l h l' h').lo, .int .i64 (Iv.add l h l' h').hi] 23)
      replace Y := Y.alloc (.cells #[.int .i64 (Iv.add l h l' h').lo, .int .i64 (Iv.add l h l' h').hi] 23)
      replace NN := NN.alloc (.cells #[.int .i64 (Iv.add l h l' h').lo, .int .i64 (Iv.add l h l' h').hi] 23)
      replace hB := bal hB (.cells #[.int .i64 (Iv.add l h l' h').lo, .int .i64 (Iv.add l h l' h').hi] 23)
      have A := Blk.new w7 23 #[.int .i64 (Iv.add l h l' h').lo, .int .i64 (Iv.add l h l' h').hi]
      obtain ⟨c00, c01, c02, c03⟩ := X.open2
      obtain ⟨c10, c11, c12, c13⟩ := Y.open2
      obtain ⟨c20, c21, c22, c23⟩ := A.open2
      go_wp2_with fail
      refine (sub_ci _ _ _ _ _).mono ?_
      rw [c1.out]
      rintro e w8 ⟨rfl, hb⟩
      clear c00 c01 c02 c03 c10 c11 c12 c13 c20 c21 c22 c23
      replace X := X.keep hb
      replace Y := Y.keep hb
      replace NN := NN.keep hb
      replace A := A.keep hb
      replace hB := bt hB hb
      clear hb
      have hz8 := hB.size
      have l8X := X.lt
      have l8Y := Y.lt
      have l8NN := NN.lt
      have l8A := A.lt
      replace X := X.alloc (.cells #[.int .i64 (Iv.sub l h l' h').lo, .int .i64 (Iv.sub l h l' h').hi] 23)
      replace Y := Y.alloc (.cells #[.int .i64 (Iv.sub l h l' h').lo, .int .i64 (Iv.sub l h l' h').hi] 23)
      replace NN := NN.alloc (.cells #[.int .i64 (Iv.sub l h l' h').lo, .int .i64 (Iv.sub l h l' h').hi] 23)
      replace A := A.alloc (.cells #[.int .i64 (Iv.sub l h l' h').lo, .int .i64 (Iv.sub l h l' h').hi] 23)
      replace hB := bal hB (.cells #[.int .i64 (Iv.sub l h l' h').lo, .int .i64 (Iv.sub l h l' h').hi] 23)
      have B := Blk.new w8 23 #[.int .i64 (Iv.sub l h l' h').lo, .int .i64 (Iv.sub l h l' h').hi]
      obtain ⟨c00, c01, c02, c03⟩ := X.open2
      obtain ⟨c10, c11, c12, c13⟩ := Y.open2
      obtain ⟨c20, c21, c22, c23⟩ := A.open2
      obtain ⟨c30, c31, c32, c33⟩ := B.open2
      go_wp2_with fail
      refine (mul_ci _ _ _ _ _).mono ?_
      rw [c2.out]
      rintro e w9 ⟨rfl, hb⟩
      clear c00 c01 c02 c03 c10 c11 c12 c13 c20 c21 c22 c23 c30 c31 c32 c33
      replace X := X.keep hb
      replace Y := Y.keep hb
      replace NN := NN.keep hb
      replace A := A.keep hb
      replace B := B.keep hb
      replace hB := bt hB hb
      clear hb
      have hz9 := hB.size
      have l9X := X.lt
      have l9Y := Y.lt
      have l9NN := NN.lt
      have l9A := A.lt
      have l9B := B.lt
      replace X := X.alloc (.cells #[.int .i64 (Iv.mul l h l' h').lo, .int .i64 (Iv.mul l h l' h').hi] 23)
      replace Y := Y.alloc (.cells #[.int .i64 (Iv.mul l h l' h').lo, .int .i64 (Iv.mul l h l' h').hi] 23)
      replace NN := NN.alloc (.cells #[.int .i64 (Iv.mul l h l' h').lo, .int .i64 (Iv.mul l h l' h').hi] 23)
      replace A := A.alloc (.cells #[.int .i64 (Iv.mul l h l' h').lo, .int .i64 (Iv.mul l h l' h').hi] 23)
      replace B := B.alloc (.cells #[.int .i64 (Iv.mul l h l' h').lo, .int .i64 (Iv.mul l h l' h').hi] 23)
      replace hB := bal hB (.cells #[.int .i64 (Iv.mul l h l' h').lo, .int .i64 (Iv.mul l h l' h').hi] 23)
      have C := Blk.new w9 23 #[.int .i64 (Iv.mul l h l' h').lo, .int .i64 (Iv.mul l h l' h').hi]
      obtain ⟨c00, c01, c02, c03⟩ := A.open2
      obtain ⟨c10, c11, c12, c13⟩ := B.open2
      obtain ⟨c20, c21, c22, c23⟩ := C.open2
      go_wp2_with fail
      refine (has_c _ _ _ _).mono ?_
      rw [N1.out]
      rintro e w10 ⟨rfl, hb⟩
      clear c00 c01 c02 c03 c10 c11 c12 c13 c20 c21 c22 c23
      replace X := X.keep hb
      replace Y := Y.keep hb
      replace NN := NN.keep hb
      replace A := A.keep hb
      replace B := B.keep hb
      replace C := C.keep hb
      replace hB := bt hB hb
      clear hb
      obtain ⟨c00, c01, c02, c03⟩ := C.open2
      go_wp2_with fail
      refine (mul_c _ _ _ x1 x2 y1 y2).mono ?_
      rintro e w11 ⟨rfl, hb⟩
      clear c00 c01 c02 c03
      replace X := X.keep hb
      replace Y := Y.keep hb
      replace NN := NN.keep hb
      replace A := A.keep hb
      replace B := B.keep hb
      replace C := C.keep hb
      replace hB := bt hB hb
      clear hb
      obtain ⟨c00, c01, c02, c03⟩ := C.open2
      go_wp2_with fail
      refine (int_c _ _ _ _ mw).mono ?_
      rw [k1.out, k2.out]
      rintro e w12 ⟨rfl, hb⟩
      clear c00 c01 c02 c03
      replace X := X.keep hb
      replace Y := Y.keep hb
      replace NN := NN.keep hb
      replace A := A.keep hb
      replace B := B.keep hb
      replace C := C.keep hb
      replace hB := bt hB hb
      clear hb
      obtain ⟨c00, c01, c02, c03⟩ := C.open2
      go_wp2_with fail
      refine (has_c _ _ _ _).mono ?_
      rw [N2.out]
      rintro e w13 ⟨rfl, hb⟩
      clear c00 c01 c02 c03
      replace X := X.keep hb
      replace Y := Y.keep hb
      replace NN := NN.keep hb
      replace A := A.keep hb
      replace B := B.keep hb
      replace C := C.keep hb
      replace hB := bt hB hb
      clear hb
      go_wp2_with fail
      go_returns
      exact ⟨rfl, hB⟩
  · have e1 := Lib.hid (Iv.vb_yes v)
    have e2 := Lib.hid (Iv.vb_yes v2)
    have V1 := Lib.hid v
    have V2 := Lib.hid v2
    obtain ⟨mu, hx⟩ : ∃ u, Hid (Iv.mb l h n0 = u) := ⟨_, Lib.hid rfl⟩
    obtain ⟨mv, hy⟩ : ∃ u, Hid (Iv.mb l' h' n1 = u) := ⟨_, Lib.hid rfl⟩
    have hu := Iv.mb_in (n := n0) v
    have hv := Iv.mb_in (n := n1) v2
    rw [hx.out] at hu
    rw [hy.out] at hv
    have g1 := Lib.hid (Iv.hs_yes v hu.1 hu.2)
    have g2 := Lib.hid (Iv.hs_yes v2 hv.1 hv.2)
    have x1 : -9223372036854775808 ≤ mu := by unfold Iv.Vd at v; omega
    have x2 : mu ≤ 9223372036854775807 := by unfold Iv.Vd at v; omega
    have y1 : -9223372036854775808 ≤ mv := by unfold Iv.Vd at v2; omega
    have y2 : mv ≤ 9223372036854775807 := by unfold Iv.Vd at v2; omega
    have mw := Wi.wd_self (mul_W x1 x2 y1 y2)
    obtain ⟨m0, hm0⟩ : ∃ m, Hid ((Iv.add l h l' h').er = m) := ⟨_, Lib.hid rfl⟩
    rw [hm0.out] at c0
    have k0_ : (m0 == 0) = false := by simpa using c0
    have kk0_ : (m0 != 0) = true := by simpa using c0
    clear c0
    have N1 := Iv.sub_has hu hv c1
    have ew1 := IntWalk.i64_in (mu - mv) ⟨N1.2.1, N1.2.2⟩
    replace N1 := Lib.hid N1.1
    replace c1 := Lib.hid c1
    obtain ⟨m2, hm2⟩ : ∃ m, Hid ((Iv.mul l h l' h').er = m) := ⟨_, Lib.hid rfl⟩
    rw [hm2.out] at c2
    have k2_ : (m2 == 0) = false := by simpa using c2
    have kk2_ : (m2 != 0) = true := by simpa using c2
    clear c2
    clear v v2 hu hv
    go_enter Try.func9, Try.ntmps9
    have X := Blk.new w 23 #[.int .i64 (l), .int .i64 (h)]
    have hB := ba w (.cells #[.int .i64 (l), .int .i64 (h)] 23)
    have Y := Blk.new1 w (.cells #[.int .i64 (l), .int .i64 (h)] 23) 23 #[.int .i64 (l'), .int .i64 (h')]
    replace X := X.alloc (.cells #[.int .i64 (l'), .int .i64 (h')] 23)
    replace hB := bal hB (.cells #[.int .i64 (l'), .int .i64 (h')] 23)
    have NN := Blk.new2 w (.cells #[.int .i64 (l), .int .i64 (h)] 23) (.cells #[.int .i64 (l'), .int .i64 (h')] 23) 45 #[.int .u64 n0, .int .u64 n1]
    replace X := X.alloc (.cells #[.int .u64 n0, .int .u64 n1] 45)
    replace Y := Y.alloc (.cells #[.int .u64 n0, .int .u64 n1] 45)
    replace hB := bal hB (.cells #[.int .u64 n0, .int .u64 n1] 45)
    go_wp2_with fail
    refine (awake_ci _).mono ?_
    rintro e w1 ⟨rfl, hb⟩
    replace X := X.keep hb
    replace Y := Y.keep hb
    replace NN := NN.keep hb
    replace hB := bt hB hb
    clear hb
    obtain ⟨c00, c01, c02, c03⟩ := X.open2
    go_wp2_with fail
    refine (valid_c _ _ _).mono ?_
    rw [e1.out]
    rintro e w2 ⟨rfl, hb⟩
    clear c00 c01 c02 c03
    replace X := X.keep hb
    replace Y := Y.keep hb
    replace NN := NN.keep hb
    replace hB := bt hB hb
    clear hb
    obtain ⟨c00, c01, c02, c03⟩ := Y.open2
    go_wp2_with fail
    refine (valid_c _ _ _).mono ?_
    rw [e2.out]
    rintro e w3 ⟨rfl, hb⟩
    clear c00 c01 c02 c03
    replace X := X.keep hb
    replace Y := Y.keep hb
    replace NN := NN.keep hb
    replace hB := bt hB hb
    clear hb
    go_wp2_with fail
    refine wp_region_inv (fun L x G wx => Below w.heap.size w wx
          ∧ w.heap.size < wx.heap.size
          ∧ Blk wx (w.heap.size) 23 #[.int .i64 (l), .int .i64 (h)]
          ∧ w.heap.size + 1 < wx.heap.size
          ∧ Blk wx (w.heap.size + 1) 23 #[.int .i64 (l'), .int .i64 (h')]
          ∧ w.heap.size + 1 + 1 < wx.heap.size
          ∧ Blk wx (w.heap.size + 1 + 1) 45 #[.int .u64 n0, .int .u64 n1]
          ∧ (L 0 → x 37 = .agg #[.int .i64 (l), .int .i64 (h)])
          ∧ (L 1 → x 38 = .pointer (some ⟨w.heap.size + 1 + 1, 0, none⟩))
          ∧ (L 2 → x 39 = .int .u64 n0)
          ∧ (L 3 → x 40 = .int .i64 (mu))
          ∧ (L 4 → x 41 = .agg #[.int .i64 (l'), .int .i64 (h')])
          ∧ (L 5 → x 42 = .pointer (some ⟨w.heap.size + 1 + 1, 1, none⟩))
          ∧ (L 6 → x 43 = .int .u64 n1)
          ∧ (L 7 → x 44 = .int .i64 (mv))
          ∧ (L 8 → x 9 = .int .i64 (mu))
          ∧ (L 9 → x 10 = .int .i64 (mv))) [37, 38, 39, 40, 41, 42, 43, 44, 9, 10] 10 (by kernel_rfl) (by kernel_rfl) (by kernel_rfl) ?h0 ?st ?fin
    case h0 =>
      exact ⟨bdr hB, Blk.lt X.drew, X.drew, Blk.lt Y.drew, Y.drew, Blk.lt NN.drew, NN.drew, fun q => q.elim, fun q => q.elim, fun q => q.elim, fun q => q.elim, fun q => q.elim, fun q => q.elim, fun q => q.elim, fun q => q.elim, fun q => q.elim, fun q => q.elim⟩
    case st =>
      refine StepsOk.cons (i := 0) rfl (fun L x G w1 K Q hn hp hJ hK => ?_) ?_
      · skip
        have hc := Blk.open2 ((hJ.2.2.1))
        have c0 := hc.1
        have c1 := hc.2.1
        have c2 := hc.2.2.1
        have c3 := hc.2.2.2
        clear hc
        simp only [putAll, Act.put, List.setIfInBounds_toArray, List.set_cons_zero, List.set_cons_succ]
        go_simp
        refine hK _ G _ (by kernel_rfl) ?_
        exact ⟨(hJ.1),
          (hJ.2.1),
          (hJ.2.2.1),
          (hJ.2.2.2.1),
          (hJ.2.2.2.2.1),
          (hJ.2.2.2.2.2.1),
          (hJ.2.2.2.2.2.2.1),
          fun _ => rfl,
          fun q => (hJ.2.2.2.2.2.2.2.2.1) (q.resolve_left (by decide)),
          fun q => (hJ.2.2.2.2.2.2.2.2.2.1) (q.resolve_left (by decide)),
          fun q => (hJ.2.2.2.2.2.2.2.2.2.2.1) (q.resolve_left (by decide)),
          fun q => (hJ.2.2.2.2.2.2.2.2.2.2.2.1) (q.resolve_left (by decide)),
          fun q => (hJ.2.2.2.2.2.2.2.2.2.2.2.2.1) (q.resolve_left (by decide)),
          fun q => (hJ.2.2.2.2.2.2.2.2.2.2.2.2.2.1) (q.resolve_left (by decide)),
          fun q => (hJ.2.2.2.2.2.2.2.2.2.2.2.2.2.2.1) (q.resolve_left (by decide)),
          fun q => (hJ.2.2.2.2.2.2.2.2.2.2.2.2.2.2.2.1) (q.resolve_left (by decide)),
          fun q => (hJ.2.2.2.2.2.2.2.2.2.2.2.2.2.2.2.2) (q.resolve_left (by decide))⟩
      refine StepsOk.cons (i := 1) rfl (fun L x G w1 K Q hn hp hJ hK => ?_) ?_
      · skip
        simp only [putAll, Act.put, List.setIfInBounds_toArray, List.set_cons_zero, List.set_cons_succ]
        go_simp
        refine hK _ G _ (by kernel_rfl) ?_
        exact ⟨(hJ.1),
          (hJ.2.1),
          (hJ.2.2.1),
          (hJ.2.2.2.1),
          (hJ.2.2.2.2.1),
          (hJ.2.2.2.2.2.1),
          (hJ.2.2.2.2.2.2.1),
          fun q => (hJ.2.2.2.2.2.2.2.1) (q.resolve_left (by decide)),
          fun _ => rfl,
          fun q => (hJ.2.2.2.2.2.2.2.2.2.1) (q.resolve_left (by decide)),
          fun q => (hJ.2.2.2.2.2.2.2.2.2.2.1) (q.resolve_left (by decide)),
          fun q => (hJ.2.2.2.2.2.2.2.2.2.2.2.1) (q.resolve_left (by decide)),
          fun q => (hJ.2.2.2.2.2.2.2.2.2.2.2.2.1) (q.resolve_left (by decide)),
          fun q => (hJ.2.2.2.2.2.2.2.2.2.2.2.2.2.1) (q.resolve_left (by decide)),
          fun q => (hJ.2.2.2.2.2.2.2.2.2.2.2.2.2.2.1) (q.resolve_left (by decide)),
          fun q => (hJ.2.2.2.2.2.2.2.2.2.2.2.2.2.2.2.1) (q.resolve_left (by decide)),
          fun q => (hJ.2.2.2.2.2.2.2.2.2.2.2.2.2.2.2.2) (q.resolve_left (by decide))⟩
      refine StepsOk.cons (i := 2) rfl (fun L x G w1 K Q hn hp hJ hK => ?_) ?_
      · skip
        have p1 : L 1 := hp ⟨1, .data⟩ (by simp) rfl
        have e1 := (hJ.2.2.2.2.2.2.2.2.1) p1
        have hc := Blk.open2 ((hJ.2.2.2.2.2.2.1))
        have c0 := hc.1
        have c1 := hc.2.1
        have c2 := hc.2.2.1
        have c3 := hc.2.2.2
        clear hc
        simp only [putAll, Act.put, List.setIfInBounds_toArray, List.set_cons_zero, List.set_cons_succ]
        go_simp
        refine hK _ G _ (by kernel_rfl) ?_
        exact ⟨(hJ.1),
          (hJ.2.1),
          (hJ.2.2.1),
          (hJ.2.2.2.1),
          (hJ.2.2.2.2.1),
          (hJ.2.2.2.2.2.1),
          (hJ.2.2.2.2.2.2.1),
          fun q => (hJ.2.2.2.2.2.2.2.1) (q.resolve_left (by decide)),
          fun _ => by first | exact rfl | exact e1,
          fun _ => rfl,
          fun q => (hJ.2.2.2.2.2.2.2.2.2.2.1) (q.resolve_left (by decide)),
          fun q => (hJ.2.2.2.2.2.2.2.2.2.2.2.1) (q.resolve_left (by decide)),
          fun q => (hJ.2.2.2.2.2.2.2.2.2.2.2.2.1) (q.resolve_left (by decide)),
          fun q => (hJ.2.2.2.2.2.2.2.2.2.2.2.2.2.1) (q.resolve_left (by decide)),
          fun q => (hJ.2.2.2.2.2.2.2.2.2.2.2.2.2.2.1) (q.resolve_left (by decide)),
          fun q => (hJ.2.2.2.2.2.2.2.2.2.2.2.2.2.2.2.1) (q.resolve_left (by decide)),
          fun q => (hJ.2.2.2.2.2.2.2.2.2.2.2.2.2.2.2.2) (q.resolve_left (by decide))⟩
      refine StepsOk.cons (i := 3) rfl (fun L x G w1 K Q hn hp hJ hK => ?_) ?_
      · skip
        have p0 : L 0 := hp ⟨0, .data⟩ (by simp) rfl
        have e0 := (hJ.2.2.2.2.2.2.2.1) p0
        have p2 : L 2 := hp ⟨2, .data⟩ (by simp) rfl
        have e2 := (hJ.2.2.2.2.2.2.2.2.2.1) p2
        simp only [putAll, Act.put, List.setIfInBounds_toArray, List.set_cons_zero, List.set_cons_succ]
        go_simp
        refine (member_c _ _ _ _ V1.out a1 a2).mono ?_
        rw [hx.out]
        rintro e w2 ⟨rfl, hb⟩
        have hz := hb.size
        try go_simp
        refine hK _ G _ (by kernel_rfl) ?_
        exact ⟨bt (hJ.1) hb,
          Nat.lt_of_lt_of_le (hJ.2.1) hb.size,
          Blk.keep ((hJ.2.2.1)) hb,
          Nat.lt_of_lt_of_le (hJ.2.2.2.1) hb.size,
          Blk.keep ((hJ.2.2.2.2.1)) hb,
          Nat.lt_of_lt_of_le (hJ.2.2.2.2.2.1) hb.size,
          Blk.keep ((hJ.2.2.2.2.2.2.1)) hb,
          fun _ => by first | exact rfl | exact e0,
          fun q => (hJ.2.2.2.2.2.2.2.2.1) (q.resolve_left (by decide)),
          fun _ => by first | exact rfl | exact e2,
          fun _ => rfl,
          fun q => (hJ.2.2.2.2.2.2.2.2.2.2.2.1) (q.resolve_left (by decide)),
          fun q => (hJ.2.2.2.2.2.2.2.2.2.2.2.2.1) (q.resolve_left (by decide)),
          fun q => (hJ.2.2.2.2.2.2.2.2.2.2.2.2.2.1) (q.resolve_left (by decide)),
          fun q => (hJ.2.2.2.2.2.2.2.2.2.2.2.2.2.2.1) (q.resolve_left (by decide)),
          fun q => (hJ.2.2.2.2.2.2.2.2.2.2.2.2.2.2.2.1) (q.resolve_left (by decide)),
          fun q => (hJ.2.2.2.2.2.2.2.2.2.2.2.2.2.2.2.2) (q.resolve_left (by decide))⟩
      refine StepsOk.cons (i := 4) rfl (fun L x G w1 K Q hn hp hJ hK => ?_) ?_
      · skip
        have hc := Blk.open2 ((hJ.2.2.2.2.1))
        have c0 := hc.1
        have c1 := hc.2.1
        have c2 := hc.2.2.1
        have c3 := hc.2.2.2
        clear hc
        simp only [putAll, Act.put, List.setIfInBounds_toArray, List.set_cons_zero, List.set_cons_succ]
        go_simp
        refine hK _ G _ (by kernel_rfl) ?_
        exact ⟨(hJ.1),
          (hJ.2.1),
          (hJ.2.2.1),
          (hJ.2.2.2.1),
          (hJ.2.2.2.2.1),
          (hJ.2.2.2.2.2.1),
          (hJ.2.2.2.2.2.2.1),
          fun q => (hJ.2.2.2.2.2.2.2.1) (q.resolve_left (by decide)),
          fun q => (hJ.2.2.2.2.2.2.2.2.1) (q.resolve_left (by decide)),
          fun q => (hJ.2.2.2.2.2.2.2.2.2.1) (q.resolve_left (by decide)),
          fun q => (hJ.2.2.2.2.2.2.2.2.2.2.1) (q.resolve_left (by decide)),
          fun _ => rfl,
          fun q => (hJ.2.2.2.2.2.2.2.2.2.2.2.2.1) (q.resolve_left (by decide)),
          fun q => (hJ.2.2.2.2.2.2.2.2.2.2.2.2.2.1) (q.resolve_left (by decide)),
          fun q => (hJ.2.2.2.2.2.2.2.2.2.2.2.2.2.2.1) (q.resolve_left (by decide)),
          fun q => (hJ.2.2.2.2.2.2.2.2.2.2.2.2.2.2.2.1) (q.resolve_left (by decide)),
          fun q => (hJ.2.2.2.2.2.2.2.2.2.2.2.2.2.2.2.2) (q.resolve_left (by decide))⟩
      refine StepsOk.cons (i := 5) rfl (fun L x G w1 K Q hn hp hJ hK => ?_) ?_
      · skip
        simp only [putAll, Act.put, List.setIfInBounds_toArray, List.set_cons_zero, List.set_cons_succ]
        go_simp
        refine hK _ G _ (by kernel_rfl) ?_
        exact ⟨(hJ.1),
          (hJ.2.1),
          (hJ.2.2.1),
          (hJ.2.2.2.1),
          (hJ.2.2.2.2.1),
          (hJ.2.2.2.2.2.1),
          (hJ.2.2.2.2.2.2.1),
          fun q => (hJ.2.2.2.2.2.2.2.1) (q.resolve_left (by decide)),
          fun q => (hJ.2.2.2.2.2.2.2.2.1) (q.resolve_left (by decide)),
          fun q => (hJ.2.2.2.2.2.2.2.2.2.1) (q.resolve_left (by decide)),
          fun q => (hJ.2.2.2.2.2.2.2.2.2.2.1) (q.resolve_left (by decide)),
          fun q => (hJ.2.2.2.2.2.2.2.2.2.2.2.1) (q.resolve_left (by decide)),
          fun _ => rfl,
          fun q => (hJ.2.2.2.2.2.2.2.2.2.2.2.2.2.1) (q.resolve_left (by decide)),
          fun q => (hJ.2.2.2.2.2.2.2.2.2.2.2.2.2.2.1) (q.resolve_left (by decide)),
          fun q => (hJ.2.2.2.2.2.2.2.2.2.2.2.2.2.2.2.1) (q.resolve_left (by decide)),
          fun q => (hJ.2.2.2.2.2.2.2.2.2.2.2.2.2.2.2.2) (q.resolve_left (by decide))⟩
      refine StepsOk.cons (i := 6) rfl (fun L x G w1 K Q hn hp hJ hK => ?_) ?_
      · skip
        have p5 : L 5 := hp ⟨5, .data⟩ (by simp) rfl
        have e5 := (hJ.2.2.2.2.2.2.2.2.2.2.2.2.1) p5
        have hc := Blk.open2 ((hJ.2.2.2.2.2.2.1))
        have c0 := hc.1
        have c1 := hc.2.1
        have c2 := hc.2.2.1
        have c3 := hc.2.2.2
        clear hc
        simp only [putAll, Act.put, List.setIfInBounds_toArray, List.set_cons_zero, List.set_cons_succ]
        go_simp
        refine hK _ G _ (by kernel_rfl) ?_
        exact ⟨(hJ.1),
          (hJ.2.1),
          (hJ.2.2.1),
          (hJ.2.2.2.1),
          (hJ.2.2.2.2.1),
          (hJ.2.2.2.2.2.1),
          (hJ.2.2.2.2.2.2.1),
          fun q => (hJ.2.2.2.2.2.2.2.1) (q.resolve_left (by decide)),
          fun q => (hJ.2.2.2.2.2.2.2.2.1) (q.resolve_left (by decide)),
          fun q => (hJ.2.2.2.2.2.2.2.2.2.1) (q.resolve_left (by decide)),
          fun q => (hJ.2.2.2.2.2.2.2.2.2.2.1) (q.resolve_left (by decide)),
          fun q => (hJ.2.2.2.2.2.2.2.2.2.2.2.1) (q.resolve_left (by decide)),
          fun _ => by first | exact rfl | exact e5,
          fun _ => rfl,
          fun q => (hJ.2.2.2.2.2.2.2.2.2.2.2.2.2.2.1) (q.resolve_left (by decide)),
          fun q => (hJ.2.2.2.2.2.2.2.2.2.2.2.2.2.2.2.1) (q.resolve_left (by decide)),
          fun q => (hJ.2.2.2.2.2.2.2.2.2.2.2.2.2.2.2.2) (q.resolve_left (by decide))⟩
      refine StepsOk.cons (i := 7) rfl (fun L x G w1 K Q hn hp hJ hK => ?_) ?_
      · skip
        have p4 : L 4 := hp ⟨4, .data⟩ (by simp) rfl
        have e4 := (hJ.2.2.2.2.2.2.2.2.2.2.2.1) p4
        have p6 : L 6 := hp ⟨6, .data⟩ (by simp) rfl
        have e6 := (hJ.2.2.2.2.2.2.2.2.2.2.2.2.2.1) p6
        simp only [putAll, Act.put, List.setIfInBounds_toArray, List.set_cons_zero, List.set_cons_succ]
        go_simp
        refine (member_c _ _ _ _ V2.out b1 b2).mono ?_
        rw [hy.out]
        rintro e w2 ⟨rfl, hb⟩
        have hz := hb.size
        try go_simp
        refine hK _ G _ (by kernel_rfl) ?_
        exact ⟨bt (hJ.1) hb,
          Nat.lt_of_lt_of_le (hJ.2.1) hb.size,
          Blk.keep ((hJ.2.2.1)) hb,
          Nat.lt_of_lt_of_le (hJ.2.2.2.1) hb.size,
          Blk.keep ((hJ.2.2.2.2.1)) hb,
          Nat.lt_of_lt_of_le (hJ.2.2.2.2.2.1) hb.size,
          Blk.keep ((hJ.2.2.2.2.2.2.1)) hb,
          fun q => (hJ.2.2.2.2.2.2.2.1) (q.resolve_left (by decide)),
          fun q => (hJ.2.2.2.2.2.2.2.2.1) (q.resolve_left (by decide)),
          fun q => (hJ.2.2.2.2.2.2.2.2.2.1) (q.resolve_left (by decide)),
          fun q => (hJ.2.2.2.2.2.2.2.2.2.2.1) (q.resolve_left (by decide)),
          fun _ => by first | exact rfl | exact e4,
          fun q => (hJ.2.2.2.2.2.2.2.2.2.2.2.2.1) (q.resolve_left (by decide)),
          fun _ => by first | exact rfl | exact e6,
          fun _ => rfl,
          fun q => (hJ.2.2.2.2.2.2.2.2.2.2.2.2.2.2.2.1) (q.resolve_left (by decide)),
          fun q => (hJ.2.2.2.2.2.2.2.2.2.2.2.2.2.2.2.2) (q.resolve_left (by decide))⟩
      refine StepsOk.cons (i := 8) rfl (fun L x G w1 K Q hn hp hJ hK => ?_) ?_
      · skip
        have p3 : L 3 := hp ⟨3, .data⟩ (by simp) rfl
        have e3 := (hJ.2.2.2.2.2.2.2.2.2.2.1) p3
        simp only [putAll, Act.put, List.setIfInBounds_toArray, List.set_cons_zero, List.set_cons_succ]
        go_simp
        refine hK _ G _ (by kernel_rfl) ?_
        exact ⟨(hJ.1),
          (hJ.2.1),
          (hJ.2.2.1),
          (hJ.2.2.2.1),
          (hJ.2.2.2.2.1),
          (hJ.2.2.2.2.2.1),
          (hJ.2.2.2.2.2.2.1),
          fun q => (hJ.2.2.2.2.2.2.2.1) (q.resolve_left (by decide)),
          fun q => (hJ.2.2.2.2.2.2.2.2.1) (q.resolve_left (by decide)),
          fun q => (hJ.2.2.2.2.2.2.2.2.2.1) (q.resolve_left (by decide)),
          fun _ => by first | exact rfl | exact e3,
          fun q => (hJ.2.2.2.2.2.2.2.2.2.2.2.1) (q.resolve_left (by decide)),
          fun q => (hJ.2.2.2.2.2.2.2.2.2.2.2.2.1) (q.resolve_left (by decide)),
          fun q => (hJ.2.2.2.2.2.2.2.2.2.2.2.2.2.1) (q.resolve_left (by decide)),
          fun q => (hJ.2.2.2.2.2.2.2.2.2.2.2.2.2.2.1) (q.resolve_left (by decide)),
          fun _ => rfl,
          fun q => (hJ.2.2.2.2.2.2.2.2.2.2.2.2.2.2.2.2) (q.resolve_left (by decide))⟩
      refine StepsOk.cons (i := 9) rfl (fun L x G w1 K Q hn hp hJ hK => ?_) ?_
      · skip
        have p7 : L 7 := hp ⟨7, .data⟩ (by simp) rfl
        have e7 := (hJ.2.2.2.2.2.2.2.2.2.2.2.2.2.2.1) p7
        simp only [putAll, Act.put, List.setIfInBounds_toArray, List.set_cons_zero, List.set_cons_succ]
        go_simp
        refine hK _ G _ (by kernel_rfl) ?_
        exact ⟨(hJ.1),
          (hJ.2.1),
          (hJ.2.2.1),
          (hJ.2.2.2.1),
          (hJ.2.2.2.2.1),
          (hJ.2.2.2.2.2.1),
          (hJ.2.2.2.2.2.2.1),
          fun q => (hJ.2.2.2.2.2.2.2.1) (q.resolve_left (by decide)),
          fun q => (hJ.2.2.2.2.2.2.2.2.1) (q.resolve_left (by decide)),
          fun q => (hJ.2.2.2.2.2.2.2.2.2.1) (q.resolve_left (by decide)),
          fun q => (hJ.2.2.2.2.2.2.2.2.2.2.1) (q.resolve_left (by decide)),
          fun q => (hJ.2.2.2.2.2.2.2.2.2.2.2.1) (q.resolve_left (by decide)),
          fun q => (hJ.2.2.2.2.2.2.2.2.2.2.2.2.1) (q.resolve_left (by decide)),
          fun q => (hJ.2.2.2.2.2.2.2.2.2.2.2.2.2.1) (q.resolve_left (by decide)),
          fun _ => by first | exact rfl | exact e7,
          fun q => (hJ.2.2.2.2.2.2.2.2.2.2.2.2.2.2.2.1) (q.resolve_left (by decide)),
          fun _ => rfl⟩
      exact StepsOk.nil
    case fin =>
      intro L x G w4 hall hJ
      replace X := (hJ.2.2.1)
      replace Y := (hJ.2.2.2.2.1)
      replace NN := (hJ.2.2.2.2.2.2.1)
      have u0 := hJ.2.2.2.2.2.2.2.1 (hall 0 (by decide))
      have u1 := hJ.2.2.2.2.2.2.2.2.1 (hall 1 (by decide))
      have u2 := hJ.2.2.2.2.2.2.2.2.2.1 (hall 2 (by decide))
      have u3 := hJ.2.2.2.2.2.2.2.2.2.2.1 (hall 3 (by decide))
      have u4 := hJ.2.2.2.2.2.2.2.2.2.2.2.1 (hall 4 (by decide))
      have u5 := hJ.2.2.2.2.2.2.2.2.2.2.2.2.1 (hall 5 (by decide))
      have u6 := hJ.2.2.2.2.2.2.2.2.2.2.2.2.2.1 (hall 6 (by decide))
      have u7 := hJ.2.2.2.2.2.2.2.2.2.2.2.2.2.2.1 (hall 7 (by decide))
      have u8 := hJ.2.2.2.2.2.2.2.2.2.2.2.2.2.2.2.1 (hall 8 (by decide))
      have u9 := hJ.2.2.2.2.2.2.2.2.2.2.2.2.2.2.2.2 (hall 9 (by decide))
      replace hB := hJ.1
      simp only [putAll, Act.put, List.setIfInBounds_toArray, List.set_cons_zero, List.set_cons_succ]
      simp only [u0, u1, u2, u3, u4, u5, u6, u7, u8, u9]
      clear hall hJ u0 u1 u2 u3 u4 u5 u6 u7 u8 u9
      obtain ⟨c00, c01, c02, c03⟩ := X.open2
      go_wp2_with fail
      refine (has_c _ _ _ _).mono ?_
      rw [g1.out]
      rintro e w5 ⟨rfl, hb⟩
      clear c00 c01 c02 c03
      replace X := X.keep hb
      replace Y := Y.keep hb
      replace NN := NN.keep hb
      replace hB := bt hB hb
      clear hb
      obtain ⟨c00, c01, c02, c03⟩ := Y.open2
      go_wp2_with fail
      refine (has_c _ _ _ _).mono ?_
      rw [g2.out]
      rintro e w6 ⟨rfl, hb⟩
      clear c00 c01 c02 c03
      replace X := X.keep hb
      replace Y := Y.keep hb
      replace NN := NN.keep hb
      replace hB := bt hB hb
      clear hb
      obtain ⟨c00, c01, c02, c03⟩ := X.open2
      obtain ⟨c10, c11, c12, c13⟩ := Y.open2
      go_wp2_with fail
      refine (add_ci _ _ _ _ _).mono ?_
      rw [hm0.out]
      rintro e w7 ⟨rfl, hb⟩
      clear c00 c01 c02 c03 c10 c11 c12 c13
      replace X := X.keep hb
      replace Y := Y.keep hb
      replace NN := NN.keep hb
      replace hB := bt hB hb
      clear hb
      have hz7 := hB.size
      have l7X := X.lt
      have l7Y := Y.lt
      have l7NN := NN.lt
      replace X := X.alloc (.cells #[.int .i64 (Iv.add l h l' h').lo, .int .i64 (Iv.add l h l' h').hi] 23)
      replace Y := Y.alloc (.cells #[.int .i64 (Iv.add l h l' h').lo, .int .i64 (Iv.add l h l' h').hi] 23)
      replace NN := NN.alloc (.cells #[.int .i64 (Iv.add l h l' h').lo, .int .i64 (Iv.add l h l' h').hi] 23)
      replace hB := bal hB (.cells #[.int .i64 (Iv.add l h l' h').lo, .int .i64 (Iv.add l h l' h').hi] 23)
      have A := Blk.new w7 23 #[.int .i64 (Iv.add l h l' h').lo, .int .i64 (Iv.add l h l' h').hi]
      obtain ⟨c00, c01, c02, c03⟩ := X.open2
      obtain ⟨c10, c11, c12, c13⟩ := Y.open2
      obtain ⟨c20, c21, c22, c23⟩ := A.open2
      go_wp2_with fail
      refine (sub_ci _ _ _ _ _).mono ?_
      rw [c1.out]
      rintro e w8 ⟨rfl, hb⟩
      clear c00 c01 c02 c03 c10 c11 c12 c13 c20 c21 c22 c23
      replace X := X.keep hb
      replace Y := Y.keep hb
      replace NN := NN.keep hb
      replace A := A.keep hb
      replace hB := bt hB hb
      clear hb
      have hz8 := hB.size
      have l8X := X.lt
      have l8Y := Y.lt
      have l8NN := NN.lt
      have l8A := A.lt
      replace X := X.alloc (.cells #[.int .i64 (Iv.sub l h l' h').lo, .int .i64 (Iv.sub l h l' h').hi] 23)
      replace Y := Y.alloc (.cells #[.int .i64 (Iv.sub l h l' h').lo, .int .i64 (Iv.sub l h l' h').hi] 23)
      replace NN := NN.alloc (.cells #[.int .i64 (Iv.sub l h l' h').lo, .int .i64 (Iv.sub l h l' h').hi] 23)
      replace A := A.alloc (.cells #[.int .i64 (Iv.sub l h l' h').lo, .int .i64 (Iv.sub l h l' h').hi] 23)
      replace hB := bal hB (.cells #[.int .i64 (Iv.sub l h l' h').lo, .int .i64 (Iv.sub l h l' h').hi] 23)
      have B := Blk.new w8 23 #[.int .i64 (Iv.sub l h l' h').lo, .int .i64 (Iv.sub l h l' h').hi]
      obtain ⟨c00, c01, c02, c03⟩ := X.open2
      obtain ⟨c10, c11, c12, c13⟩ := Y.open2
      obtain ⟨c20, c21, c22, c23⟩ := A.open2
      obtain ⟨c30, c31, c32, c33⟩ := B.open2
      go_wp2_with fail
      refine (mul_ci _ _ _ _ _).mono ?_
      rw [hm2.out]
      rintro e w9 ⟨rfl, hb⟩
      clear c00 c01 c02 c03 c10 c11 c12 c13 c20 c21 c22 c23 c30 c31 c32 c33
      replace X := X.keep hb
      replace Y := Y.keep hb
      replace NN := NN.keep hb
      replace A := A.keep hb
      replace B := B.keep hb
      replace hB := bt hB hb
      clear hb
      have hz9 := hB.size
      have l9X := X.lt
      have l9Y := Y.lt
      have l9NN := NN.lt
      have l9A := A.lt
      have l9B := B.lt
      replace X := X.alloc (.cells #[.int .i64 (Iv.mul l h l' h').lo, .int .i64 (Iv.mul l h l' h').hi] 23)
      replace Y := Y.alloc (.cells #[.int .i64 (Iv.mul l h l' h').lo, .int .i64 (Iv.mul l h l' h').hi] 23)
      replace NN := NN.alloc (.cells #[.int .i64 (Iv.mul l h l' h').lo, .int .i64 (Iv.mul l h l' h').hi] 23)
      replace A := A.alloc (.cells #[.int .i64 (Iv.mul l h l' h').lo, .int .i64 (Iv.mul l h l' h').hi] 23)
      replace B := B.alloc (.cells #[.int .i64 (Iv.mul l h l' h').lo, .int .i64 (Iv.mul l h l' h').hi] 23)
      replace hB := bal hB (.cells #[.int .i64 (Iv.mul l h l' h').lo, .int .i64 (Iv.mul l h l' h').hi] 23)
      have C := Blk.new w9 23 #[.int .i64 (Iv.mul l h l' h').lo, .int .i64 (Iv.mul l h l' h').hi]
      obtain ⟨c00, c01, c02, c03⟩ := A.open2
      obtain ⟨c10, c11, c12, c13⟩ := B.open2
      obtain ⟨c20, c21, c22, c23⟩ := C.open2
      go_wp2_with fail
      refine (has_c _ _ _ _).mono ?_
      rw [N1.out]
      rintro e w10 ⟨rfl, hb⟩
      clear c00 c01 c02 c03 c10 c11 c12 c13 c20 c21 c22 c23
      replace X := X.keep hb
      replace Y := Y.keep hb
      replace NN := NN.keep hb
      replace A := A.keep hb
      replace B := B.keep hb
      replace C := C.keep hb
      replace hB := bt hB hb
      clear hb
      obtain ⟨c00, c01, c02, c03⟩ := C.open2
      go_wp2_with fail
      refine (mul_c _ _ _ x1 x2 y1 y2).mono ?_
      rintro e w11 ⟨rfl, hb⟩
      clear c00 c01 c02 c03
      replace X := X.keep hb
      replace Y := Y.keep hb
      replace NN := NN.keep hb
      replace A := A.keep hb
      replace B := B.keep hb
      replace C := C.keep hb
      replace hB := bt hB hb
      clear hb
      obtain ⟨c00, c01, c02, c03⟩ := C.open2
      go_wp2_with fail
      refine (int_c _ _ _ _ mw).mono ?_
      rintro e w12 ⟨rfl, hb⟩
      clear c00 c01 c02 c03
      replace X := X.keep hb
      replace Y := Y.keep hb
      replace NN := NN.keep hb
      replace A := A.keep hb
      replace B := B.keep hb
      replace C := C.keep hb
      replace hB := bt hB hb
      clear hb
      go_wp2_with fail
      go_returns
      exact ⟨rfl, hB⟩
  · have e1 := Lib.hid (Iv.vb_yes v)
    have e2 := Lib.hid (Iv.vb_yes v2)
    have V1 := Lib.hid v
    have V2 := Lib.hid v2
    obtain ⟨mu, hx⟩ : ∃ u, Hid (Iv.mb l h n0 = u) := ⟨_, Lib.hid rfl⟩
    obtain ⟨mv, hy⟩ : ∃ u, Hid (Iv.mb l' h' n1 = u) := ⟨_, Lib.hid rfl⟩
    have hu := Iv.mb_in (n := n0) v
    have hv := Iv.mb_in (n := n1) v2
    rw [hx.out] at hu
    rw [hy.out] at hv
    have g1 := Lib.hid (Iv.hs_yes v hu.1 hu.2)
    have g2 := Lib.hid (Iv.hs_yes v2 hv.1 hv.2)
    have x1 : -9223372036854775808 ≤ mu := by unfold Iv.Vd at v; omega
    have x2 : mu ≤ 9223372036854775807 := by unfold Iv.Vd at v; omega
    have y1 : -9223372036854775808 ≤ mv := by unfold Iv.Vd at v2; omega
    have y2 : mv ≤ 9223372036854775807 := by unfold Iv.Vd at v2; omega
    have mw := Wi.wd_self (mul_W x1 x2 y1 y2)
    obtain ⟨m0, hm0⟩ : ∃ m, Hid ((Iv.add l h l' h').er = m) := ⟨_, Lib.hid rfl⟩
    rw [hm0.out] at c0
    have k0_ : (m0 == 0) = false := by simpa using c0
    have kk0_ : (m0 != 0) = true := by simpa using c0
    clear c0
    obtain ⟨m1, hm1⟩ : ∃ m, Hid ((Iv.sub l h l' h').er = m) := ⟨_, Lib.hid rfl⟩
    rw [hm1.out] at c1
    have k1_ : (m1 == 0) = false := by simpa using c1
    have kk1_ : (m1 != 0) = true := by simpa using c1
    clear c1
    have N2 := Iv.mul_has hu hv c2
    have k1 := Lib.hid (Wi.ib_yes N2.2)
    have k2 := Lib.hid (Wi.iv_yes N2.2)
    replace N2 := Lib.hid N2.1
    replace c2 := Lib.hid c2
    clear v v2 hu hv
    go_enter Try.func9, Try.ntmps9
    have X := Blk.new w 23 #[.int .i64 (l), .int .i64 (h)]
    have hB := ba w (.cells #[.int .i64 (l), .int .i64 (h)] 23)
    have Y := Blk.new1 w (.cells #[.int .i64 (l), .int .i64 (h)] 23) 23 #[.int .i64 (l'), .int .i64 (h')]
    replace X := X.alloc (.cells #[.int .i64 (l'), .int .i64 (h')] 23)
    replace hB := bal hB (.cells #[.int .i64 (l'), .int .i64 (h')] 23)
    have NN := Blk.new2 w (.cells #[.int .i64 (l), .int .i64 (h)] 23) (.cells #[.int .i64 (l'), .int .i64 (h')] 23) 45 #[.int .u64 n0, .int .u64 n1]
    replace X := X.alloc (.cells #[.int .u64 n0, .int .u64 n1] 45)
    replace Y := Y.alloc (.cells #[.int .u64 n0, .int .u64 n1] 45)
    replace hB := bal hB (.cells #[.int .u64 n0, .int .u64 n1] 45)
    go_wp2_with fail
    refine (awake_ci _).mono ?_
    rintro e w1 ⟨rfl, hb⟩
    replace X := X.keep hb
    replace Y := Y.keep hb
    replace NN := NN.keep hb
    replace hB := bt hB hb
    clear hb
    obtain ⟨c00, c01, c02, c03⟩ := X.open2
    go_wp2_with fail
    refine (valid_c _ _ _).mono ?_
    rw [e1.out]
    rintro e w2 ⟨rfl, hb⟩
    clear c00 c01 c02 c03
    replace X := X.keep hb
    replace Y := Y.keep hb
    replace NN := NN.keep hb
    replace hB := bt hB hb
    clear hb
    obtain ⟨c00, c01, c02, c03⟩ := Y.open2
    go_wp2_with fail
    refine (valid_c _ _ _).mono ?_
    rw [e2.out]
    rintro e w3 ⟨rfl, hb⟩
    clear c00 c01 c02 c03
    replace X := X.keep hb
    replace Y := Y.keep hb
    replace NN := NN.keep hb
    replace hB := bt hB hb
    clear hb
    go_wp2_with fail
    refine wp_region_inv (fun L x G wx => Below w.heap.size w wx
          ∧ w.heap.size < wx.heap.size
          ∧ Blk wx (w.heap.size) 23 #[.int .i64 (l), .int .i64 (h)]
          ∧ w.heap.size + 1 < wx.heap.size
          ∧ Blk wx (w.heap.size + 1) 23 #[.int .i64 (l'), .int .i64 (h')]
          ∧ w.heap.size + 1 + 1 < wx.heap.size
          ∧ Blk wx (w.heap.size + 1 + 1) 45 #[.int .u64 n0, .int .u64 n1]
          ∧ (L 0 → x 37 = .agg #[.int .i64 (l), .int .i64 (h)])
          ∧ (L 1 → x 38 = .pointer (some ⟨w.heap.size + 1 + 1, 0, none⟩))
          ∧ (L 2 → x 39 = .int .u64 n0)
          ∧ (L 3 → x 40 = .int .i64 (mu))
          ∧ (L 4 → x 41 = .agg #[.int .i64 (l'), .int .i64 (h')])
          ∧ (L 5 → x 42 = .pointer (some ⟨w.heap.size + 1 + 1, 1, none⟩))
          ∧ (L 6 → x 43 = .int .u64 n1)
          ∧ (L 7 → x 44 = .int .i64 (mv))
          ∧ (L 8 → x 9 = .int .i64 (mu))
          ∧ (L 9 → x 10 = .int .i64 (mv))) [37, 38, 39, 40, 41, 42, 43, 44, 9, 10] 10 (by kernel_rfl) (by kernel_rfl) (by kernel_rfl) ?h0 ?st ?fin
    case h0 =>
      exact ⟨bdr hB, Blk.lt X.drew, X.drew, Blk.lt Y.drew, Y.drew, Blk.lt NN.drew, NN.drew, fun q => q.elim, fun q => q.elim, fun q => q.elim, fun q => q.elim, fun q => q.elim, fun q => q.elim, fun q => q.elim, fun q => q.elim, fun q => q.elim, fun q => q.elim⟩
    case st =>
      refine StepsOk.cons (i := 0) rfl (fun L x G w1 K Q hn hp hJ hK => ?_) ?_
      · skip
        have hc := Blk.open2 ((hJ.2.2.1))
        have c0 := hc.1
        have c1 := hc.2.1
        have c2 := hc.2.2.1
        have c3 := hc.2.2.2
        clear hc
        simp only [putAll, Act.put, List.setIfInBounds_toArray, List.set_cons_zero, List.set_cons_succ]
        go_simp
        refine hK _ G _ (by kernel_rfl) ?_
        exact ⟨(hJ.1),
          (hJ.2.1),
          (hJ.2.2.1),
          (hJ.2.2.2.1),
          (hJ.2.2.2.2.1),
          (hJ.2.2.2.2.2.1),
          (hJ.2.2.2.2.2.2.1),
          fun _ => rfl,
          fun q => (hJ.2.2.2.2.2.2.2.2.1) (q.resolve_left (by decide)),
          fun q => (hJ.2.2.2.2.2.2.2.2.2.1) (q.resolve_left (by decide)),
          fun q => (hJ.2.2.2.2.2.2.2.2.2.2.1) (q.resolve_left (by decide)),
          fun q => (hJ.2.2.2.2.2.2.2.2.2.2.2.1) (q.resolve_left (by decide)),
          fun q => (hJ.2.2.2.2.2.2.2.2.2.2.2.2.1) (q.resolve_left (by decide)),
          fun q => (hJ.2.2.2.2.2.2.2.2.2.2.2.2.2.1) (q.resolve_left (by decide)),
          fun q => (hJ.2.2.2.2.2.2.2.2.2.2.2.2.2.2.1) (q.resolve_left (by decide)),
          fun q => (hJ.2.2.2.2.2.2.2.2.2.2.2.2.2.2.2.1) (q.resolve_left (by decide)),
          fun q => (hJ.2.2.2.2.2.2.2.2.2.2.2.2.2.2.2.2) (q.resolve_left (by decide))⟩
      refine StepsOk.cons (i := 1) rfl (fun L x G w1 K Q hn hp hJ hK => ?_) ?_
      · skip
        simp only [putAll, Act.put, List.setIfInBounds_toArray, List.set_cons_zero, List.set_cons_succ]
        go_simp
        refine hK _ G _ (by kernel_rfl) ?_
        exact ⟨(hJ.1),
          (hJ.2.1),
          (hJ.2.2.1),
          (hJ.2.2.2.1),
          (hJ.2.2.2.2.1),
          (hJ.2.2.2.2.2.1),
          (hJ.2.2.2.2.2.2.1),
          fun q => (hJ.2.2.2.2.2.2.2.1) (q.resolve_left (by decide)),
          fun _ => rfl,
          fun q => (hJ.2.2.2.2.2.2.2.2.2.1) (q.resolve_left (by decide)),
          fun q => (hJ.2.2.2.2.2.2.2.2.2.2.1) (q.resolve_left (by decide)),
          fun q => (hJ.2.2.2.2.2.2.2.2.2.2.2.1) (q.resolve_left (by decide)),
          fun q => (hJ.2.2.2.2.2.2.2.2.2.2.2.2.1) (q.resolve_left (by decide)),
          fun q => (hJ.2.2.2.2.2.2.2.2.2.2.2.2.2.1) (q.resolve_left (by decide)),
          fun q => (hJ.2.2.2.2.2.2.2.2.2.2.2.2.2.2.1) (q.resolve_left (by decide)),
          fun q => (hJ.2.2.2.2.2.2.2.2.2.2.2.2.2.2.2.1) (q.resolve_left (by decide)),
          fun q => (hJ.2.2.2.2.2.2.2.2.2.2.2.2.2.2.2.2) (q.resolve_left (by decide))⟩
      refine StepsOk.cons (i := 2) rfl (fun L x G w1 K Q hn hp hJ hK => ?_) ?_
      · skip
        have p1 : L 1 := hp ⟨1, .data⟩ (by simp) rfl
        have e1 := (hJ.2.2.2.2.2.2.2.2.1) p1
        have hc := Blk.open2 ((hJ.2.2.2.2.2.2.1))
        have c0 := hc.1
        have c1 := hc.2.1
        have c2 := hc.2.2.1
        have c3 := hc.2.2.2
        clear hc
        simp only [putAll, Act.put, List.setIfInBounds_toArray, List.set_cons_zero, List.set_cons_succ]
        go_simp
        refine hK _ G _ (by kernel_rfl) ?_
        exact ⟨(hJ.1),
          (hJ.2.1),
          (hJ.2.2.1),
          (hJ.2.2.2.1),
          (hJ.2.2.2.2.1),
          (hJ.2.2.2.2.2.1),
          (hJ.2.2.2.2.2.2.1),
          fun q => (hJ.2.2.2.2.2.2.2.1) (q.resolve_left (by decide)),
          fun _ => by first | exact rfl | exact e1,
          fun _ => rfl,
          fun q => (hJ.2.2.2.2.2.2.2.2.2.2.1) (q.resolve_left (by decide)),
          fun q => (hJ.2.2.2.2.2.2.2.2.2.2.2.1) (q.resolve_left (by decide)),
          fun q => (hJ.2.2.2.2.2.2.2.2.2.2.2.2.1) (q.resolve_left (by decide)),
          fun q => (hJ.2.2.2.2.2.2.2.2.2.2.2.2.2.1) (q.resolve_left (by decide)),
          fun q => (hJ.2.2.2.2.2.2.2.2.2.2.2.2.2.2.1) (q.resolve_left (by decide)),
          fun q => (hJ.2.2.2.2.2.2.2.2.2.2.2.2.2.2.2.1) (q.resolve_left (by decide)),
          fun q => (hJ.2.2.2.2.2.2.2.2.2.2.2.2.2.2.2.2) (q.resolve_left (by decide))⟩
      refine StepsOk.cons (i := 3) rfl (fun L x G w1 K Q hn hp hJ hK => ?_) ?_
      · skip
        have p0 : L 0 := hp ⟨0, .data⟩ (by simp) rfl
        have e0 := (hJ.2.2.2.2.2.2.2.1) p0
        have p2 : L 2 := hp ⟨2, .data⟩ (by simp) rfl
        have e2 := (hJ.2.2.2.2.2.2.2.2.2.1) p2
        simp only [putAll, Act.put, List.setIfInBounds_toArray, List.set_cons_zero, List.set_cons_succ]
        go_simp
        refine (member_c _ _ _ _ V1.out a1 a2).mono ?_
        rw [hx.out]
        rintro e w2 ⟨rfl, hb⟩
        have hz := hb.size
        try go_simp
        refine hK _ G _ (by kernel_rfl) ?_
        exact ⟨bt (hJ.1) hb,
          Nat.lt_of_lt_of_le (hJ.2.1) hb.size,
          Blk.keep ((hJ.2.2.1)) hb,
          Nat.lt_of_lt_of_le (hJ.2.2.2.1) hb.size,
          Blk.keep ((hJ.2.2.2.2.1)) hb,
          Nat.lt_of_lt_of_le (hJ.2.2.2.2.2.1) hb.size,
          Blk.keep ((hJ.2.2.2.2.2.2.1)) hb,
          fun _ => by first | exact rfl | exact e0,
          fun q => (hJ.2.2.2.2.2.2.2.2.1) (q.resolve_left (by decide)),
          fun _ => by first | exact rfl | exact e2,
          fun _ => rfl,
          fun q => (hJ.2.2.2.2.2.2.2.2.2.2.2.1) (q.resolve_left (by decide)),
          fun q => (hJ.2.2.2.2.2.2.2.2.2.2.2.2.1) (q.resolve_left (by decide)),
          fun q => (hJ.2.2.2.2.2.2.2.2.2.2.2.2.2.1) (q.resolve_left (by decide)),
          fun q => (hJ.2.2.2.2.2.2.2.2.2.2.2.2.2.2.1) (q.resolve_left (by decide)),
          fun q => (hJ.2.2.2.2.2.2.2.2.2.2.2.2.2.2.2.1) (q.resolve_left (by decide)),
          fun q => (hJ.2.2.2.2.2.2.2.2.2.2.2.2.2.2.2.2) (q.resolve_left (by decide))⟩
      refine StepsOk.cons (i := 4) rfl (fun L x G w1 K Q hn hp hJ hK => ?_) ?_
      · skip
        have hc := Blk.open2 ((hJ.2.2.2.2.1))
        have c0 := hc.1
        have c1 := hc.2.1
        have c2 := hc.2.2.1
        have c3 := hc.2.2.2
        clear hc
        simp only [putAll, Act.put, List.setIfInBounds_toArray, List.set_cons_zero, List.set_cons_succ]
        go_simp
        refine hK _ G _ (by kernel_rfl) ?_
        exact ⟨(hJ.1),
          (hJ.2.1),
          (hJ.2.2.1),
          (hJ.2.2.2.1),
          (hJ.2.2.2.2.1),
          (hJ.2.2.2.2.2.1),
          (hJ.2.2.2.2.2.2.1),
          fun q => (hJ.2.2.2.2.2.2.2.1) (q.resolve_left (by decide)),
          fun q => (hJ.2.2.2.2.2.2.2.2.1) (q.resolve_left (by decide)),
          fun q => (hJ.2.2.2.2.2.2.2.2.2.1) (q.resolve_left (by decide)),
          fun q => (hJ.2.2.2.2.2.2.2.2.2.2.1) (q.resolve_left (by decide)),
          fun _ => rfl,
          fun q => (hJ.2.2.2.2.2.2.2.2.2.2.2.2.1) (q.resolve_left (by decide)),
          fun q => (hJ.2.2.2.2.2.2.2.2.2.2.2.2.2.1) (q.resolve_left (by decide)),
          fun q => (hJ.2.2.2.2.2.2.2.2.2.2.2.2.2.2.1) (q.resolve_left (by decide)),
          fun q => (hJ.2.2.2.2.2.2.2.2.2.2.2.2.2.2.2.1) (q.resolve_left (by decide)),
          fun q => (hJ.2.2.2.2.2.2.2.2.2.2.2.2.2.2.2.2) (q.resolve_left (by decide))⟩
      refine StepsOk.cons (i := 5) rfl (fun L x G w1 K Q hn hp hJ hK => ?_) ?_
      · skip
        simp only [putAll, Act.put, List.setIfInBounds_toArray, List.set_cons_zero, List.set_cons_succ]
        go_simp
        refine hK _ G _ (by kernel_rfl) ?_
        exact ⟨(hJ.1),
          (hJ.2.1),
          (hJ.2.2.1),
          (hJ.2.2.2.1),
          (hJ.2.2.2.2.1),
          (hJ.2.2.2.2.2.1),
          (hJ.2.2.2.2.2.2.1),
          fun q => (hJ.2.2.2.2.2.2.2.1) (q.resolve_left (by decide)),
          fun q => (hJ.2.2.2.2.2.2.2.2.1) (q.resolve_left (by decide)),
          fun q => (hJ.2.2.2.2.2.2.2.2.2.1) (q.resolve_left (by decide)),
          fun q => (hJ.2.2.2.2.2.2.2.2.2.2.1) (q.resolve_left (by decide)),
          fun q => (hJ.2.2.2.2.2.2.2.2.2.2.2.1) (q.resolve_left (by decide)),
          fun _ => rfl,
          fun q => (hJ.2.2.2.2.2.2.2.2.2.2.2.2.2.1) (q.resolve_left (by decide)),
          fun q => (hJ.2.2.2.2.2.2.2.2.2.2.2.2.2.2.1) (q.resolve_left (by decide)),
          fun q => (hJ.2.2.2.2.2.2.2.2.2.2.2.2.2.2.2.1) (q.resolve_left (by decide)),
          fun q => (hJ.2.2.2.2.2.2.2.2.2.2.2.2.2.2.2.2) (q.resolve_left (by decide))⟩
      refine StepsOk.cons (i := 6) rfl (fun L x G w1 K Q hn hp hJ hK => ?_) ?_
      · skip
        have p5 : L 5 := hp ⟨5, .data⟩ (by simp) rfl
        have e5 := (hJ.2.2.2.2.2.2.2.2.2.2.2.2.1) p5
        have hc := Blk.open2 ((hJ.2.2.2.2.2.2.1))
        have c0 := hc.1
        have c1 := hc.2.1
        have c2 := hc.2.2.1
        have c3 := hc.2.2.2
        clear hc
        simp only [putAll, Act.put, List.setIfInBounds_toArray, List.set_cons_zero, List.set_cons_succ]
        go_simp
        refine hK _ G _ (by kernel_rfl) ?_
        exact ⟨(hJ.1),
          (hJ.2.1),
          (hJ.2.2.1),
          (hJ.2.2.2.1),
          (hJ.2.2.2.2.1),
          (hJ.2.2.2.2.2.1),
          (hJ.2.2.2.2.2.2.1),
          fun q => (hJ.2.2.2.2.2.2.2.1) (q.resolve_left (by decide)),
          fun q => (hJ.2.2.2.2.2.2.2.2.1) (q.resolve_left (by decide)),
          fun q => (hJ.2.2.2.2.2.2.2.2.2.1) (q.resolve_left (by decide)),
          fun q => (hJ.2.2.2.2.2.2.2.2.2.2.1) (q.resolve_left (by decide)),
          fun q => (hJ.2.2.2.2.2.2.2.2.2.2.2.1) (q.resolve_left (by decide)),
          fun _ => by first | exact rfl | exact e5,
          fun _ => rfl,
          fun q => (hJ.2.2.2.2.2.2.2.2.2.2.2.2.2.2.1) (q.resolve_left (by decide)),
          fun q => (hJ.2.2.2.2.2.2.2.2.2.2.2.2.2.2.2.1) (q.resolve_left (by decide)),
          fun q => (hJ.2.2.2.2.2.2.2.2.2.2.2.2.2.2.2.2) (q.resolve_left (by decide))⟩
      refine StepsOk.cons (i := 7) rfl (fun L x G w1 K Q hn hp hJ hK => ?_) ?_
      · skip
        have p4 : L 4 := hp ⟨4, .data⟩ (by simp) rfl
        have e4 := (hJ.2.2.2.2.2.2.2.2.2.2.2.1) p4
        have p6 : L 6 := hp ⟨6, .data⟩ (by simp) rfl
        have e6 := (hJ.2.2.2.2.2.2.2.2.2.2.2.2.2.1) p6
        simp only [putAll, Act.put, List.setIfInBounds_toArray, List.set_cons_zero, List.set_cons_succ]
        go_simp
        refine (member_c _ _ _ _ V2.out b1 b2).mono ?_
        rw [hy.out]
        rintro e w2 ⟨rfl, hb⟩
        have hz := hb.size
        try go_simp
        refine hK _ G _ (by kernel_rfl) ?_
        exact ⟨bt (hJ.1) hb,
          Nat.lt_of_lt_of_le (hJ.2.1) hb.size,
          Blk.keep ((hJ.2.2.1)) hb,
          Nat.lt_of_lt_of_le (hJ.2.2.2.1) hb.size,
          Blk.keep ((hJ.2.2.2.2.1)) hb,
          Nat.lt_of_lt_of_le (hJ.2.2.2.2.2.1) hb.size,
          Blk.keep ((hJ.2.2.2.2.2.2.1)) hb,
          fun q => (hJ.2.2.2.2.2.2.2.1) (q.resolve_left (by decide)),
          fun q => (hJ.2.2.2.2.2.2.2.2.1) (q.resolve_left (by decide)),
          fun q => (hJ.2.2.2.2.2.2.2.2.2.1) (q.resolve_left (by decide)),
          fun q => (hJ.2.2.2.2.2.2.2.2.2.2.1) (q.resolve_left (by decide)),
          fun _ => by first | exact rfl | exact e4,
          fun q => (hJ.2.2.2.2.2.2.2.2.2.2.2.2.1) (q.resolve_left (by decide)),
          fun _ => by first | exact rfl | exact e6,
          fun _ => rfl,
          fun q => (hJ.2.2.2.2.2.2.2.2.2.2.2.2.2.2.2.1) (q.resolve_left (by decide)),
          fun q => (hJ.2.2.2.2.2.2.2.2.2.2.2.2.2.2.2.2) (q.resolve_left (by decide))⟩
      refine StepsOk.cons (i := 8) rfl (fun L x G w1 K Q hn hp hJ hK => ?_) ?_
      · skip
        have p3 : L 3 := hp ⟨3, .data⟩ (by simp) rfl
        have e3 := (hJ.2.2.2.2.2.2.2.2.2.2.1) p3
        simp only [putAll, Act.put, List.setIfInBounds_toArray, List.set_cons_zero, List.set_cons_succ]
        go_simp
        refine hK _ G _ (by kernel_rfl) ?_
        exact ⟨(hJ.1),
          (hJ.2.1),
          (hJ.2.2.1),
          (hJ.2.2.2.1),
          (hJ.2.2.2.2.1),
          (hJ.2.2.2.2.2.1),
          (hJ.2.2.2.2.2.2.1),
          fun q => (hJ.2.2.2.2.2.2.2.1) (q.resolve_left (by decide)),
          fun q => (hJ.2.2.2.2.2.2.2.2.1) (q.resolve_left (by decide)),
          fun q => (hJ.2.2.2.2.2.2.2.2.2.1) (q.resolve_left (by decide)),
          fun _ => by first | exact rfl | exact e3,
          fun q => (hJ.2.2.2.2.2.2.2.2.2.2.2.1) (q.resolve_left (by decide)),
          fun q => (hJ.2.2.2.2.2.2.2.2.2.2.2.2.1) (q.resolve_left (by decide)),
          fun q => (hJ.2.2.2.2.2.2.2.2.2.2.2.2.2.1) (q.resolve_left (by decide)),
          fun q => (hJ.2.2.2.2.2.2.2.2.2.2.2.2.2.2.1) (q.resolve_left (by decide)),
          fun _ => rfl,
          fun q => (hJ.2.2.2.2.2.2.2.2.2.2.2.2.2.2.2.2) (q.resolve_left (by decide))⟩
      refine StepsOk.cons (i := 9) rfl (fun L x G w1 K Q hn hp hJ hK => ?_) ?_
      · skip
        have p7 : L 7 := hp ⟨7, .data⟩ (by simp) rfl
        have e7 := (hJ.2.2.2.2.2.2.2.2.2.2.2.2.2.2.1) p7
        simp only [putAll, Act.put, List.setIfInBounds_toArray, List.set_cons_zero, List.set_cons_succ]
        go_simp
        refine hK _ G _ (by kernel_rfl) ?_
        exact ⟨(hJ.1),
          (hJ.2.1),
          (hJ.2.2.1),
          (hJ.2.2.2.1),
          (hJ.2.2.2.2.1),
          (hJ.2.2.2.2.2.1),
          (hJ.2.2.2.2.2.2.1),
          fun q => (hJ.2.2.2.2.2.2.2.1) (q.resolve_left (by decide)),
          fun q => (hJ.2.2.2.2.2.2.2.2.1) (q.resolve_left (by decide)),
          fun q => (hJ.2.2.2.2.2.2.2.2.2.1) (q.resolve_left (by decide)),
          fun q => (hJ.2.2.2.2.2.2.2.2.2.2.1) (q.resolve_left (by decide)),
          fun q => (hJ.2.2.2.2.2.2.2.2.2.2.2.1) (q.resolve_left (by decide)),
          fun q => (hJ.2.2.2.2.2.2.2.2.2.2.2.2.1) (q.resolve_left (by decide)),
          fun q => (hJ.2.2.2.2.2.2.2.2.2.2.2.2.2.1) (q.resolve_left (by decide)),
          fun _ => by first | exact rfl | exact e7,
          fun q => (hJ.2.2.2.2.2.2.2.2.2.2.2.2.2.2.2.1) (q.resolve_left (by decide)),
          fun _ => rfl⟩
      exact StepsOk.nil
    case fin =>
      intro L x G w4 hall hJ
      replace X := (hJ.2.2.1)
      replace Y := (hJ.2.2.2.2.1)
      replace NN := (hJ.2.2.2.2.2.2.1)
      have u0 := hJ.2.2.2.2.2.2.2.1 (hall 0 (by decide))
      have u1 := hJ.2.2.2.2.2.2.2.2.1 (hall 1 (by decide))
      have u2 := hJ.2.2.2.2.2.2.2.2.2.1 (hall 2 (by decide))
      have u3 := hJ.2.2.2.2.2.2.2.2.2.2.1 (hall 3 (by decide))
      have u4 := hJ.2.2.2.2.2.2.2.2.2.2.2.1 (hall 4 (by decide))
      have u5 := hJ.2.2.2.2.2.2.2.2.2.2.2.2.1 (hall 5 (by decide))
      have u6 := hJ.2.2.2.2.2.2.2.2.2.2.2.2.2.1 (hall 6 (by decide))
      have u7 := hJ.2.2.2.2.2.2.2.2.2.2.2.2.2.2.1 (hall 7 (by decide))
      have u8 := hJ.2.2.2.2.2.2.2.2.2.2.2.2.2.2.2.1 (hall 8 (by decide))
      have u9 := hJ.2.2.2.2.2.2.2.2.2.2.2.2.2.2.2.2 (hall 9 (by decide))
      replace hB := hJ.1
      simp only [putAll, Act.put, List.setIfInBounds_toArray, List.set_cons_zero, List.set_cons_succ]
      simp only [u0, u1, u2, u3, u4, u5, u6, u7, u8, u9]
      clear hall hJ u0 u1 u2 u3 u4 u5 u6 u7 u8 u9
      obtain ⟨c00, c01, c02, c03⟩ := X.open2
      go_wp2_with fail
      refine (has_c _ _ _ _).mono ?_
      rw [g1.out]
      rintro e w5 ⟨rfl, hb⟩
      clear c00 c01 c02 c03
      replace X := X.keep hb
      replace Y := Y.keep hb
      replace NN := NN.keep hb
      replace hB := bt hB hb
      clear hb
      obtain ⟨c00, c01, c02, c03⟩ := Y.open2
      go_wp2_with fail
      refine (has_c _ _ _ _).mono ?_
      rw [g2.out]
      rintro e w6 ⟨rfl, hb⟩
      clear c00 c01 c02 c03
      replace X := X.keep hb
      replace Y := Y.keep hb
      replace NN := NN.keep hb
      replace hB := bt hB hb
      clear hb
      obtain ⟨c00, c01, c02, c03⟩ := X.open2
      obtain ⟨c10, c11, c12, c13⟩ := Y.open2
      go_wp2_with fail
      refine (add_ci _ _ _ _ _).mono ?_
      rw [hm0.out]
      rintro e w7 ⟨rfl, hb⟩
      clear c00 c01 c02 c03 c10 c11 c12 c13
      replace X := X.keep hb
      replace Y := Y.keep hb
      replace NN := NN.keep hb
      replace hB := bt hB hb
      clear hb
      have hz7 := hB.size
      have l7X := X.lt
      have l7Y := Y.lt
      have l7NN := NN.lt
      replace X := X.alloc (.cells #[.int .i64 (Iv.add l h l' h').lo, .int .i64 (Iv.add l h l' h').hi] 23)
      replace Y := Y.alloc (.cells #[.int .i64 (Iv.add l h l' h').lo, .int .i64 (Iv.add l h l' h').hi] 23)
      replace NN := NN.alloc (.cells #[.int .i64 (Iv.add l h l' h').lo, .int .i64 (Iv.add l h l' h').hi] 23)
      replace hB := bal hB (.cells #[.int .i64 (Iv.add l h l' h').lo, .int .i64 (Iv.add l h l' h').hi] 23)
      have A := Blk.new w7 23 #[.int .i64 (Iv.add l h l' h').lo, .int .i64 (Iv.add l h l' h').hi]
      obtain ⟨c00, c01, c02, c03⟩ := X.open2
      obtain ⟨c10, c11, c12, c13⟩ := Y.open2
      obtain ⟨c20, c21, c22, c23⟩ := A.open2
      go_wp2_with fail
      refine (sub_ci _ _ _ _ _).mono ?_
      rw [hm1.out]
      rintro e w8 ⟨rfl, hb⟩
      clear c00 c01 c02 c03 c10 c11 c12 c13 c20 c21 c22 c23
      replace X := X.keep hb
      replace Y := Y.keep hb
      replace NN := NN.keep hb
      replace A := A.keep hb
      replace hB := bt hB hb
      clear hb
      have hz8 := hB.size
      have l8X := X.lt
      have l8Y := Y.lt
      have l8NN := NN.lt
      have l8A := A.lt
      replace X := X.alloc (.cells #[.int .i64 (Iv.sub l h l' h').lo, .int .i64 (Iv.sub l h l' h').hi] 23)
      replace Y := Y.alloc (.cells #[.int .i64 (Iv.sub l h l' h').lo, .int .i64 (Iv.sub l h l' h').hi] 23)
      replace NN := NN.alloc (.cells #[.int .i64 (Iv.sub l h l' h').lo, .int .i64 (Iv.sub l h l' h').hi] 23)
      replace A := A.alloc (.cells #[.int .i64 (Iv.sub l h l' h').lo, .int .i64 (Iv.sub l h l' h').hi] 23)
      replace hB := bal hB (.cells #[.int .i64 (Iv.sub l h l' h').lo, .int .i64 (Iv.sub l h l' h').hi] 23)
      have B := Blk.new w8 23 #[.int .i64 (Iv.sub l h l' h').lo, .int .i64 (Iv.sub l h l' h').hi]
      obtain ⟨c00, c01, c02, c03⟩ := X.open2
      obtain ⟨c10, c11, c12, c13⟩ := Y.open2
      obtain ⟨c20, c21, c22, c23⟩ := A.open2
      obtain ⟨c30, c31, c32, c33⟩ := B.open2
      go_wp2_with fail
      refine (mul_ci _ _ _ _ _).mono ?_
      rw [c2.out]
      rintro e w9 ⟨rfl, hb⟩
      clear c00 c01 c02 c03 c10 c11 c12 c13 c20 c21 c22 c23 c30 c31 c32 c33
      replace X := X.keep hb
      replace Y := Y.keep hb
      replace NN := NN.keep hb
      replace A := A.keep hb
      replace B := B.keep hb
      replace hB := bt hB hb
      clear hb
      have hz9 := hB.size
      have l9X := X.lt
      have l9Y := Y.lt
      have l9NN := NN.lt
      have l9A := A.lt
      have l9B := B.lt
      replace X := X.alloc (.cells #[.int .i64 (Iv.mul l h l' h').lo, .int .i64 (Iv.mul l h l' h').hi] 23)
      replace Y := Y.alloc (.cells #[.int .i64 (Iv.mul l h l' h').lo, .int .i64 (Iv.mul l h l' h').hi] 23)
      replace NN := NN.alloc (.cells #[.int .i64 (Iv.mul l h l' h').lo, .int .i64 (Iv.mul l h l' h').hi] 23)
      replace A := A.alloc (.cells #[.int .i64 (Iv.mul l h l' h').lo, .int .i64 (Iv.mul l h l' h').hi] 23)
      replace B := B.alloc (.cells #[.int .i64 (Iv.mul l h l' h').lo, .int .i64 (Iv.mul l h l' h').hi] 23)
      replace hB := bal hB (.cells #[.int .i64 (Iv.mul l h l' h').lo, .int .i64 (Iv.mul l h l' h').hi] 23)
      have C := Blk.new w9 23 #[.int .i64 (Iv.mul l h l' h').lo, .int .i64 (Iv.mul l h l' h').hi]
      obtain ⟨c00, c01, c02, c03⟩ := C.open2
      go_wp2_with fail
      refine (mul_c _ _ _ x1 x2 y1 y2).mono ?_
      rintro e w10 ⟨rfl, hb⟩
      clear c00 c01 c02 c03
      replace X := X.keep hb
      replace Y := Y.keep hb
      replace NN := NN.keep hb
      replace A := A.keep hb
      replace B := B.keep hb
      replace C := C.keep hb
      replace hB := bt hB hb
      clear hb
      obtain ⟨c00, c01, c02, c03⟩ := C.open2
      go_wp2_with fail
      refine (int_c _ _ _ _ mw).mono ?_
      rw [k1.out, k2.out]
      rintro e w11 ⟨rfl, hb⟩
      clear c00 c01 c02 c03
      replace X := X.keep hb
      replace Y := Y.keep hb
      replace NN := NN.keep hb
      replace A := A.keep hb
      replace B := B.keep hb
      replace C := C.keep hb
      replace hB := bt hB hb
      clear hb
      obtain ⟨c00, c01, c02, c03⟩ := C.open2
      go_wp2_with fail
      refine (has_c _ _ _ _).mono ?_
      rw [N2.out]
      rintro e w12 ⟨rfl, hb⟩
      clear c00 c01 c02 c03
      replace X := X.keep hb
      replace Y := Y.keep hb
      replace NN := NN.keep hb
      replace A := A.keep hb
      replace B := B.keep hb
      replace C := C.keep hb
      replace hB := bt hB hb
      clear hb
      go_wp2_with fail
      go_returns
      exact ⟨rfl, hB⟩
  · have e1 := Lib.hid (Iv.vb_yes v)
    have e2 := Lib.hid (Iv.vb_yes v2)
    have V1 := Lib.hid v
    have V2 := Lib.hid v2
    obtain ⟨mu, hx⟩ : ∃ u, Hid (Iv.mb l h n0 = u) := ⟨_, Lib.hid rfl⟩
    obtain ⟨mv, hy⟩ : ∃ u, Hid (Iv.mb l' h' n1 = u) := ⟨_, Lib.hid rfl⟩
    have hu := Iv.mb_in (n := n0) v
    have hv := Iv.mb_in (n := n1) v2
    rw [hx.out] at hu
    rw [hy.out] at hv
    have g1 := Lib.hid (Iv.hs_yes v hu.1 hu.2)
    have g2 := Lib.hid (Iv.hs_yes v2 hv.1 hv.2)
    have x1 : -9223372036854775808 ≤ mu := by unfold Iv.Vd at v; omega
    have x2 : mu ≤ 9223372036854775807 := by unfold Iv.Vd at v; omega
    have y1 : -9223372036854775808 ≤ mv := by unfold Iv.Vd at v2; omega
    have y2 : mv ≤ 9223372036854775807 := by unfold Iv.Vd at v2; omega
    have mw := Wi.wd_self (mul_W x1 x2 y1 y2)
    obtain ⟨m0, hm0⟩ : ∃ m, Hid ((Iv.add l h l' h').er = m) := ⟨_, Lib.hid rfl⟩
    rw [hm0.out] at c0
    have k0_ : (m0 == 0) = false := by simpa using c0
    have kk0_ : (m0 != 0) = true := by simpa using c0
    clear c0
    obtain ⟨m1, hm1⟩ : ∃ m, Hid ((Iv.sub l h l' h').er = m) := ⟨_, Lib.hid rfl⟩
    rw [hm1.out] at c1
    have k1_ : (m1 == 0) = false := by simpa using c1
    have kk1_ : (m1 != 0) = true := by simpa using c1
    clear c1
    obtain ⟨m2, hm2⟩ : ∃ m, Hid ((Iv.mul l h l' h').er = m) := ⟨_, Lib.hid rfl⟩
    rw [hm2.out] at c2
    have k2_ : (m2 == 0) = false := by simpa using c2
    have kk2_ : (m2 != 0) = true := by simpa using c2
    clear c2
    clear v v2 hu hv
    go_enter Try.func9, Try.ntmps9
    have X := Blk.new w 23 #[.int .i64 (l), .int .i64 (h)]
    have hB := ba w (.cells #[.int .i64 (l), .int .i64 (h)] 23)
    have Y := Blk.new1 w (.cells #[.int .i64 (l), .int .i64 (h)] 23) 23 #[.int .i64 (l'), .int .i64 (h')]
    replace X := X.alloc (.cells #[.int .i64 (l'), .int .i64 (h')] 23)
    replace hB := bal hB (.cells #[.int .i64 (l'), .int .i64 (h')] 23)
    have NN := Blk.new2 w (.cells #[.int .i64 (l), .int .i64 (h)] 23) (.cells #[.int .i64 (l'), .int .i64 (h')] 23) 45 #[.int .u64 n0, .int .u64 n1]
    replace X := X.alloc (.cells #[.int .u64 n0, .int .u64 n1] 45)
    replace Y := Y.alloc (.cells #[.int .u64 n0, .int .u64 n1] 45)
    replace hB := bal hB (.cells #[.int .u64 n0, .int .u64 n1] 45)
    go_wp2_with fail
    refine (awake_ci _).mono ?_
    rintro e w1 ⟨rfl, hb⟩
    replace X := X.keep hb
    replace Y := Y.keep hb
    replace NN := NN.keep hb
    replace hB := bt hB hb
    clear hb
    obtain ⟨c00, c01, c02, c03⟩ := X.open2
    go_wp2_with fail
    refine (valid_c _ _ _).mono ?_
    rw [e1.out]
    rintro e w2 ⟨rfl, hb⟩
    clear c00 c01 c02 c03
    replace X := X.keep hb
    replace Y := Y.keep hb
    replace NN := NN.keep hb
    replace hB := bt hB hb
    clear hb
    obtain ⟨c00, c01, c02, c03⟩ := Y.open2
    go_wp2_with fail
    refine (valid_c _ _ _).mono ?_
    rw [e2.out]
    rintro e w3 ⟨rfl, hb⟩
    clear c00 c01 c02 c03
    replace X := X.keep hb
    replace Y := Y.keep hb
    replace NN := NN.keep hb
    replace hB := bt hB hb
    clear hb
    go_wp2_with fail
    refine wp_region_inv (fun L x G wx => Below w.heap.size w wx
          ∧ w.heap.size < wx.heap.size
          ∧ Blk wx (w.heap.size) 23 #[.int .i64 (l), .int .i64 (h)]
          ∧ w.heap.size + 1 < wx.heap.size
          ∧ Blk wx (w.heap.size + 1) 23 #[.int .i64 (l'), .int .i64 (h')]
          ∧ w.heap.size + 1 + 1 < wx.heap.size
          ∧ Blk wx (w.heap.size + 1 + 1) 45 #[.int .u64 n0, .int .u64 n1]
          ∧ (L 0 → x 37 = .agg #[.int .i64 (l), .int .i64 (h)])
          ∧ (L 1 → x 38 = .pointer (some ⟨w.heap.size + 1 + 1, 0, none⟩))
          ∧ (L 2 → x 39 = .int .u64 n0)
          ∧ (L 3 → x 40 = .int .i64 (mu))
          ∧ (L 4 → x 41 = .agg #[.int .i64 (l'), .int .i64 (h')])
          ∧ (L 5 → x 42 = .pointer (some ⟨w.heap.size + 1 + 1, 1, none⟩))
          ∧ (L 6 → x 43 = .int .u64 n1)
          ∧ (L 7 → x 44 = .int .i64 (mv))
          ∧ (L 8 → x 9 = .int .i64 (mu))
          ∧ (L 9 → x 10 = .int .i64 (mv))) [37, 38, 39, 40, 41, 42, 43, 44, 9, 10] 10 (by kernel_rfl) (by kernel_rfl) (by kernel_rfl) ?h0 ?st ?fin
    case h0 =>
      exact ⟨bdr hB, Blk.lt X.drew, X.drew, Blk.lt Y.drew, Y.drew, Blk.lt NN.drew, NN.drew, fun q => q.elim, fun q => q.elim, fun q => q.elim, fun q => q.elim, fun q => q.elim, fun q => q.elim, fun q => q.elim, fun q => q.elim, fun q => q.elim, fun q => q.elim⟩
    case st =>
      refine StepsOk.cons (i := 0) rfl (fun L x G w1 K Q hn hp hJ hK => ?_) ?_
      · skip
        have hc := Blk.open2 ((hJ.2.2.1))
        have c0 := hc.1
        have c1 := hc.2.1
        have c2 := hc.2.2.1
        have c3 := hc.2.2.2
        clear hc
        simp only [putAll, Act.put, List.setIfInBounds_toArray, List.set_cons_zero, List.set_cons_succ]
        go_simp
        refine hK _ G _ (by kernel_rfl) ?_
        exact ⟨(hJ.1),
          (hJ.2.1),
          (hJ.2.2.1),
          (hJ.2.2.2.1),
          (hJ.2.2.2.2.1),
          (hJ.2.2.2.2.2.1),
          (hJ.2.2.2.2.2.2.1),
          fun _ => rfl,
          fun q => (hJ.2.2.2.2.2.2.2.2.1) (q.resolve_left (by decide)),
          fun q => (hJ.2.2.2.2.2.2.2.2.2.1) (q.resolve_left (by decide)),
          fun q => (hJ.2.2.2.2.2.2.2.2.2.2.1) (q.resolve_left (by decide)),
          fun q => (hJ.2.2.2.2.2.2.2.2.2.2.2.1) (q.resolve_left (by decide)),
          fun q => (hJ.2.2.2.2.2.2.2.2.2.2.2.2.1) (q.resolve_left (by decide)),
          fun q => (hJ.2.2.2.2.2.2.2.2.2.2.2.2.2.1) (q.resolve_left (by decide)),
          fun q => (hJ.2.2.2.2.2.2.2.2.2.2.2.2.2.2.1) (q.resolve_left (by decide)),
          fun q => (hJ.2.2.2.2.2.2.2.2.2.2.2.2.2.2.2.1) (q.resolve_left (by decide)),
          fun q => (hJ.2.2.2.2.2.2.2.2.2.2.2.2.2.2.2.2) (q.resolve_left (by decide))⟩
      refine StepsOk.cons (i := 1) rfl (fun L x G w1 K Q hn hp hJ hK => ?_) ?_
      · skip
        simp only [putAll, Act.put, List.setIfInBounds_toArray, List.set_cons_zero, List.set_cons_succ]
        go_simp
        refine hK _ G _ (by kernel_rfl) ?_
        exact ⟨(hJ.1),
          (hJ.2.1),
          (hJ.2.2.1),
          (hJ.2.2.2.1),
          (hJ.2.2.2.2.1),
          (hJ.2.2.2.2.2.1),
          (hJ.2.2.2.2.2.2.1),
          fun q => (hJ.2.2.2.2.2.2.2.1) (q.resolve_left (by decide)),
          fun _ => rfl,
          fun q => (hJ.2.2.2.2.2.2.2.2.2.1) (q.resolve_left (by decide)),
          fun q => (hJ.2.2.2.2.2.2.2.2.2.2.1) (q.resolve_left (by decide)),
          fun q => (hJ.2.2.2.2.2.2.2.2.2.2.2.1) (q.resolve_left (by decide)),
          fun q => (hJ.2.2.2.2.2.2.2.2.2.2.2.2.1) (q.resolve_left (by decide)),
          fun q => (hJ.2.2.2.2.2.2.2.2.2.2.2.2.2.1) (q.resolve_left (by decide)),
          fun q => (hJ.2.2.2.2.2.2.2.2.2.2.2.2.2.2.1) (q.resolve_left (by decide)),
          fun q => (hJ.2.2.2.2.2.2.2.2.2.2.2.2.2.2.2.1) (q.resolve_left (by decide)),
          fun q => (hJ.2.2.2.2.2.2.2.2.2.2.2.2.2.2.2.2) (q.resolve_left (by decide))⟩
      refine StepsOk.cons (i := 2) rfl (fun L x G w1 K Q hn hp hJ hK => ?_) ?_
      · skip
        have p1 : L 1 := hp ⟨1, .data⟩ (by simp) rfl
        have e1 := (hJ.2.2.2.2.2.2.2.2.1) p1
        have hc := Blk.open2 ((hJ.2.2.2.2.2.2.1))
        have c0 := hc.1
        have c1 := hc.2.1
        have c2 := hc.2.2.1
        have c3 := hc.2.2.2
        clear hc
        simp only [putAll, Act.put, List.setIfInBounds_toArray, List.set_cons_zero, List.set_cons_succ]
        go_simp
        refine hK _ G _ (by kernel_rfl) ?_
        exact ⟨(hJ.1),
          (hJ.2.1),
          (hJ.2.2.1),
          (hJ.2.2.2.1),
          (hJ.2.2.2.2.1),
          (hJ.2.2.2.2.2.1),
          (hJ.2.2.2.2.2.2.1),
          fun q => (hJ.2.2.2.2.2.2.2.1) (q.resolve_left (by decide)),
          fun _ => by first | exact rfl | exact e1,
          fun _ => rfl,
          fun q => (hJ.2.2.2.2.2.2.2.2.2.2.1) (q.resolve_left (by decide)),
          fun q => (hJ.2.2.2.2.2.2.2.2.2.2.2.1) (q.resolve_left (by decide)),
          fun q => (hJ.2.2.2.2.2.2.2.2.2.2.2.2.1) (q.resolve_left (by decide)),
          fun q => (hJ.2.2.2.2.2.2.2.2.2.2.2.2.2.1) (q.resolve_left (by decide)),
          fun q => (hJ.2.2.2.2.2.2.2.2.2.2.2.2.2.2.1) (q.resolve_left (by decide)),
          fun q => (hJ.2.2.2.2.2.2.2.2.2.2.2.2.2.2.2.1) (q.resolve_left (by decide)),
          fun q => (hJ.2.2.2.2.2.2.2.2.2.2.2.2.2.2.2.2) (q.resolve_left (by decide))⟩
      refine StepsOk.cons (i := 3) rfl (fun L x G w1 K Q hn hp hJ hK => ?_) ?_
      · skip
        have p0 : L 0 := hp ⟨0, .data⟩ (by simp) rfl
        have e0 := (hJ.2.2.2.2.2.2.2.1) p0
        have p2 : L 2 := hp ⟨2, .data⟩ (by simp) rfl
        have e2 := (hJ.2.2.2.2.2.2.2.2.2.1) p2
        simp only [putAll, Act.put, List.setIfInBounds_toArray, List.set_cons_zero, List.set_cons_succ]
        go_simp
        refine (member_c _ _ _ _ V1.out a1 a2).mono ?_
        rw [hx.out]
        rintro e w2 ⟨rfl, hb⟩
        have hz := hb.size
        try go_simp
        refine hK _ G _ (by kernel_rfl) ?_
        exact ⟨bt (hJ.1) hb,
          Nat.lt_of_lt_of_le (hJ.2.1) hb.size,
          Blk.keep ((hJ.2.2.1)) hb,
          Nat.lt_of_lt_of_le (hJ.2.2.2.1) hb.size,
          Blk.keep ((hJ.2.2.2.2.1)) hb,
          Nat.lt_of_lt_of_le (hJ.2.2.2.2.2.1) hb.size,
          Blk.keep ((hJ.2.2.2.2.2.2.1)) hb,
          fun _ => by first | exact rfl | exact e0,
          fun q => (hJ.2.2.2.2.2.2.2.2.1) (q.resolve_left (by decide)),
          fun _ => by first | exact rfl | exact e2,
          fun _ => rfl,
          fun q => (hJ.2.2.2.2.2.2.2.2.2.2.2.1) (q.resolve_left (by decide)),
          fun q => (hJ.2.2.2.2.2.2.2.2.2.2.2.2.1) (q.resolve_left (by decide)),
          fun q => (hJ.2.2.2.2.2.2.2.2.2.2.2.2.2.1) (q.resolve_left (by decide)),
          fun q => (hJ.2.2.2.2.2.2.2.2.2.2.2.2.2.2.1) (q.resolve_left (by decide)),
          fun q => (hJ.2.2.2.2.2.2.2.2.2.2.2.2.2.2.2.1) (q.resolve_left (by decide)),
          fun q => (hJ.2.2.2.2.2.2.2.2.2.2.2.2.2.2.2.2) (q.resolve_left (by decide))⟩
      refine StepsOk.cons (i := 4) rfl (fun L x G w1 K Q hn hp hJ hK => ?_) ?_
      · skip
        have hc := Blk.open2 ((hJ.2.2.2.2.1))
        have c0 := hc.1
        have c1 := hc.2.1
        have c2 := hc.2.2.1
        have c3 := hc.2.2.2
        clear hc
        simp only [putAll, Act.put, List.setIfInBounds_toArray, List.set_cons_zero, List.set_cons_succ]
        go_simp
        refine hK _ G _ (by kernel_rfl) ?_
        exact ⟨(hJ.1),
          (hJ.2.1),
          (hJ.2.2.1),
          (hJ.2.2.2.1),
          (hJ.2.2.2.2.1),
          (hJ.2.2.2.2.2.1),
          (hJ.2.2.2.2.2.2.1),
          fun q => (hJ.2.2.2.2.2.2.2.1) (q.resolve_left (by decide)),
          fun q => (hJ.2.2.2.2.2.2.2.2.1) (q.resolve_left (by decide)),
          fun q => (hJ.2.2.2.2.2.2.2.2.2.1) (q.resolve_left (by decide)),
          fun q => (hJ.2.2.2.2.2.2.2.2.2.2.1) (q.resolve_left (by decide)),
          fun _ => rfl,
          fun q => (hJ.2.2.2.2.2.2.2.2.2.2.2.2.1) (q.resolve_left (by decide)),
          fun q => (hJ.2.2.2.2.2.2.2.2.2.2.2.2.2.1) (q.resolve_left (by decide)),
          fun q => (hJ.2.2.2.2.2.2.2.2.2.2.2.2.2.2.1) (q.resolve_left (by decide)),
          fun q => (hJ.2.2.2.2.2.2.2.2.2.2.2.2.2.2.2.1) (q.resolve_left (by decide)),
          fun q => (hJ.2.2.2.2.2.2.2.2.2.2.2.2.2.2.2.2) (q.resolve_left (by decide))⟩
      refine StepsOk.cons (i := 5) rfl (fun L x G w1 K Q hn hp hJ hK => ?_) ?_
      · skip
        simp only [putAll, Act.put, List.setIfInBounds_toArray, List.set_cons_zero, List.set_cons_succ]
        go_simp
        refine hK _ G _ (by kernel_rfl) ?_
        exact ⟨(hJ.1),
          (hJ.2.1),
          (hJ.2.2.1),
          (hJ.2.2.2.1),
          (hJ.2.2.2.2.1),
          (hJ.2.2.2.2.2.1),
          (hJ.2.2.2.2.2.2.1),
          fun q => (hJ.2.2.2.2.2.2.2.1) (q.resolve_left (by decide)),
          fun q => (hJ.2.2.2.2.2.2.2.2.1) (q.resolve_left (by decide)),
          fun q => (hJ.2.2.2.2.2.2.2.2.2.1) (q.resolve_left (by decide)),
          fun q => (hJ.2.2.2.2.2.2.2.2.2.2.1) (q.resolve_left (by decide)),
          fun q => (hJ.2.2.2.2.2.2.2.2.2.2.2.1) (q.resolve_left (by decide)),
          fun _ => rfl,
          fun q => (hJ.2.2.2.2.2.2.2.2.2.2.2.2.2.1) (q.resolve_left (by decide)),
          fun q => (hJ.2.2.2.2.2.2.2.2.2.2.2.2.2.2.1) (q.resolve_left (by decide)),
          fun q => (hJ.2.2.2.2.2.2.2.2.2.2.2.2.2.2.2.1) (q.resolve_left (by decide)),
          fun q => (hJ.2.2.2.2.2.2.2.2.2.2.2.2.2.2.2.2) (q.resolve_left (by decide))⟩
      refine StepsOk.cons (i := 6) rfl (fun L x G w1 K Q hn hp hJ hK => ?_) ?_
      · skip
        have p5 : L 5 := hp ⟨5, .data⟩ (by simp) rfl
        have e5 := (hJ.2.2.2.2.2.2.2.2.2.2.2.2.1) p5
        have hc := Blk.open2 ((hJ.2.2.2.2.2.2.1))
        have c0 := hc.1
        have c1 := hc.2.1
        have c2 := hc.2.2.1
        have c3 := hc.2.2.2
        clear hc
        simp only [putAll, Act.put, List.setIfInBounds_toArray, List.set_cons_zero, List.set_cons_succ]
        go_simp
        refine hK _ G _ (by kernel_rfl) ?_
        exact ⟨(hJ.1),
          (hJ.2.1),
          (hJ.2.2.1),
          (hJ.2.2.2.1),
          (hJ.2.2.2.2.1),
          (hJ.2.2.2.2.2.1),
          (hJ.2.2.2.2.2.2.1),
          fun q => (hJ.2.2.2.2.2.2.2.1) (q.resolve_left (by decide)),
          fun q => (hJ.2.2.2.2.2.2.2.2.1) (q.resolve_left (by decide)),
          fun q => (hJ.2.2.2.2.2.2.2.2.2.1) (q.resolve_left (by decide)),
          fun q => (hJ.2.2.2.2.2.2.2.2.2.2.1) (q.resolve_left (by decide)),
          fun q => (hJ.2.2.2.2.2.2.2.2.2.2.2.1) (q.resolve_left (by decide)),
          fun _ => by first | exact rfl | exact e5,
          fun _ => rfl,
          fun q => (hJ.2.2.2.2.2.2.2.2.2.2.2.2.2.2.1) (q.resolve_left (by decide)),
          fun q => (hJ.2.2.2.2.2.2.2.2.2.2.2.2.2.2.2.1) (q.resolve_left (by decide)),
          fun q => (hJ.2.2.2.2.2.2.2.2.2.2.2.2.2.2.2.2) (q.resolve_left (by decide))⟩
      refine StepsOk.cons (i := 7) rfl (fun L x G w1 K Q hn hp hJ hK => ?_) ?_
      · skip
        have p4 : L 4 := hp ⟨4, .data⟩ (by simp) rfl
        have e4 := (hJ.2.2.2.2.2.2.2.2.2.2.2.1) p4
        have p6 : L 6 := hp ⟨6, .data⟩ (by simp) rfl
        have e6 := (hJ.2.2.2.2.2.2.2.2.2.2.2.2.2.1) p6
        simp only [putAll, Act.put, List.setIfInBounds_toArray, List.set_cons_zero, List.set_cons_succ]
        go_simp
        refine (member_c _ _ _ _ V2.out b1 b2).mono ?_
        rw [hy.out]
        rintro e w2 ⟨rfl, hb⟩
        have hz := hb.size
        try go_simp
        refine hK _ G _ (by kernel_rfl) ?_
        exact ⟨bt (hJ.1) hb,
          Nat.lt_of_lt_of_le (hJ.2.1) hb.size,
          Blk.keep ((hJ.2.2.1)) hb,
          Nat.lt_of_lt_of_le (hJ.2.2.2.1) hb.size,
          Blk.keep ((hJ.2.2.2.2.1)) hb,
          Nat.lt_of_lt_of_le (hJ.2.2.2.2.2.1) hb.size,
          Blk.keep ((hJ.2.2.2.2.2.2.1)) hb,
          fun q => (hJ.2.2.2.2.2.2.2.1) (q.resolve_left (by decide)),
          fun q => (hJ.2.2.2.2.2.2.2.2.1) (q.resolve_left (by decide)),
          fun q => (hJ.2.2.2.2.2.2.2.2.2.1) (q.resolve_left (by decide)),
          fun q => (hJ.2.2.2.2.2.2.2.2.2.2.1) (q.resolve_left (by decide)),
          fun _ => by first | exact rfl | exact e4,
          fun q => (hJ.2.2.2.2.2.2.2.2.2.2.2.2.1) (q.resolve_left (by decide)),
          fun _ => by first | exact rfl | exact e6,
          fun _ => rfl,
          fun q => (hJ.2.2.2.2.2.2.2.2.2.2.2.2.2.2.2.1) (q.resolve_left (by decide)),
          fun q => (hJ.2.2.2.2.2.2.2.2.2.2.2.2.2.2.2.2) (q.resolve_left (by decide))⟩
      refine StepsOk.cons (i := 8) rfl (fun L x G w1 K Q hn hp hJ hK => ?_) ?_
      · skip
        have p3 : L 3 := hp ⟨3, .data⟩ (by simp) rfl
        have e3 := (hJ.2.2.2.2.2.2.2.2.2.2.1) p3
        simp only [putAll, Act.put, List.setIfInBounds_toArray, List.set_cons_zero, List.set_cons_succ]
        go_simp
        refine hK _ G _ (by kernel_rfl) ?_
        exact ⟨(hJ.1),
          (hJ.2.1),
          (hJ.2.2.1),
          (hJ.2.2.2.1),
          (hJ.2.2.2.2.1),
          (hJ.2.2.2.2.2.1),
          (hJ.2.2.2.2.2.2.1),
          fun q => (hJ.2.2.2.2.2.2.2.1) (q.resolve_left (by decide)),
          fun q => (hJ.2.2.2.2.2.2.2.2.1) (q.resolve_left (by decide)),
          fun q => (hJ.2.2.2.2.2.2.2.2.2.1) (q.resolve_left (by decide)),
          fun _ => by first | exact rfl | exact e3,
          fun q => (hJ.2.2.2.2.2.2.2.2.2.2.2.1) (q.resolve_left (by decide)),
          fun q => (hJ.2.2.2.2.2.2.2.2.2.2.2.2.1) (q.resolve_left (by decide)),
          fun q => (hJ.2.2.2.2.2.2.2.2.2.2.2.2.2.1) (q.resolve_left (by decide)),
          fun q => (hJ.2.2.2.2.2.2.2.2.2.2.2.2.2.2.1) (q.resolve_left (by decide)),
          fun _ => rfl,
          fun q => (hJ.2.2.2.2.2.2.2.2.2.2.2.2.2.2.2.2) (q.resolve_left (by decide))⟩
      refine StepsOk.cons (i := 9) rfl (fun L x G w1 K Q hn hp hJ hK => ?_) ?_
      · skip
        have p7 : L 7 := hp ⟨7, .data⟩ (by simp) rfl
        have e7 := (hJ.2.2.2.2.2.2.2.2.2.2.2.2.2.2.1) p7
        simp only [putAll, Act.put, List.setIfInBounds_toArray, List.set_cons_zero, List.set_cons_succ]
        go_simp
        refine hK _ G _ (by kernel_rfl) ?_
        exact ⟨(hJ.1),
          (hJ.2.1),
          (hJ.2.2.1),
          (hJ.2.2.2.1),
          (hJ.2.2.2.2.1),
          (hJ.2.2.2.2.2.1),
          (hJ.2.2.2.2.2.2.1),
          fun q => (hJ.2.2.2.2.2.2.2.1) (q.resolve_left (by decide)),
          fun q => (hJ.2.2.2.2.2.2.2.2.1) (q.resolve_left (by decide)),
          fun q => (hJ.2.2.2.2.2.2.2.2.2.1) (q.resolve_left (by decide)),
          fun q => (hJ.2.2.2.2.2.2.2.2.2.2.1) (q.resolve_left (by decide)),
          fun q => (hJ.2.2.2.2.2.2.2.2.2.2.2.1) (q.resolve_left (by decide)),
          fun q => (hJ.2.2.2.2.2.2.2.2.2.2.2.2.1) (q.resolve_left (by decide)),
          fun q => (hJ.2.2.2.2.2.2.2.2.2.2.2.2.2.1) (q.resolve_left (by decide)),
          fun _ => by first | exact rfl | exact e7,
          fun q => (hJ.2.2.2.2.2.2.2.2.2.2.2.2.2.2.2.1) (q.resolve_left (by decide)),
          fun _ => rfl⟩
      exact StepsOk.nil
    case fin =>
      intro L x G w4 hall hJ
      replace X := (hJ.2.2.1)
      replace Y := (hJ.2.2.2.2.1)
      replace NN := (hJ.2.2.2.2.2.2.1)
      have u0 := hJ.2.2.2.2.2.2.2.1 (hall 0 (by decide))
      have u1 := hJ.2.2.2.2.2.2.2.2.1 (hall 1 (by decide))
      have u2 := hJ.2.2.2.2.2.2.2.2.2.1 (hall 2 (by decide))
      have u3 := hJ.2.2.2.2.2.2.2.2.2.2.1 (hall 3 (by decide))
      have u4 := hJ.2.2.2.2.2.2.2.2.2.2.2.1 (hall 4 (by decide))
      have u5 := hJ.2.2.2.2.2.2.2.2.2.2.2.2.1 (hall 5 (by decide))
      have u6 := hJ.2.2.2.2.2.2.2.2.2.2.2.2.2.1 (hall 6 (by decide))
      have u7 := hJ.2.2.2.2.2.2.2.2.2.2.2.2.2.2.1 (hall 7 (by decide))
      have u8 := hJ.2.2.2.2.2.2.2.2.2.2.2.2.2.2.2.1 (hall 8 (by decide))
      have u9 := hJ.2.2.2.2.2.2.2.2.2.2.2.2.2.2.2.2 (hall 9 (by decide))
      replace hB := hJ.1
      simp only [putAll, Act.put, List.setIfInBounds_toArray, List.set_cons_zero, List.set_cons_succ]
      simp only [u0, u1, u2, u3, u4, u5, u6, u7, u8, u9]
      clear hall hJ u0 u1 u2 u3 u4 u5 u6 u7 u8 u9
      obtain ⟨c00, c01, c02, c03⟩ := X.open2
      go_wp2_with fail
      refine (has_c _ _ _ _).mono ?_
      rw [g1.out]
      rintro e w5 ⟨rfl, hb⟩
      clear c00 c01 c02 c03
      replace X := X.keep hb
      replace Y := Y.keep hb
      replace NN := NN.keep hb
      replace hB := bt hB hb
      clear hb
      obtain ⟨c00, c01, c02, c03⟩ := Y.open2
      go_wp2_with fail
      refine (has_c _ _ _ _).mono ?_
      rw [g2.out]
      rintro e w6 ⟨rfl, hb⟩
      clear c00 c01 c02 c03
      replace X := X.keep hb
      replace Y := Y.keep hb
      replace NN := NN.keep hb
      replace hB := bt hB hb
      clear hb
      obtain ⟨c00, c01, c02, c03⟩ := X.open2
      obtain ⟨c10, c11, c12, c13⟩ := Y.open2
      go_wp2_with fail
      refine (add_ci _ _ _ _ _).mono ?_
      rw [hm0.out]
      rintro e w7 ⟨rfl, hb⟩
      clear c00 c01 c02 c03 c10 c11 c12 c13
      replace X := X.keep hb
      replace Y := Y.keep hb
      replace NN := NN.keep hb
      replace hB := bt hB hb
      clear hb
      have hz7 := hB.size
      have l7X := X.lt
      have l7Y := Y.lt
      have l7NN := NN.lt
      replace X := X.alloc (.cells #[.int .i64 (Iv.add l h l' h').lo, .int .i64 (Iv.add l h l' h').hi] 23)
      replace Y := Y.alloc (.cells #[.int .i64 (Iv.add l h l' h').lo, .int .i64 (Iv.add l h l' h').hi] 23)
      replace NN := NN.alloc (.cells #[.int .i64 (Iv.add l h l' h').lo, .int .i64 (Iv.add l h l' h').hi] 23)
      replace hB := bal hB (.cells #[.int .i64 (Iv.add l h l' h').lo, .int .i64 (Iv.add l h l' h').hi] 23)
      have A := Blk.new w7 23 #[.int .i64 (Iv.add l h l' h').lo, .int .i64 (Iv.add l h l' h').hi]
      obtain ⟨c00, c01, c02, c03⟩ := X.open2
      obtain ⟨c10, c11, c12, c13⟩ := Y.open2
      obtain ⟨c20, c21, c22, c23⟩ := A.open2
      go_wp2_with fail
      refine (sub_ci _ _ _ _ _).mono ?_
      rw [hm1.out]
      rintro e w8 ⟨rfl, hb⟩
      clear c00 c01 c02 c03 c10 c11 c12 c13 c20 c21 c22 c23
      replace X := X.keep hb
      replace Y := Y.keep hb
      replace NN := NN.keep hb
      replace A := A.keep hb
      replace hB := bt hB hb
      clear hb
      have hz8 := hB.size
      have l8X := X.lt
      have l8Y := Y.lt
      have l8NN := NN.lt
      have l8A := A.lt
      replace X := X.alloc (.cells #[.int .i64 (Iv.sub l h l' h').lo, .int .i64 (Iv.sub l h l' h').hi] 23)
      replace Y := Y.alloc (.cells #[.int .i64 (Iv.sub l h l' h').lo, .int .i64 (Iv.sub l h l' h').hi] 23)
      replace NN := NN.alloc (.cells #[.int .i64 (Iv.sub l h l' h').lo, .int .i64 (Iv.sub l h l' h').hi] 23)
      replace A := A.alloc (.cells #[.int .i64 (Iv.sub l h l' h').lo, .int .i64 (Iv.sub l h l' h').hi] 23)
      replace hB := bal hB (.cells #[.int .i64 (Iv.sub l h l' h').lo, .int .i64 (Iv.sub l h l' h').hi] 23)
      have B := Blk.new w8 23 #[.int .i64 (Iv.sub l h l' h').lo, .int .i64 (Iv.sub l h l' h').hi]
      obtain ⟨c00, c01, c02, c03⟩ := X.open2
      obtain ⟨c10, c11, c12, c13⟩ := Y.open2
      obtain ⟨c20, c21, c22, c23⟩ := A.open2
      obtain ⟨c30, c31, c32, c33⟩ := B.open2
      go_wp2_with fail
      refine (mul_ci _ _ _ _ _).mono ?_
      rw [hm2.out]
      rintro e w9 ⟨rfl, hb⟩
      clear c00 c01 c02 c03 c10 c11 c12 c13 c20 c21 c22 c23 c30 c31 c32 c33
      replace X := X.keep hb
      replace Y := Y.keep hb
      replace NN := NN.keep hb
      replace A := A.keep hb
      replace B := B.keep hb
      replace hB := bt hB hb
      clear hb
      have hz9 := hB.size
      have l9X := X.lt
      have l9Y := Y.lt
      have l9NN := NN.lt
      have l9A := A.lt
      have l9B := B.lt
      replace X := X.alloc (.cells #[.int .i64 (Iv.mul l h l' h').lo, .int .i64 (Iv.mul l h l' h').hi] 23)
      replace Y := Y.alloc (.cells #[.int .i64 (Iv.mul l h l' h').lo, .int .i64 (Iv.mul l h l' h').hi] 23)
      replace NN := NN.alloc (.cells #[.int .i64 (Iv.mul l h l' h').lo, .int .i64 (Iv.mul l h l' h').hi] 23)
      replace A := A.alloc (.cells #[.int .i64 (Iv.mul l h l' h').lo, .int .i64 (Iv.mul l h l' h').hi] 23)
      replace B := B.alloc (.cells #[.int .i64 (Iv.mul l h l' h').lo, .int .i64 (Iv.mul l h l' h').hi] 23)
      replace hB := bal hB (.cells #[.int .i64 (Iv.mul l h l' h').lo, .int .i64 (Iv.mul l h l' h').hi] 23)
      have C := Blk.new w9 23 #[.int .i64 (Iv.mul l h l' h').lo, .int .i64 (Iv.mul l h l' h').hi]
      obtain ⟨c00, c01, c02, c03⟩ := C.open2
      go_wp2_with fail
      refine (mul_c _ _ _ x1 x2 y1 y2).mono ?_
      rintro e w10 ⟨rfl, hb⟩
      clear c00 c01 c02 c03
      replace X := X.keep hb
      replace Y := Y.keep hb
      replace NN := NN.keep hb
      replace A := A.keep hb
      replace B := B.keep hb
      replace C := C.keep hb
      replace hB := bt hB hb
      clear hb
      obtain ⟨c00, c01, c02, c03⟩ := C.open2
      go_wp2_with fail
      refine (int_c _ _ _ _ mw).mono ?_
      rintro e w11 ⟨rfl, hb⟩
      clear c00 c01 c02 c03
      replace X := X.keep hb
      replace Y := Y.keep hb
      replace NN := NN.keep hb
      replace A := A.keep hb
      replace B := B.keep hb
      replace C := C.keep hb
      replace hB := bt hB hb
      clear hb
      go_wp2_with fail
      go_returns
      exact ⟨rfl, hB⟩
end Go.Proofs.Ytclohghongpfkaa
