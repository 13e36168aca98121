/-
  Contract: Residual.
-/
import Derived.Test.YtcgcocingfhleaaQ9
import Derived.Test.YtcgcocingfhleaaQ10p
namespace Go.Proofs.Ytcgcocingfhleaa
set_option linter.unusedVariables false
set_option linter.unusedSimpArgs false
open Go.RowKit
attribute [local irreducible] World.setCell World.cell?

set_option maxRecDepth 100000 in
set_option maxHeartbeats 4000000 in
theorem residual_c (A : Option Addr) (n c : Nat) (M : Lq.Tab) (px py : Int) (w : World) (T : Rd w 6 A n c (iv M)) :
    Calls Try.prog 26 #[.slice A n c, .agg #[.int .i64 px, .int .i64 py]] w fun e w' => Rv n M px py e ∧ Below w.heap.size w w' := by
  by_cases h : Lq.ck n M = 0
  rotate_left
  · have h1 : (Lq.ck n M != 0) = true := by simpa using h
    have H := Lib.hid h
    clear h
    go_enter Try.func26, Try.ntmps26
    have P := Blk.new w 36 #[.int .i64 (px), .int .i64 (py)]
    have hB := ba w (.cells #[.int .i64 (px), .int .i64 (py)] 36)
    have R := Blk.new1 w (.cells #[.int .i64 (px), .int .i64 (py)] 36) 34 #[.int .i64 (0), .int .u64 (0)]
    replace P := P.alloc (.cells #[.int .i64 (0), .int .u64 (0)] 34)
    replace hB := bal hB (.cells #[.int .i64 (0), .int .u64 (0)] 34)
    go_wp2_with fail
    refine (check_c _ _ _ _ _ (T.keep hB)).mono ?_
    rintro e w1 ⟨rfl, hb⟩
    replace P := P.keep hb
    replace R := R.keep hb
    replace hB := bt hB hb
    clear hb
    obtain ⟨r00, r01, r02, r03⟩ := R.open2
    go_wp2_with fail
    refine bodyPost_ret (by simp [results, Try.results26, go_sem, r00, r01, r02, r03]; try rfl) rfl ?_
    exact ⟨rv_no (re_ck H.out) H.out, by repeat (first | exact Below.refl _ _ | (with_reducible assumption) | (with_reducible apply bal) | (with_reducible apply bdr) | (with_reducible apply bdnl) | (with_reducible refine bst ?_ (by first | (simp; done) | (simp; omega) | omega) _) | (with_reducible refine bt ?_ (by with_reducible assumption)))⟩
  have O := Lq.ck_ok.1 h
  have HC := Lib.hid h
  clear h
  cases hp : Lq.pv px py
  · have HP := Lib.hid hp
    clear hp
    go_enter Try.func26, Try.ntmps26
    have P := Blk.new w 36 #[.int .i64 (px), .int .i64 (py)]
    have hB := ba w (.cells #[.int .i64 (px), .int .i64 (py)] 36)
    have R := Blk.new1 w (.cells #[.int .i64 (px), .int .i64 (py)] 36) 34 #[.int .i64 (0), .int .u64 (0)]
    replace P := P.alloc (.cells #[.int .i64 (0), .int .u64 (0)] 34)
    replace hB := bal hB (.cells #[.int .i64 (0), .int .u64 (0)] 34)
    go_wp2_with fail
    refine (check_c _ _ _ _ _ (T.keep hB)).mono ?_
    rw [HC.out]
    rintro e w1 ⟨rfl, hb⟩
    replace P := P.keep hb
    replace R := R.keep hb
    replace hB := bt hB hb
    clear hb
    obtain ⟨c00, c01, c02, c03⟩ := P.open2
    go_wp2_with fail
    refine (pvalid_c _ _ _).mono ?_
    rw [HP.out]
    rintro e w2 ⟨rfl, hb⟩
    clear c00 c01 c02 c03
    replace P := P.keep hb
    replace R := R.keep hb
    replace hB := bt hB hb
    clear hb
    obtain ⟨r00, r01, r02, r03⟩ := R.open2
    go_wp2_with fail
    refine bodyPost_ret (by simp [results, Try.results26, go_sem, r00, r01, r02, r03]; try rfl) rfl ?_
    exact ⟨rv_no (re_1 HC.out HP.out) (by omega), by repeat (first | exact Below.refl _ _ | (with_reducible assumption) | (with_reducible apply bal) | (with_reducible apply bdr) | (with_reducible apply bdnl) | (with_reducible refine bst ?_ (by first | (simp; done) | (simp; omega) | omega) _) | (with_reducible refine bt ?_ (by with_reducible assumption)))⟩
  · have HP := Lib.hid hp
    clear hp
    obtain ⟨x1, x2, y1, y2⟩ := Lq.pv_iff.1 HP.out
    have r1 := T.le
    have r2 := T.mx
    go_enter Try.func26, Try.ntmps26
    have P := Blk.new w 36 #[.int .i64 (px), .int .i64 (py)]
    have hB := ba w (.cells #[.int .i64 (px), .int .i64 (py)] 36)
    have R := Blk.new1 w (.cells #[.int .i64 (px), .int .i64 (py)] 36) 34 #[.int .i64 (0), .int .u64 (0)]
    replace P := P.alloc (.cells #[.int .i64 (0), .int .u64 (0)] 34)
    replace hB := bal hB (.cells #[.int .i64 (0), .int .u64 (0)] 34)
    go_wp2_with fail
    refine (check_c _ _ _ _ _ (T.keep hB)).mono ?_
    rw [HC.out]
    rintro e w1 ⟨rfl, hb⟩
    replace P := P.keep hb
    replace R := R.keep hb
    replace hB := bt hB hb
    clear hb
    obtain ⟨c00, c01, c02, c03⟩ := P.open2
    go_wp2_with fail
    refine (pvalid_c _ _ _).mono ?_
    rw [HP.out]
    rintro e w2 ⟨rfl, hb⟩
    clear c00 c01 c02 c03
    replace P := P.keep hb
    replace R := R.keep hb
    replace hB := bt hB hb
    clear hb
    have hz2 := hB.size
    have l2P := P.lt
    have l2R := R.lt
    replace P := P.alloc (.cells #[.int .i64 (0), .int .u64 (0)] 34)
    replace R := R.alloc (.cells #[.int .i64 (0), .int .u64 (0)] 34)
    replace hB := bal hB (.cells #[.int .i64 (0), .int .u64 (0)] 34)
    have U := Blk.new w2 34 #[.int .i64 (0), .int .u64 (0)]
    have lU := U.lt
    go_wp2_with fail
    generalize w2.heap.size = gU at *
    go_loopw [24] (fun i wr => ∃ k : Nat, k ≤ n ∧ i = .int .i64 k ∧ Blk wr w.heap.size 36 #[.int .i64 (px), .int .i64 (py)] ∧ Blk wr (w.heap.size + 1) 34 #[.int .i64 (0), .int .u64 (0)] ∧ Blk wr gU 34 #[.int .i64 (Wi.Hq (Lq.qf k M px py 1)), .int .u64 (Wi.Lr (Lq.qf k M px py 1))] ∧ Below w.heap.size w wr) (fun i _ => n - (intOf i).toNat)
    case atStart => exact ⟨0, Nat.zero_le _, rfl, P, R, U, hB⟩
    case round =>
      clear P R U hB lU
      rename_i wr
      obtain ⟨k, hk, rfl, P, R, U, hB⟩ := hrel
      by_cases hlt : k < n
      · obtain ⟨bb, off, eA, hbl, u0, u1, u2, u3, u4, u5⟩ := (T.keep hB).at6 hlt
        have HA := Lib.hid eA
        rw [HA.out]
        clear eA
        obtain ⟨t1, t2, t3, t4, t5, t6, t7⟩ := rs_step O HP.out hlt
        have v := O.v k hlt
        have a1 := v.a1
        have a2 := v.a2
        have b1 := v.b1
        have b2 := v.b2
        have z1 := v.z1
        have z2 := v.z2
        have g1 := v.g1
        have g2 := v.g2
        clear v
        have E1 := Lib.hid t2
        have E2 := Lib.hid t6
        have OU : Wi.Wd (Wi.Hq (Lq.qf k M px py 1)) (Wi.Lr (Lq.qf k M px py 1)) (Lq.qf k M px py 1) := Wi.wd_self t1
        have OM : Wi.Wd (Wi.Hq (Lq.mi M k px py 1 * Lq.mi M k px py 1 * M k 5)) (Wi.Lr (Lq.mi M k px py 1 * Lq.mi M k px py 1 * M k 5)) (Lq.mi M k px py 1 * Lq.mi M k px py 1 * M k 5) := Wi.wd_self t5
        clear t1 t2 t5 t6 t7
        have lP := P.lt
        have lR := R.lt
        have lU := U.lt
        replace P := P.alloc (.cells #[.int .i64 (M k 0), .int .i64 (M k 1), .int .i64 (M k 2), .int .i64 (M k 3), .int .i64 (M k 4), .int .i64 (M k 5)] 43)
        replace R := R.alloc (.cells #[.int .i64 (M k 0), .int .i64 (M k 1), .int .i64 (M k 2), .int .i64 (M k 3), .int .i64 (M k 4), .int .i64 (M k 5)] 43)
        replace U := U.alloc (.cells #[.int .i64 (M k 0), .int .i64 (M k 1), .int .i64 (M k 2), .int .i64 (M k 3), .int .i64 (M k 4), .int .i64 (M k 5)] 43)
        replace hB := bal hB (.cells #[.int .i64 (M k 0), .int .i64 (M k 1), .int .i64 (M k 2), .int .i64 (M k 3), .int .i64 (M k 4), .int .i64 (M k 5)] 43)
        have X := Blk.new wr 43 #[.int .i64 (M k 0), .int .i64 (M k 1), .int .i64 (M k 2), .int .i64 (M k 3), .int .i64 (M k 4), .int .i64 (M k 5)]
        go_wp2_with fail
        refine wp_region_inv (fun L x G wx => Below w.heap.size w wx
              ∧ w.heap.size < wx.heap.size
              ∧ Blk wx (w.heap.size) 36 #[.int .i64 (px), .int .i64 (py)]
              ∧ w.heap.size + 1 < wx.heap.size
              ∧ Blk wx (w.heap.size + 1) 34 #[.int .i64 (0), .int .u64 (0)]
              ∧ gU < wx.heap.size
              ∧ (¬ L 11 → Blk wx (gU) 34 #[.int .i64 (Wi.Hq (Lq.qf k M px py 1)), .int .u64 (Wi.Lr (Lq.qf k M px py 1))])
              ∧ (L 11 → Blk wx (gU) 34 #[.int .i64 (Wi.Hq (Lq.qf (k + 1) M px py 1)), .int .u64 (Wi.Lr (Lq.qf (k + 1) M px py 1))])
              ∧ wr.heap.size < wx.heap.size
              ∧ Blk wx (wr.heap.size) 43 #[.int .i64 (M k 0), .int .i64 (M k 1), .int .i64 (M k 2), .int .i64 (M k 3), .int .i64 (M k 4), .int .i64 (M k 5)]
              ∧ (L 11 → L 0)
              ∧ (L 0 → x 29 = .agg #[.int .i64 (Wi.Hq (Lq.qf k M px py 1)), .int .u64 (Wi.Lr (Lq.qf k M px py 1))])
              ∧ (L 1 → x 30 = .pointer (some ⟨wr.heap.size, 5, none⟩))
              ∧ (L 2 → x 31 = .int .i64 (M k 5))
              ∧ (L 3 → x 32 = .agg #[.int .i64 (M k 0), .int .i64 (M k 1), .int .i64 (M k 2), .int .i64 (M k 3), .int .i64 (M k 4), .int .i64 (M k 5)])
              ∧ (L 4 → x 33 = .agg #[.int .i64 (px), .int .i64 (py)])
              ∧ (L 5 → x 34 = .int .i64 (Lq.mi M k px py 1))
              ∧ (L 6 → x 35 = .agg #[.int .i64 (Wi.Hq (Lq.mi M k px py 1 * Lq.mi M k px py 1 * M k 5)), .int .u64 (Wi.Lr (Lq.mi M k px py 1 * Lq.mi M k px py 1 * M k 5))])
              ∧ (L 7 → x 36 = .tuple #[.agg #[.int .i64 (Wi.Hq (Lq.qf (k + 1) M px py 1)), .int .u64 (Wi.Lr (Lq.qf (k + 1) M px py 1))], .bool (Wi.okb (Lq.qf k M px py 1 + Lq.mi M k px py 1 * Lq.mi M k px py 1 * M k 5))])
              ∧ (L 8 → x 28 = .tuple #[.agg #[.int .i64 (Wi.Hq (Lq.qf (k + 1) M px py 1)), .int .u64 (Wi.Lr (Lq.qf (k + 1) M px py 1))], .bool (Wi.okb (Lq.qf k M px py 1 + Lq.mi M k px py 1 * Lq.mi M k px py 1 * M k 5))])
              ∧ (L 9 → x 37 = .agg #[.int .i64 (Wi.Hq (Lq.qf (k + 1) M px py 1)), .int .u64 (Wi.Lr (Lq.qf (k + 1) M px py 1))])
              ∧ (L 10 → x 38 = .bool (Wi.okb (Lq.qf k M px py 1 + Lq.mi M k px py 1 * Lq.mi M k px py 1 * M k 5)))) [29, 30, 31, 32, 33, 34, 35, 36, 28, 37, 38] 12 (by kernel_rfl) (by kernel_rfl) (by kernel_rfl) ?h0 ?st ?fin
        case h0 =>
          exact ⟨bdr hB, Blk.lt P.drew, P.drew, Blk.lt R.drew, R.drew, Blk.lt U.drew, (fun _ => U.drew), fun q => q.elim, Blk.lt X.drew, X.drew, fun q => q.elim, fun q => q.elim, fun q => q.elim, fun q => q.elim, fun q => q.elim, fun q => q.elim, fun q => q.elim, fun q => q.elim, fun q => q.elim, fun q => q.elim, fun q => q.elim, fun q => q.elim⟩
        case st =>
          refine StepsOk.cons (i := 0) rfl (fun L x G w1 K Q hn hp hJ hK => ?_) ?_
          · skip
            have hc := Blk.open2 (((hJ.2.2.2.2.2.2.1) (fun q => hn ((hJ.2.2.2.2.2.2.2.2.2.2.1) q))))
            have c0 := hc.1
            have c1 := hc.2.1
            have c2 := hc.2.2.1
            have c3 := hc.2.2.2
            clear hc
            simp only [putAll, Act.put, List.setIfInBounds_toArray, List.set_cons_zero, List.set_cons_succ]
            go_simp
            refine hK _ G _ (by kernel_rfl) ?_
            exact ⟨(hJ.1),
              (hJ.2.1),
              (hJ.2.2.1),
              (hJ.2.2.2.1),
              (hJ.2.2.2.2.1),
              (hJ.2.2.2.2.2.1),
              fun n => (hJ.2.2.2.2.2.2.1) (fun m => n (.inr m)),
              fun q => (hJ.2.2.2.2.2.2.2.1) (q.resolve_left (by decide)),
              (hJ.2.2.2.2.2.2.2.2.1),
              (hJ.2.2.2.2.2.2.2.2.2.1),
              fun _ => .inl rfl,
              fun _ => rfl,
              fun q => (hJ.2.2.2.2.2.2.2.2.2.2.2.2.1) (q.resolve_left (by decide)),
              fun q => (hJ.2.2.2.2.2.2.2.2.2.2.2.2.2.1) (q.resolve_left (by decide)),
              fun q => (hJ.2.2.2.2.2.2.2.2.2.2.2.2.2.2.1) (q.resolve_left (by decide)),
              fun q => (hJ.2.2.2.2.2.2.2.2.2.2.2.2.2.2.2.1) (q.resolve_left (by decide)),
              fun q => (hJ.2.2.2.2.2.2.2.2.2.2.2.2.2.2.2.2.1) (q.resolve_left (by decide)),
              fun q => (hJ.2.2.2.2.2.2.2.2.2.2.2.2.2.2.2.2.2.1) (q.resolve_left (by decide)),
              fun q => (hJ.2.2.2.2.2.2.2.2.2.2.2.2.2.2.2.2.2.2.1) (q.resolve_left (by decide)),
              fun q => (hJ.2.2.2.2.2.2.2.2.2.2.2.2.2.2.2.2.2.2.2.1) (q.resolve_left (by decide)),
              fun q => (hJ.2.2.2.2.2.2.2.2.2.2.2.2.2.2.2.2.2.2.2.2.1) (q.resolve_left (by decide)),
              fun q => (hJ.2.2.2.2.2.2.2.2.2.2.2.2.2.2.2.2.2.2.2.2.2) (q.resolve_left (by decide))⟩
          refine StepsOk.cons (i := 1) rfl (fun L x G w1 K Q hn hp hJ hK => ?_) ?_
          · skip
            simp only [putAll, Act.put, List.setIfInBounds_toArray, List.set_cons_zero, List.set_cons_succ]
            go_simp
            refine hK _ G _ (by kernel_rfl) ?_
            exact ⟨(hJ.1),
              (hJ.2.1),
              (hJ.2.2.1),
              (hJ.2.2.2.1),
              (hJ.2.2.2.2.1),
              (hJ.2.2.2.2.2.1),
              fun n => (hJ.2.2.2.2.2.2.1) (fun m => n (.inr m)),
              fun q => (hJ.2.2.2.2.2.2.2.1) (q.resolve_left (by decide)),
              (hJ.2.2.2.2.2.2.2.2.1),
              (hJ.2.2.2.2.2.2.2.2.2.1),
              fun q => .inr ((hJ.2.2.2.2.2.2.2.2.2.2.1) (q.resolve_left (by decide))),
              fun q => (hJ.2.2.2.2.2.2.2.2.2.2.2.1) (q.resolve_left (by decide)),
              fun _ => rfl,
              fun q => (hJ.2.2.2.2.2.2.2.2.2.2.2.2.2.1) (q.resolve_left (by decide)),
              fun q => (hJ.2.2.2.2.2.2.2.2.2.2.2.2.2.2.1) (q.resolve_left (by decide)),
              fun q => (hJ.2.2.2.2.2.2.2.2.2.2.2.2.2.2.2.1) (q.resolve_left (by decide)),
              fun q => (hJ.2.2.2.2.2.2.2.2.2.2.2.2.2.2.2.2.1) (q.resolve_left (by decide)),
              fun q => (hJ.2.2.2.2.2.2.2.2.2.2.2.2.2.2.2.2.2.1) (q.resolve_left (by decide)),
              fun q => (hJ.2.2.2.2.2.2.2.2.2.2.2.2.2.2.2.2.2.2.1) (q.resolve_left (by decide)),
              fun q => (hJ.2.2.2.2.2.2.2.2.2.2.2.2.2.2.2.2.2.2.2.1) (q.resolve_left (by decide)),
              fun q => (hJ.2.2.2.2.2.2.2.2.2.2.2.2.2.2.2.2.2.2.2.2.1) (q.resolve_left (by decide)),
              fun q => (hJ.2.2.2.2.2.2.2.2.2.2.2.2.2.2.2.2.2.2.2.2.2) (q.resolve_left (by decide))⟩
          refine StepsOk.cons (i := 2) rfl (fun L x G w1 K Q hn hp hJ hK => ?_) ?_
          · skip
            have p1 : L 1 := hp ⟨1, .data⟩ (by simp) rfl
            have e1 := (hJ.2.2.2.2.2.2.2.2.2.2.2.2.1) p1
            have hc := Blk.open6 ((hJ.2.2.2.2.2.2.2.2.2.1))
            have c0 := hc.1
            have c1 := hc.2.1
            have c2 := hc.2.2.1
            have c3 := hc.2.2.2.1
            have c4 := hc.2.2.2.2.1
            have c5 := hc.2.2.2.2.2.1
            have c6 := hc.2.2.2.2.2.2.1
            have c7 := hc.2.2.2.2.2.2.2
            clear hc
            simp only [putAll, Act.put, List.setIfInBounds_toArray, List.set_cons_zero, List.set_cons_succ]
            go_simp
            refine hK _ G _ (by kernel_rfl) ?_
            exact ⟨(hJ.1),
              (hJ.2.1),
              (hJ.2.2.1),
              (hJ.2.2.2.1),
              (hJ.2.2.2.2.1),
              (hJ.2.2.2.2.2.1),
              fun n => (hJ.2.2.2.2.2.2.1) (fun m => n (.inr m)),
              fun q => (hJ.2.2.2.2.2.2.2.1) (q.resolve_left (by decide)),
              (hJ.2.2.2.2.2.2.2.2.1),
              (hJ.2.2.2.2.2.2.2.2.2.1),
              fun q => .inr ((hJ.2.2.2.2.2.2.2.2.2.2.1) (q.resolve_left (by decide))),
              fun q => (hJ.2.2.2.2.2.2.2.2.2.2.2.1) (q.resolve_left (by decide)),
              fun _ => by first | exact rfl | exact e1,
              fun _ => rfl,
              fun q => (hJ.2.2.2.2.2.2.2.2.2.2.2.2.2.2.1) (q.resolve_left (by decide)),
              fun q => (hJ.2.2.2.2.2.2.2.2.2.2.2.2.2.2.2.1) (q.resolve_left (by decide)),
              fun q => (hJ.2.2.2.2.2.2.2.2.2.2.2.2.2.2.2.2.1) (q.resolve_left (by decide)),
              fun q => (hJ.2.2.2.2.2.2.2.2.2.2.2.2.2.2.2.2.2.1) (q.resolve_left (by decide)),
              fun q => (hJ.2.2.2.2.2.2.2.2.2.2.2.2.2.2.2.2.2.2.1) (q.resolve_left (by decide)),
              fun q => (hJ.2.2.2.2.2.2.2.2.2.2.2.2.2.2.2.2.2.2.2.1) (q.resolve_left (by decide)),
              fun q => (hJ.2.2.2.2.2.2.2.2.2.2.2.2.2.2.2.2.2.2.2.2.1) (q.resolve_left (by decide)),
              fun q => (hJ.2.2.2.2.2.2.2.2.2.2.2.2.2.2.2.2.2.2.2.2.2) (q.resolve_left (by decide))⟩
          refine StepsOk.cons (i := 3) rfl (fun L x G w1 K Q hn hp hJ hK => ?_) ?_
          · skip
            have hc := Blk.open6 ((hJ.2.2.2.2.2.2.2.2.2.1))
            have c0 := hc.1
            have c1 := hc.2.1
            have c2 := hc.2.2.1
            have c3 := hc.2.2.2.1
            have c4 := hc.2.2.2.2.1
            have c5 := hc.2.2.2.2.2.1
            have c6 := hc.2.2.2.2.2.2.1
            have c7 := hc.2.2.2.2.2.2.2
            clear hc
            simp only [putAll, Act.put, List.setIfInBounds_toArray, List.set_cons_zero, List.set_cons_succ]
            go_simp
            refine hK _ G _ (by kernel_rfl) ?_
            exact ⟨(hJ.1),
              (hJ.2.1),
              (hJ.2.2.1),
              (hJ.2.2.2.1),
              (hJ.2.2.2.2.1),
              (hJ.2.2.2.2.2.1),
              fun n => (hJ.2.2.2.2.2.2.1) (fun m => n (.inr m)),
              fun q => (hJ.2.2.2.2.2.2.2.1) (q.resolve_left (by decide)),
              (hJ.2.2.2.2.2.2.2.2.1),
              (hJ.2.2.2.2.2.2.2.2.2.1),
              fun q => .inr ((hJ.2.2.2.2.2.2.2.2.2.2.1) (q.resolve_left (by decide))),
              fun q => (hJ.2.2.2.2.2.2.2.2.2.2.2.1) (q.resolve_left (by decide)),
              fun q => (hJ.2.2.2.2.2.2.2.2.2.2.2.2.1) (q.resolve_left (by decide)),
              fun q => (hJ.2.2.2.2.2.2.2.2.2.2.2.2.2.1) (q.resolve_left (by decide)),
              fun _ => rfl,
              fun q => (hJ.2.2.2.2.2.2.2.2.2.2.2.2.2.2.2.1) (q.resolve_left (by decide)),
              fun q => (hJ.2.2.2.2.2.2.2.2.2.2.2.2.2.2.2.2.1) (q.resolve_left (by decide)),
              fun q => (hJ.2.2.2.2.2.2.2.2.2.2.2.2.2.2.2.2.2.1) (q.resolve_left (by decide)),
              fun q => (hJ.2.2.2.2.2.2.2.2.2.2.2.2.2.2.2.2.2.2.1) (q.resolve_left (by decide)),
              fun q => (hJ.2.2.2.2.2.2.2.2.2.2.2.2.2.2.2.2.2.2.2.1) (q.resolve_left (by decide)),
              fun q => (hJ.2.2.2.2.2.2.2.2.2.2.2.2.2.2.2.2.2.2.2.2.1) (q.resolve_left (by decide)),
              fun q => (hJ.2.2.2.2.2.2.2.2.2.2.2.2.2.2.2.2.2.2.2.2.2) (q.resolve_left (by decide))⟩
          refine StepsOk.cons (i := 4) rfl (fun L x G w1 K Q hn hp hJ hK => ?_) ?_
          · skip
            have hc := Blk.open2 ((hJ.2.2.1))
            have c0 := hc.1
            have c1 := hc.2.1
            have c2 := hc.2.2.1
            have c3 := hc.2.2.2
            clear hc
            simp only [putAll, Act.put, List.setIfInBounds_toArray, List.set_cons_zero, List.set_cons_succ]
            go_simp
            refine hK _ G _ (by kernel_rfl) ?_
            exact ⟨(hJ.1),
              (hJ.2.1),
              (hJ.2.2.1),
              (hJ.2.2.2.1),
              (hJ.2.2.2.2.1),
              (hJ.2.2.2.2.2.1),
              fun n => (hJ.2.2.2.2.2.2.1) (fun m => n (.inr m)),
              fun q => (hJ.2.2.2.2.2.2.2.1) (q.resolve_left (by decide)),
              (hJ.2.2.2.2.2.2.2.2.1),
              (hJ.2.2.2.2.2.2.2.2.2.1),
              fun q => .inr ((hJ.2.2.2.2.2.2.2.2.2.2.1) (q.resolve_left (by decide))),
              fun q => (hJ.2.2.2.2.2.2.2.2.2.2.2.1) (q.resolve_left (by decide)),
              fun q => (hJ.2.2.2.2.2.2.2.2.2.2.2.2.1) (q.resolve_left (by decide)),
              fun q => (hJ.2.2.2.2.2.2.2.2.2.2.2.2.2.1) (q.resolve_left (by decide)),
              fun q => (hJ.2.2.2.2.2.2.2.2.2.2.2.2.2.2.1) (q.resolve_left (by decide)),
              fun _ => rfl,
              fun q => (hJ.2.2.2.2.2.2.2.2.2.2.2.2.2.2.2.2.1) (q.resolve_left (by decide)),
              fun q => (hJ.2.2.2.2.2.2.2.2.2.2.2.2.2.2.2.2.2.1) (q.resolve_left (by decide)),
              fun q => (hJ.2.2.2.2.2.2.2.2.2.2.2.2.2.2.2.2.2.2.1) (q.resolve_left (by decide)),
              fun q => (hJ.2.2.2.2.2.2.2.2.2.2.2.2.2.2.2.2.2.2.2.1) (q.resolve_left (by decide)),
              fun q => (hJ.2.2.2.2.2.2.2.2.2.2.2.2.2.2.2.2.2.2.2.2.1) (q.resolve_left (by decide)),
              fun q => (hJ.2.2.2.2.2.2.2.2.2.2.2.2.2.2.2.2.2.2.2.2.2) (q.resolve_left (by decide))⟩
          refine StepsOk.cons (i := 5) rfl (fun L x G w1 K Q hn hp hJ hK => ?_) ?_
          · skip
            have p3 : L 3 := hp ⟨3, .data⟩ (by simp) rfl
            have e3 := (hJ.2.2.2.2.2.2.2.2.2.2.2.2.2.2.1) p3
            have p4 : L 4 := hp ⟨4, .data⟩ (by simp) rfl
            have e4 := (hJ.2.2.2.2.2.2.2.2.2.2.2.2.2.2.2.1) p4
            simp only [putAll, Act.put, List.setIfInBounds_toArray, List.set_cons_zero, List.set_cons_succ]
            go_simp
            refine (miss_c _ _ _ _ _ _ _ _ _ a1 a2 b1 b2 z1 z2 x1 x2 y1 y2).mono ?_
            rw [E1.out]
            rintro e w2 ⟨rfl, hb⟩
            have hz := hb.size
            try go_simp
            refine hK _ G _ (by kernel_rfl) ?_
            exact ⟨bt (hJ.1) hb,
              Nat.lt_of_lt_of_le (hJ.2.1) hb.size,
              Blk.keep ((hJ.2.2.1)) hb,
              Nat.lt_of_lt_of_le (hJ.2.2.2.1) hb.size,
              Blk.keep ((hJ.2.2.2.2.1)) hb,
              Nat.lt_of_lt_of_le (hJ.2.2.2.2.2.1) hb.size,
              fun n => Blk.keep ((hJ.2.2.2.2.2.2.1) (fun m => n (.inr m))) hb,
              fun q => Blk.keep ((hJ.2.2.2.2.2.2.2.1) (q.resolve_left (by decide))) hb,
              Nat.lt_of_lt_of_le (hJ.2.2.2.2.2.2.2.2.1) hb.size,
              Blk.keep ((hJ.2.2.2.2.2.2.2.2.2.1)) hb,
              fun q => .inr ((hJ.2.2.2.2.2.2.2.2.2.2.1) (q.resolve_left (by decide))),
              fun q => (hJ.2.2.2.2.2.2.2.2.2.2.2.1) (q.resolve_left (by decide)),
              fun q => (hJ.2.2.2.2.2.2.2.2.2.2.2.2.1) (q.resolve_left (by decide)),
              fun q => (hJ.2.2.2.2.2.2.2.2.2.2.2.2.2.1) (q.resolve_left (by decide)),
              fun _ => by first | exact rfl | exact e3,
              fun _ => by first | exact rfl | exact e4,
              fun _ => rfl,
              fun q => (hJ.2.2.2.2.2.2.2.2.2.2.2.2.2.2.2.2.2.1) (q.resolve_left (by decide)),
              fun q => (hJ.2.2.2.2.2.2.2.2.2.2.2.2.2.2.2.2.2.2.1) (q.resolve_left (by decide)),
              fun q => (hJ.2.2.2.2.2.2.2.2.2.2.2.2.2.2.2.2.2.2.2.1) (q.resolve_left (by decide)),
              fun q => (hJ.2.2.2.2.2.2.2.2.2.2.2.2.2.2.2.2.2.2.2.2.1) (q.resolve_left (by decide)),
              fun q => (hJ.2.2.2.2.2.2.2.2.2.2.2.2.2.2.2.2.2.2.2.2.2) (q.resolve_left (by decide))⟩
          refine StepsOk.cons (i := 6) rfl (fun L x G w1 K Q hn hp hJ hK => ?_) ?_
          · skip
            have p2 : L 2 := hp ⟨2, .data⟩ (by simp) rfl
            have e2 := (hJ.2.2.2.2.2.2.2.2.2.2.2.2.2.1) p2
            have p5 : L 5 := hp ⟨5, .data⟩ (by simp) rfl
            have e5 := (hJ.2.2.2.2.2.2.2.2.2.2.2.2.2.2.2.2.1) p5
            simp only [putAll, Act.put, List.setIfInBounds_toArray, List.set_cons_zero, List.set_cons_succ]
            go_simp
            refine (weighted_c _ _ _ g1 g2 (by omega) (by omega)).mono ?_
            rintro e w2 ⟨rfl, hb⟩
            have hz := hb.size
            try go_simp
            refine hK _ G _ (by kernel_rfl) ?_
            exact ⟨bt (hJ.1) hb,
              Nat.lt_of_lt_of_le (hJ.2.1) hb.size,
              Blk.keep ((hJ.2.2.1)) hb,
              Nat.lt_of_lt_of_le (hJ.2.2.2.1) hb.size,
              Blk.keep ((hJ.2.2.2.2.1)) hb,
              Nat.lt_of_lt_of_le (hJ.2.2.2.2.2.1) hb.size,
              fun n => Blk.keep ((hJ.2.2.2.2.2.2.1) (fun m => n (.inr m))) hb,
              fun q => Blk.keep ((hJ.2.2.2.2.2.2.2.1) (q.resolve_left (by decide))) hb,
              Nat.lt_of_lt_of_le (hJ.2.2.2.2.2.2.2.2.1) hb.size,
              Blk.keep ((hJ.2.2.2.2.2.2.2.2.2.1)) hb,
              fun q => .inr ((hJ.2.2.2.2.2.2.2.2.2.2.1) (q.resolve_left (by decide))),
              fun q => (hJ.2.2.2.2.2.2.2.2.2.2.2.1) (q.resolve_left (by decide)),
              fun q => (hJ.2.2.2.2.2.2.2.2.2.2.2.2.1) (q.resolve_left (by decide)),
              fun _ => by first | exact rfl | exact e2,
              fun q => (hJ.2.2.2.2.2.2.2.2.2.2.2.2.2.2.1) (q.resolve_left (by decide)),
              fun q => (hJ.2.2.2.2.2.2.2.2.2.2.2.2.2.2.2.1) (q.resolve_left (by decide)),
              fun _ => by first | exact rfl | exact e5,
              fun _ => rfl,
              fun q => (hJ.2.2.2.2.2.2.2.2.2.2.2.2.2.2.2.2.2.2.1) (q.resolve_left (by decide)),
              fun q => (hJ.2.2.2.2.2.2.2.2.2.2.2.2.2.2.2.2.2.2.2.1) (q.resolve_left (by decide)),
              fun q => (hJ.2.2.2.2.2.2.2.2.2.2.2.2.2.2.2.2.2.2.2.2.1) (q.resolve_left (by decide)),
              fun q => (hJ.2.2.2.2.2.2.2.2.2.2.2.2.2.2.2.2.2.2.2.2.2) (q.resolve_left (by decide))⟩
          refine StepsOk.cons (i := 7) rfl (fun L x G w1 K Q hn hp hJ hK => ?_) ?_
          · skip
            have p0 : L 0 := hp ⟨0, .data⟩ (by simp) rfl
            have e0 := (hJ.2.2.2.2.2.2.2.2.2.2.2.1) p0
            have p6 : L 6 := hp ⟨6, .data⟩ (by simp) rfl
            have e6 := (hJ.2.2.2.2.2.2.2.2.2.2.2.2.2.2.2.2.2.1) p6
            simp only [putAll, Act.put, List.setIfInBounds_toArray, List.set_cons_zero, List.set_cons_succ]
            go_simp
            refine (add_c _ _ _ _ _ _ _ OU OM).mono ?_
            rw [E2.out]
            rintro e w2 ⟨rfl, hb⟩
            have hz := hb.size
            try go_simp
            refine hK _ G _ (by kernel_rfl) ?_
            exact ⟨bt (hJ.1) hb,
              Nat.lt_of_lt_of_le (hJ.2.1) hb.size,
              Blk.keep ((hJ.2.2.1)) hb,
              Nat.lt_of_lt_of_le (hJ.2.2.2.1) hb.size,
              Blk.keep ((hJ.2.2.2.2.1)) hb,
              Nat.lt_of_lt_of_le (hJ.2.2.2.2.2.1) hb.size,
              fun n => Blk.keep ((hJ.2.2.2.2.2.2.1) (fun m => n (.inr m))) hb,
              fun q => Blk.keep ((hJ.2.2.2.2.2.2.2.1) (q.resolve_left (by decide))) hb,
              Nat.lt_of_lt_of_le (hJ.2.2.2.2.2.2.2.2.1) hb.size,
              Blk.keep ((hJ.2.2.2.2.2.2.2.2.2.1)) hb,
              fun q => .inr ((hJ.2.2.2.2.2.2.2.2.2.2.1) (q.resolve_left (by decide))),
              fun _ => by first | exact rfl | exact e0,
              fun q => (hJ.2.2.2.2.2.2.2.2.2.2.2.2.1) (q.resolve_left (by decide)),
              fun q => (hJ.2.2.2.2.2.2.2.2.2.2.2.2.2.1) (q.resolve_left (by decide)),
              fun q => (hJ.2.2.2.2.2.2.2.2.2.2.2.2.2.2.1) (q.resolve_left (by decide)),
              fun q => (hJ.2.2.2.2.2.2.2.2.2.2.2.2.2.2.2.1) (q.resolve_left (by decide)),
              fun q => (hJ.2.2.2.2.2.2.2.2.2.2.2.2.2.2.2.2.1) (q.resolve_left (by decide)),
              fun _ => by first | exact rfl | exact e6,
              fun _ => rfl,
              fun q => (hJ.2.2.2.2.2.2.2.2.2.2.2.2.2.2.2.2.2.2.2.1) (q.resolve_left (by decide)),
              fun q => (hJ.2.2.2.2.2.2.2.2.2.2.2.2.2.2.2.2.2.2.2.2.1) (q.resolve_left (by decide)),
              fun q => (hJ.2.2.2.2.2.2.2.2.2.2.2.2.2.2.2.2.2.2.2.2.2) (q.resolve_left (by decide))⟩
          refine StepsOk.cons (i := 8) rfl (fun L x G w1 K Q hn hp hJ hK => ?_) ?_
          · skip
            have p7 : L 7 := hp ⟨7, .data⟩ (by simp) rfl
            have e7 := (hJ.2.2.2.2.2.2.2.2.2.2.2.2.2.2.2.2.2.2.1) p7
            simp only [putAll, Act.put, List.setIfInBounds_toArray, List.set_cons_zero, List.set_cons_succ]
            go_simp
            refine hK _ G _ (by kernel_rfl) ?_
            exact ⟨(hJ.1),
              (hJ.2.1),
              (hJ.2.2.1),
              (hJ.2.2.2.1),
              (hJ.2.2.2.2.1),
              (hJ.2.2.2.2.2.1),
              fun n => (hJ.2.2.2.2.2.2.1) (fun m => n (.inr m)),
              fun q => (hJ.2.2.2.2.2.2.2.1) (q.resolve_left (by decide)),
              (hJ.2.2.2.2.2.2.2.2.1),
              (hJ.2.2.2.2.2.2.2.2.2.1),
              fun q => .inr ((hJ.2.2.2.2.2.2.2.2.2.2.1) (q.resolve_left (by decide))),
              fun q => (hJ.2.2.2.2.2.2.2.2.2.2.2.1) (q.resolve_left (by decide)),
              fun q => (hJ.2.2.2.2.2.2.2.2.2.2.2.2.1) (q.resolve_left (by decide)),
              fun q => (hJ.2.2.2.2.2.2.2.2.2.2.2.2.2.1) (q.resolve_left (by decide)),
              fun q => (hJ.2.2.2.2.2.2.2.2.2.2.2.2.2.2.1) (q.resolve_left (by decide)),
              fun q => (hJ.2.2.2.2.2.2.2.2.2.2.2.2.2.2.2.1) (q.resolve_left (by decide)),
              fun q => (hJ.2.2.2.2.2.2.2.2.2.2.2.2.2.2.2.2.1) (q.resolve_left (by decide)),
              fun q => (hJ.2.2.2.2.2.2.2.2.2.2.2.2.2.2.2.2.2.1) (q.resolve_left (by decide)),
              fun _ => by first | exact rfl | exact e7,
              fun _ => rfl,
              fun q => (hJ.2.2.2.2.2.2.2.2.2.2.2.2.2.2.2.2.2.2.2.2.1) (q.resolve_left (by decide)),
              fun q => (hJ.2.2.2.2.2.2.2.2.2.2.2.2.2.2.2.2.2.2.2.2.2) (q.resolve_left (by decide))⟩
          refine StepsOk.cons (i := 9) rfl (fun L x G w1 K Q hn hp hJ hK => ?_) ?_
          · skip
            have p8 : L 8 := hp ⟨8, .data⟩ (by simp) rfl
            have e8 := (hJ.2.2.2.2.2.2.2.2.2.2.2.2.2.2.2.2.2.2.2.1) p8
            simp only [putAll, Act.put, List.setIfInBounds_toArray, List.set_cons_zero, List.set_cons_succ]
            go_simp
            refine hK _ G _ (by kernel_rfl) ?_
            exact ⟨(hJ.1),
              (hJ.2.1),
              (hJ.2.2.1),
              (hJ.2.2.2.1),
              (hJ.2.2.2.2.1),
              (hJ.2.2.2.2.2.1),
              fun n => (hJ.2.2.2.2.2.2.1) (fun m => n (.inr m)),
              fun q => (hJ.2.2.2.2.2.2.2.1) (q.resolve_left (by decide)),
              (hJ.2.2.2.2.2.2.2.2.1),
              (hJ.2.2.2.2.2.2.2.2.2.1),
              fun q => .inr ((hJ.2.2.2.2.2.2.2.2.2.2.1) (q.resolve_left (by decide))),
              fun q => (hJ.2.2.2.2.2.2.2.2.2.2.2.1) (q.resolve_left (by decide)),
              fun q => (hJ.2.2.2.2.2.2.2.2.2.2.2.2.1) (q.resolve_left (by decide)),
              fun q => (hJ.2.2.2.2.2.2.2.2.2.2.2.2.2.1) (q.resolve_left (by decide)),
              fun q => (hJ.2.2.2.2.2.2.2.2.2.2.2.2.2.2.1) (q.resolve_left (by decide)),
              fun q => (hJ.2.2.2.2.2.2.2.2.2.2.2.2.2.2.2.1) (q.resolve_left (by decide)),
              fun q => (hJ.2.2.2.2.2.2.2.2.2.2.2.2.2.2.2.2.1) (q.resolve_left (by decide)),
              fun q => (hJ.2.2.2.2.2.2.2.2.2.2.2.2.2.2.2.2.2.1) (q.resolve_left (by decide)),
              fun q => (hJ.2.2.2.2.2.2.2.2.2.2.2.2.2.2.2.2.2.2.1) (q.resolve_left (by decide)),
              fun _ => by first | exact rfl | exact e8,
              fun _ => rfl,
              fun q => (hJ.2.2.2.2.2.2.2.2.2.2.2.2.2.2.2.2.2.2.2.2.2) (q.resolve_left (by decide))⟩
          refine StepsOk.cons (i := 10) rfl (fun L x G w1 K Q hn hp hJ hK => ?_) ?_
          · skip
            have p8 : L 8 := hp ⟨8, .data⟩ (by simp) rfl
            have e8 := (hJ.2.2.2.2.2.2.2.2.2.2.2.2.2.2.2.2.2.2.2.1) p8
            simp only [putAll, Act.put, List.setIfInBounds_toArray, List.set_cons_zero, List.set_cons_succ]
            go_simp
            refine hK _ G _ (by kernel_rfl) ?_
            exact ⟨(hJ.1),
              (hJ.2.1),
              (hJ.2.2.1),
              (hJ.2.2.2.1),
              (hJ.2.2.2.2.1),
              (hJ.2.2.2.2.2.1),
              fun n => (hJ.2.2.2.2.2.2.1) (fun m => n (.inr m)),
              fun q => (hJ.2.2.2.2.2.2.2.1) (q.resolve_left (by decide)),
              (hJ.2.2.2.2.2.2.2.2.1),
              (hJ.2.2.2.2.2.2.2.2.2.1),
              fun q => .inr ((hJ.2.2.2.2.2.2.2.2.2.2.1) (q.resolve_left (by decide))),
              fun q => (hJ.2.2.2.2.2.2.2.2.2.2.2.1) (q.resolve_left (by decide)),
              fun q => (hJ.2.2.2.2.2.2.2.2.2.2.2.2.1) (q.resolve_left (by decide)),
              fun q => (hJ.2.2.2.2.2.2.2.2.2.2.2.2.2.1) (q.resolve_left (by decide)),
              fun q => (hJ.2.2.2.2.2.2.2.2.2.2.2.2.2.2.1) (q.resolve_left (by decide)),
              fun q => (hJ.2.2.2.2.2.2.2.2.2.2.2.2.2.2.2.1) (q.resolve_left (by decide)),
              fun q => (hJ.2.2.2.2.2.2.2.2.2.2.2.2.2.2.2.2.1) (q.resolve_left (by decide)),
              fun q => (hJ.2.2.2.2.2.2.2.2.2.2.2.2.2.2.2.2.2.1) (q.resolve_left (by decide)),
              fun q => (hJ.2.2.2.2.2.2.2.2.2.2.2.2.2.2.2.2.2.2.1) (q.resolve_left (by decide)),
              fun _ => by first | exact rfl | exact e8,
              fun q => (hJ.2.2.2.2.2.2.2.2.2.2.2.2.2.2.2.2.2.2.2.2.1) (q.resolve_left (by decide)),
              fun _ => rfl⟩
          refine StepsOk.cons (i := 11) rfl (fun L x G w1 K Q hn hp hJ hK => ?_) ?_
          · skip
            have p9 : L 9 := hp ⟨9, .data⟩ (by simp) rfl
            have e9 := (hJ.2.2.2.2.2.2.2.2.2.2.2.2.2.2.2.2.2.2.2.2.1) p9
            have hc := Blk.open2 (((hJ.2.2.2.2.2.2.1) hn))
            have c0 := hc.1
            have c1 := hc.2.1
            have c2 := hc.2.2.1
            have c3 := hc.2.2.2
            clear hc
            simp only [putAll, Act.put, List.setIfInBounds_toArray, List.set_cons_zero, List.set_cons_succ]
            go_simp
            refine hK _ G _ (by kernel_rfl) ?_
            exact ⟨bst (bst ((hJ.1)) (p := ⟨gU, 0, none⟩) (by first | (simp; done) | (simp; omega) | omega) (.int .i64 (Wi.Hq (Lq.qf (k + 1) M px py 1)))) (p := ⟨gU, 1, none⟩) (by first | (simp; done) | (simp; omega) | omega) (.int .u64 (Wi.Lr (Lq.qf (k + 1) M px py 1))),
              by simpa using (hJ.2.1),
              Blk.far (Blk.far ((hJ.2.2.1)) (p := ⟨gU, 0, none⟩) (by first | (simp; done) | (simp; omega) | omega) (.int .i64 (Wi.Hq (Lq.qf (k + 1) M px py 1)))) (p := ⟨gU, 1, none⟩) (by first | (simp; done) | (simp; omega) | omega) (.int .u64 (Wi.Lr (Lq.qf (k + 1) M px py 1))),
              by simpa using (hJ.2.2.2.1),
              Blk.far (Blk.far ((hJ.2.2.2.2.1)) (p := ⟨gU, 0, none⟩) (by first | (simp; done) | (simp; omega) | omega) (.int .i64 (Wi.Hq (Lq.qf (k + 1) M px py 1)))) (p := ⟨gU, 1, none⟩) (by first | (simp; done) | (simp; omega) | omega) (.int .u64 (Wi.Lr (Lq.qf (k + 1) M px py 1))),
              by simpa using (hJ.2.2.2.2.2.1),
              fun n => absurd (.inl rfl) n,
              fun _ => by simpa using Blk.set_ (Blk.set_ (((hJ.2.2.2.2.2.2.1) hn)) 0 (.int .i64 (Wi.Hq (Lq.qf (k + 1) M px py 1)))) 1 (.int .u64 (Wi.Lr (Lq.qf (k + 1) M px py 1))),
              by simpa using (hJ.2.2.2.2.2.2.2.2.1),
              Blk.far (Blk.far ((hJ.2.2.2.2.2.2.2.2.2.1)) (p := ⟨gU, 0, none⟩) (by first | (simp; done) | (simp; omega) | omega) (.int .i64 (Wi.Hq (Lq.qf (k + 1) M px py 1)))) (p := ⟨gU, 1, none⟩) (by first | (simp; done) | (simp; omega) | omega) (.int .u64 (Wi.Lr (Lq.qf (k + 1) M px py 1))),
              fun _ => .inr (hp ⟨0, .phase⟩ (by simp) rfl),
              fun q => (hJ.2.2.2.2.2.2.2.2.2.2.2.1) (q.resolve_left (by decide)),
              fun q => (hJ.2.2.2.2.2.2.2.2.2.2.2.2.1) (q.resolve_left (by decide)),
              fun q => (hJ.2.2.2.2.2.2.2.2.2.2.2.2.2.1) (q.resolve_left (by decide)),
              fun q => (hJ.2.2.2.2.2.2.2.2.2.2.2.2.2.2.1) (q.resolve_left (by decide)),
              fun q => (hJ.2.2.2.2.2.2.2.2.2.2.2.2.2.2.2.1) (q.resolve_left (by decide)),
              fun q => (hJ.2.2.2.2.2.2.2.2.2.2.2.2.2.2.2.2.1) (q.resolve_left (by decide)),
              fun q => (hJ.2.2.2.2.2.2.2.2.2.2.2.2.2.2.2.2.2.1) (q.resolve_left (by decide)),
              fun q => (hJ.2.2.2.2.2.2.2.2.2.2.2.2.2.2.2.2.2.2.1) (q.resolve_left (by decide)),
              fun q => (hJ.2.2.2.2.2.2.2.2.2.2.2.2.2.2.2.2.2.2.2.1) (q.resolve_left (by decide)),
              fun _ => by first | exact rfl | exact e9,
              fun q => (hJ.2.2.2.2.2.2.2.2.2.2.2.2.2.2.2.2.2.2.2.2.2) (q.resolve_left (by decide))⟩
          exact StepsOk.nil
        case fin =>
          intro L x G w6 hall hJ
          replace P := (hJ.2.2.1)
          replace R := (hJ.2.2.2.2.1)
          replace U := (hJ.2.2.2.2.2.2.2.1) (hall 11 (by decide))
          replace X := (hJ.2.2.2.2.2.2.2.2.2.1)
          have u0 := hJ.2.2.2.2.2.2.2.2.2.2.2.1 (hall 0 (by decide))
          have u1 := hJ.2.2.2.2.2.2.2.2.2.2.2.2.1 (hall 1 (by decide))
          have u2 := hJ.2.2.2.2.2.2.2.2.2.2.2.2.2.1 (hall 2 (by decide))
          have u3 := hJ.2.2.2.2.2.2.2.2.2.2.2.2.2.2.1 (hall 3 (by decide))
          have u4 := hJ.2.2.2.2.2.2.2.2.2.2.2.2.2.2.2.1 (hall 4 (by decide))
          have u5 := hJ.2.2.2.2.2.2.2.2.2.2.2.2.2.2.2.2.1 (hall 5 (by decide))
          have u6 := hJ.2.2.2.2.2.2.2.2.2.2.2.2.2.2.2.2.2.1 (hall 6 (by decide))
          have u7 := hJ.2.2.2.2.2.2.2.2.2.2.2.2.2.2.2.2.2.2.1 (hall 7 (by decide))
          have u8 := hJ.2.2.2.2.2.2.2.2.2.2.2.2.2.2.2.2.2.2.2.1 (hall 8 (by decide))
          have u9 := hJ.2.2.2.2.2.2.2.2.2.2.2.2.2.2.2.2.2.2.2.2.1 (hall 9 (by decide))
          have u10 := hJ.2.2.2.2.2.2.2.2.2.2.2.2.2.2.2.2.2.2.2.2.2 (hall 10 (by decide))
          replace hB := hJ.1
          simp only [putAll, Act.put, List.setIfInBounds_toArray, List.set_cons_zero, List.set_cons_succ]
          simp only [u0, u1, u2, u3, u4, u5, u6, u7, u8, u9, u10]
          clear hall hJ u0 u1 u2 u3 u4 u5 u6 u7 u8 u9 u10
          go_wp2_with fail
          go_roundw
          case rel => exact ⟨k + 1, by omega, by go_num, P, R, U, hB⟩
          case measure => simp [intOf]; omega
      · obtain rfl : k = n := by omega
        obtain ⟨u0, u1, u2, u3⟩ := U.open2
        obtain ⟨p0, p1, p2, p3⟩ := R.open2
        have lU := U.lt
        go_wp2_with fail
        refine bodyPost_ret (by simp [results, Try.results26, go_sem, u0, u1, u2, u3, p0, p1, p2, p3]; try rfl) rfl ?_
        exact ⟨rv_ok (re_0 HC.out HP.out), by repeat (first | exact Below.refl _ _ | (with_reducible assumption) | (with_reducible apply bal) | (with_reducible apply bdr) | (with_reducible apply bdnl) | (with_reducible refine bst ?_ (by first | (simp; done) | (simp; omega) | omega) _) | (with_reducible refine bt ?_ (by with_reducible assumption)))⟩
end Go.Proofs.Ytcgcocingfhleaa
