/-
  Contract: the reference's Least.
-/
import Derived.Test.YtcgcocingfhleaaQ12p
import Derived.Test.YtcgcocingfhleaaQ8
namespace Go.Proofs.Ytcgcocingfhleaa
set_option linter.unusedVariables false
set_option linter.unusedSimpArgs false
open Go.RowKit
attribute [local irreducible] World.setCell World.cell?

theorem rsolve_ok (A : Option Addr) (n c : Nat) (M : Lq.Tab) (w : World) (T : Rd w 6 A n c (iv M)) (h : Lq.er n M = 0) : Calls Try.prog 20 #[.slice A n c] w fun e w' => e = .returned (.tuple #[.agg #[.int .i64 (Wi.Hq (Lq.sx n M)), .int .u64 (Wi.Lr (Lq.sx n M)), .int .i64 (Wi.Hq (Lq.sy n M)), .int .u64 (Wi.Lr (Lq.sy n M)), .int .i64 (Lq.det n M), .int .i64 (Lq.nr (Lq.sx n M) (Lq.det n M)), .int .i64 (Lq.nr (Lq.sy n M) (Lq.det n M))], .int .i64 0]) ∧ Below w.heap.size w w' := (rsolve_c A n c M w T).mono fun _ _ q => ⟨q.1.1 h, q.2⟩
theorem rsolve_no (A : Option Addr) (n c : Nat) (M : Lq.Tab) (w : World) (T : Rd w 6 A n c (iv M)) (h : Lq.er n M ≠ 0) : Calls Try.prog 20 #[.slice A n c] w fun e w' => e = .returned (.tuple #[.agg #[.int .i64 (0), .int .u64 (0), .int .i64 (0), .int .u64 (0), .int .i64 (0), .int .i64 (0), .int .i64 (0)], .int .i64 (Lq.er n M)]) ∧ Below w.heap.size w w' := (rsolve_c A n c M w T).mono fun _ _ q => ⟨q.1.2 h, q.2⟩
set_option maxRecDepth 100000 in
set_option maxHeartbeats 4000000 in
theorem rleast_c (A : Option Addr) (n c : Nat) (M : Lq.Tab) (w : World) (T : Rd w 6 A n c (iv M)) :
    Calls Try.prog 24 #[.slice A n c] w fun e w' => Lv n M e ∧ Below w.heap.size w w' := by
  by_cases h : Lq.er n M = 0
  rotate_left
  · have h1 : (Lq.er n M != 0) = true := by simpa using h
    have H := Lib.hid h
    clear h
    go_enter Try.func24, Try.ntmps24
    have R := Blk.new w 34 #[.int .i64 (0), .int .u64 (0)]
    have hB := ba w (.cells #[.int .i64 (0), .int .u64 (0)] 34)
    go_wp2_with fail
    refine (rsolve_no _ _ _ _ _ (T.keep hB) H.out).mono ?_
    rintro e w1 ⟨rfl, hb⟩
    replace R := R.keep hb
    replace hB := bt hB hb
    clear hb
    obtain ⟨r00, r01, r02, r03⟩ := R.open2
    go_wp2_with fail
    refine bodyPost_ret (by simp [results, Try.results24, go_sem, r00, r01, r02, r03]; try rfl) rfl ?_
    exact ⟨lv_no rfl H.out, by repeat (first | exact Below.refl _ _ | (with_reducible assumption) | (with_reducible apply bal) | (with_reducible apply bdr) | (with_reducible apply bdnl) | (with_reducible refine bst ?_ (by first | (simp; done) | (simp; omega) | omega) _) | (with_reducible refine bt ?_ (by with_reducible assumption)))⟩
  have S := Lq.er_ok.1 h
  have O := S.ok
  have hd0 := S.d
  clear S
  have HE := Lib.hid h
  clear h
  have r1 := T.le
  have r2 := T.mx
  obtain ⟨bxx, bxy, byy, bxz, byz⟩ := O.bd
  obtain ⟨xz1, xz2⟩ := bxz n (Nat.le_refl _)
  obtain ⟨yz1, yz2⟩ := byz n (Nat.le_refl _)
  clear bxx bxy byy bxz byz
  obtain ⟨⟨sx1, sx2⟩, ⟨sy1, sy2⟩, dt1, dt2⟩ := O.sxb
  obtain ⟨n0, n1, n2, n3, n4, n5, n6, n7, n8, n9⟩ := num_facts O
  have OX : Wi.Wd (Wi.Hq (Lq.sx n M)) (Wi.Lr (Lq.sx n M)) (Lq.sx n M) := Wi.wd_self (by unfold Wi.inW; omega)
  have OY : Wi.Wd (Wi.Hq (Lq.sy n M)) (Wi.Lr (Lq.sy n M)) (Lq.sy n M) := Wi.wd_self (by unfold Wi.inW; omega)
  have OZ := Wi.wd_self n0
  have O0 := Wi.wd_self n6
  have O1 := Wi.wd_self n7
  have O2 := Wi.wd_self n8
  have O3 := Wi.wd_self n9
  have E1 := Lib.hid n1
  have E2 := Lib.hid n2
  have E3 := Lib.hid n3
  have E4 := Lib.hid n4
  have E5 := Lib.hid n5
  clear n0 n1 n2 n3 n4 n5 n6 n7 n8 n9
  go_enter Try.func24, Try.ntmps24
  have R := Blk.new w 34 #[.int .i64 (0), .int .u64 (0)]
  have hB := ba w (.cells #[.int .i64 (0), .int .u64 (0)] 34)
  go_wp2_with fail
  refine (rsolve_ok _ _ _ _ _ (T.keep hB) HE.out).mono ?_
  rintro e w1 ⟨rfl, hb⟩
  replace R := R.keep hb
  replace hB := bt hB hb
  clear hb
  have hz1 := hB.size
  have l1R := R.lt
  replace R := R.alloc (.cells #[.int .i64 (Wi.Hq (Lq.sx n M)), .int .u64 (Wi.Lr (Lq.sx n M)), .int .i64 (Wi.Hq (Lq.sy n M)), .int .u64 (Wi.Lr (Lq.sy n M)), .int .i64 (Lq.det n M), .int .i64 (Lq.nr (Lq.sx n M) (Lq.det n M)), .int .i64 (Lq.nr (Lq.sy n M) (Lq.det n M))] 38)
  replace hB := bal hB (.cells #[.int .i64 (Wi.Hq (Lq.sx n M)), .int .u64 (Wi.Lr (Lq.sx n M)), .int .i64 (Wi.Hq (Lq.sy n M)), .int .u64 (Wi.Lr (Lq.sy n M)), .int .i64 (Lq.det n M), .int .i64 (Lq.nr (Lq.sx n M) (Lq.det n M)), .int .i64 (Lq.nr (Lq.sy n M) (Lq.det n M))] 38)
  have S := Blk.new w1 38 #[.int .i64 (Wi.Hq (Lq.sx n M)), .int .u64 (Wi.Lr (Lq.sx n M)), .int .i64 (Wi.Hq (Lq.sy n M)), .int .u64 (Wi.Lr (Lq.sy n M)), .int .i64 (Lq.det n M), .int .i64 (Lq.nr (Lq.sx n M) (Lq.det n M)), .int .i64 (Lq.nr (Lq.sy n M) (Lq.det n M))]
  go_wp2_with fail
  refine (rnormal_ok _ _ _ _ _ (T.keep hB) O).mono ?_
  rintro e w2 ⟨rfl, hb⟩
  replace R := R.keep hb
  replace S := S.keep hb
  replace hB := bt hB hb
  clear hb
  have hz2 := hB.size
  have l2R := R.lt
  have l2S := S.lt
  replace R := R.alloc (.cells #[.int .i64 (Lq.xx n M), .int .i64 (Lq.xy n M), .int .i64 (Lq.yy n M), .int .i64 (Lq.xz n M), .int .i64 (Lq.yz n M)] 26)
  replace S := S.alloc (.cells #[.int .i64 (Lq.xx n M), .int .i64 (Lq.xy n M), .int .i64 (Lq.yy n M), .int .i64 (Lq.xz n M), .int .i64 (Lq.yz n M)] 26)
  replace hB := bal hB (.cells #[.int .i64 (Lq.xx n M), .int .i64 (Lq.xy n M), .int .i64 (Lq.yy n M), .int .i64 (Lq.xz n M), .int .i64 (Lq.yz n M)] 26)
  have N := Blk.new w2 26 #[.int .i64 (Lq.xx n M), .int .i64 (Lq.xy n M), .int .i64 (Lq.yy n M), .int .i64 (Lq.xz n M), .int .i64 (Lq.yz n M)]
  replace R := R.alloc (.cells #[.int .i64 (0), .int .u64 (0)] 34)
  replace S := S.alloc (.cells #[.int .i64 (0), .int .u64 (0)] 34)
  replace N := N.alloc (.cells #[.int .i64 (0), .int .u64 (0)] 34)
  replace hB := bal hB (.cells #[.int .i64 (0), .int .u64 (0)] 34)
  have U := Blk.new1 w2 (.cells #[.int .i64 (Lq.xx n M), .int .i64 (Lq.xy n M), .int .i64 (Lq.yy n M), .int .i64 (Lq.xz n M), .int .i64 (Lq.yz n M)] 26) 34 #[.int .i64 (0), .int .u64 (0)]
  have lS := S.lt
  have lN := N.lt
  have lU := U.lt
  go_wp2_with fail
  generalize w2.heap.size = gN at *
  generalize w1.heap.size = gS at *
  go_loopw [32] (fun i wr => ∃ k : Nat, k ≤ n ∧ i = .int .i64 k ∧ Blk wr w.heap.size 34 #[.int .i64 (0), .int .u64 (0)] ∧ Blk wr gS 38 #[.int .i64 (Wi.Hq (Lq.sx n M)), .int .u64 (Wi.Lr (Lq.sx n M)), .int .i64 (Wi.Hq (Lq.sy n M)), .int .u64 (Wi.Lr (Lq.sy n M)), .int .i64 (Lq.det n M), .int .i64 (Lq.nr (Lq.sx n M) (Lq.det n M)), .int .i64 (Lq.nr (Lq.sy n M) (Lq.det n M))] ∧ Blk wr gN 26 #[.int .i64 (Lq.xx n M), .int .i64 (Lq.xy n M), .int .i64 (Lq.yy n M), .int .i64 (Lq.xz n M), .int .i64 (Lq.yz n M)] ∧ Blk wr (gN + 1) 34 #[.int .i64 (Wi.Hq (Lq.zz k M)), .int .u64 (Wi.Lr (Lq.zz k M))] ∧ Below w.heap.size w wr) (fun i _ => n - (intOf i).toNat)
  case atStart => exact ⟨0, Nat.zero_le _, rfl, R, S, N, U, hB⟩
  case round =>
    clear R S N U hB lU
    rename_i wr
    obtain ⟨k, hk, rfl, R, S, N, U, hB⟩ := hrel
    by_cases hlt : k < n
    · obtain ⟨bb, off, eA, hbl, u0, u1, u2, u3, u4, u5⟩ := (T.keep hB).at6 hlt
      have HA := Lib.hid eA
      rw [HA.out]
      clear eA
      obtain ⟨t1, t2, t3, t4, t5, t6, t7⟩ := zz_step O hlt
      have v := O.v k hlt
      have z1 := v.z1
      have z2 := v.z2
      have g1 := v.g1
      have g2 := v.g2
      clear v
      have OU := Wi.wd_self t1
      have E6 := Lib.hid t5
      have OM := Wi.wd_self t4
      clear t1 t2 t3 t4 t5
      have f1 : IntKind.i64.wrap (M k 5 * M k 3) = M k 5 * M k 3 := IntWalk.i64_in _ (by omega)
      have lR := R.lt
      have lS := S.lt
      have lN := N.lt
      have lU := U.lt
      replace R := R.alloc (.cells #[.int .i64 (M k 0), .int .i64 (M k 1), .int .i64 (M k 2), .int .i64 (M k 3), .int .i64 (M k 4), .int .i64 (M k 5)] 43)
      replace S := S.alloc (.cells #[.int .i64 (M k 0), .int .i64 (M k 1), .int .i64 (M k 2), .int .i64 (M k 3), .int .i64 (M k 4), .int .i64 (M k 5)] 43)
      replace N := N.alloc (.cells #[.int .i64 (M k 0), .int .i64 (M k 1), .int .i64 (M k 2), .int .i64 (M k 3), .int .i64 (M k 4), .int .i64 (M k 5)] 43)
      replace U := U.alloc (.cells #[.int .i64 (M k 0), .int .i64 (M k 1), .int .i64 (M k 2), .int .i64 (M k 3), .int .i64 (M k 4), .int .i64 (M k 5)] 43)
      replace hB := bal hB (.cells #[.int .i64 (M k 0), .int .i64 (M k 1), .int .i64 (M k 2), .int .i64 (M k 3), .int .i64 (M k 4), .int .i64 (M k 5)] 43)
      have X := Blk.new wr 43 #[.int .i64 (M k 0), .int .i64 (M k 1), .int .i64 (M k 2), .int .i64 (M k 3), .int .i64 (M k 4), .int .i64 (M k 5)]
      go_wp2_with fail
      refine wp_region_inv (fun L x G wx => Below w.heap.size w wx
            ∧ w.heap.size < wx.heap.size
            ∧ Blk wx (w.heap.size) 34 #[.int .i64 (0), .int .u64 (0)]
            ∧ gS < wx.heap.size
            ∧ Blk wx (gS) 38 #[.int .i64 (Wi.Hq (Lq.sx n M)), .int .u64 (Wi.Lr (Lq.sx n M)), .int .i64 (Wi.Hq (Lq.sy n M)), .int .u64 (Wi.Lr (Lq.sy n M)), .int .i64 (Lq.det n M), .int .i64 (Lq.nr (Lq.sx n M) (Lq.det n M)), .int .i64 (Lq.nr (Lq.sy n M) (Lq.det n M))]
            ∧ gN < wx.heap.size
            ∧ Blk wx (gN) 26 #[.int .i64 (Lq.xx n M), .int .i64 (Lq.xy n M), .int .i64 (Lq.yy n M), .int .i64 (Lq.xz n M), .int .i64 (Lq.yz n M)]
            ∧ gN + 1 < wx.heap.size
            ∧ (¬ L 13 → Blk wx (gN + 1) 34 #[.int .i64 (Wi.Hq (Lq.zz k M)), .int .u64 (Wi.Lr (Lq.zz k M))])
            ∧ (L 13 → Blk wx (gN + 1) 34 #[.int .i64 (Wi.Hq (Lq.zz (k + 1) M)), .int .u64 (Wi.Lr (Lq.zz (k + 1) M))])
            ∧ wr.heap.size < wx.heap.size
            ∧ Blk wx (wr.heap.size) 43 #[.int .i64 (M k 0), .int .i64 (M k 1), .int .i64 (M k 2), .int .i64 (M k 3), .int .i64 (M k 4), .int .i64 (M k 5)]
            ∧ (L 13 → L 0)
            ∧ (L 0 → x 37 = .agg #[.int .i64 (Wi.Hq (Lq.zz k M)), .int .u64 (Wi.Lr (Lq.zz k M))])
            ∧ (L 1 → x 38 = .pointer (some ⟨wr.heap.size, 5, none⟩))
            ∧ (L 2 → x 39 = .int .i64 (M k 5))
            ∧ (L 3 → x 40 = .pointer (some ⟨wr.heap.size, 3, none⟩))
            ∧ (L 4 → x 41 = .int .i64 (M k 3))
            ∧ (L 5 → x 42 = .int .i64 (M k 5 * M k 3))
            ∧ (L 6 → x 43 = .pointer (some ⟨wr.heap.size, 3, none⟩))
            ∧ (L 7 → x 44 = .int .i64 (M k 3))
            ∧ (L 8 → x 45 = .agg #[.int .i64 (Wi.Hq (M k 5 * M k 3 * M k 3)), .int .u64 (Wi.Lr (M k 5 * M k 3 * M k 3))])
            ∧ (L 9 → x 46 = .tuple #[.agg #[.int .i64 (Wi.Hq (Lq.zz (k + 1) M)), .int .u64 (Wi.Lr (Lq.zz (k + 1) M))], .bool (Wi.okb (Lq.zz k M + M k 5 * M k 3 * M k 3))])
            ∧ (L 10 → x 36 = .tuple #[.agg #[.int .i64 (Wi.Hq (Lq.zz (k + 1) M)), .int .u64 (Wi.Lr (Lq.zz (k + 1) M))], .bool (Wi.okb (Lq.zz k M + M k 5 * M k 3 * M k 3))])
            ∧ (L 11 → x 47 = .agg #[.int .i64 (Wi.Hq (Lq.zz (k + 1) M)), .int .u64 (Wi.Lr (Lq.zz (k + 1) M))])
            ∧ (L 12 → x 48 = .bool (Wi.okb (Lq.zz k M + M k 5 * M k 3 * M k 3)))) [37, 38, 39, 40, 41, 42, 43, 44, 45, 46, 36, 47, 48] 14 (by kernel_rfl) (by kernel_rfl) (by kernel_rfl) ?h0 ?st ?fin
      case h0 =>
        exact ⟨bdr hB, Blk.lt R.drew, R.drew, Blk.lt S.drew, S.drew, Blk.lt N.drew, N.drew, Blk.lt U.drew, (fun _ => U.drew), fun q => q.elim, Blk.lt X.drew, X.drew, fun q => q.elim, fun q => q.elim, fun q => q.elim, fun q => q.elim, fun q => q.elim, fun q => q.elim, fun q => q.elim, fun q => q.elim, fun q => q.elim, fun q => q.elim, fun q => q.elim, fun q => q.elim, fun q => q.elim, fun q => q.elim⟩
      case st =>
        refine StepsOk.cons (i := 0) rfl (fun L x G w1 K Q hn hp hJ hK => ?_) ?_
        · skip
          have hc := Blk.open2 (((hJ.2.2.2.2.2.2.2.2.1) (fun q => hn ((hJ.2.2.2.2.2.2.2.2.2.2.2.2.1) q))))
          have c0 := hc.1
          have c1 := hc.2.1
          have c2 := hc.2.2.1
          have c3 := hc.2.2.2
          clear hc
          simp only [putAll, Act.put, List.setIfInBounds_toArray, List.set_cons_zero, List.set_cons_succ]
          go_simp
          refine hK _ G _ (by kernel_rfl) ?_
          exact ⟨(hJ.1),
            (hJ.2.1),
            (hJ.2.2.1),
            (hJ.2.2.2.1),
            (hJ.2.2.2.2.1),
            (hJ.2.2.2.2.2.1),
            (hJ.2.2.2.2.2.2.1),
            (hJ.2.2.2.2.2.2.2.1),
            fun n => (hJ.2.2.2.2.2.2.2.2.1) (fun m => n (.inr m)),
            fun q => (hJ.2.2.2.2.2.2.2.2.2.1) (q.resolve_left (by decide)),
            (hJ.2.2.2.2.2.2.2.2.2.2.1),
            (hJ.2.2.2.2.2.2.2.2.2.2.2.1),
            fun _ => .inl rfl,
            fun _ => rfl,
            fun q => (hJ.2.2.2.2.2.2.2.2.2.2.2.2.2.2.1) (q.resolve_left (by decide)),
            fun q => (hJ.2.2.2.2.2.2.2.2.2.2.2.2.2.2.2.1) (q.resolve_left (by decide)),
            fun q => (hJ.2.2.2.2.2.2.2.2.2.2.2.2.2.2.2.2.1) (q.resolve_left (by decide)),
            fun q => (hJ.2.2.2.2.2.2.2.2.2.2.2.2.2.2.2.2.2.1) (q.resolve_left (by decide)),
            fun q => (hJ.2.2.2.2.2.2.2.2.2.2.2.2.2.2.2.2.2.2.1) (q.resolve_left (by decide)),
            fun q => (hJ.2.2.2.2.2.2.2.2.2.2.2.2.2.2.2.2.2.2.2.1) (q.resolve_left (by decide)),
            fun q => (hJ.2.2.2.2.2.2.2.2.2.2.2.2.2.2.2.2.2.2.2.2.1) (q.resolve_left (by decide)),
            fun q => (hJ.2.2.2.2.2.2.2.2.2.2.2.2.2.2.2.2.2.2.2.2.2.1) (q.resolve_left (by decide)),
            fun q => (hJ.2.2.2.2.2.2.2.2.2.2.2.2.2.2.2.2.2.2.2.2.2.2.1) (q.resolve_left (by decide)),
            fun q => (hJ.2.2.2.2.2.2.2.2.2.2.2.2.2.2.2.2.2.2.2.2.2.2.2.1) (q.resolve_left (by decide)),
            fun q => (hJ.2.2.2.2.2.2.2.2.2.2.2.2.2.2.2.2.2.2.2.2.2.2.2.2.1) (q.resolve_left (by decide)),
            fun q => (hJ.2.2.2.2.2.2.2.2.2.2.2.2.2.2.2.2.2.2.2.2.2.2.2.2.2) (q.resolve_left (by decide))⟩
        refine StepsOk.cons (i := 1) rfl (fun L x G w1 K Q hn hp hJ hK => ?_) ?_
        · skip
          simp only [putAll, Act.put, List.setIfInBounds_toArray, List.set_cons_zero, List.set_cons_succ]
          go_simp
          refine hK _ G _ (by kernel_rfl) ?_
          exact ⟨(hJ.1),
            (hJ.2.1),
            (hJ.2.2.1),
            (hJ.2.2.2.1),
            (hJ.2.2.2.2.1),
            (hJ.2.2.2.2.2.1),
            (hJ.2.2.2.2.2.2.1),
            (hJ.2.2.2.2.2.2.2.1),
            fun n => (hJ.2.2.2.2.2.2.2.2.1) (fun m => n (.inr m)),
            fun q => (hJ.2.2.2.2.2.2.2.2.2.1) (q.resolve_left (by decide)),
            (hJ.2.2.2.2.2.2.2.2.2.2.1),
            (hJ.2.2.2.2.2.2.2.2.2.2.2.1),
            fun q => .inr ((hJ.2.2.2.2.2.2.2.2.2.2.2.2.1) (q.resolve_left (by decide))),
            fun q => (hJ.2.2.2.2.2.2.2.2.2.2.2.2.2.1) (q.resolve_left (by decide)),
            fun _ => rfl,
            fun q => (hJ.2.2.2.2.2.2.2.2.2.2.2.2.2.2.2.1) (q.resolve_left (by decide)),
            fun q => (hJ.2.2.2.2.2.2.2.2.2.2.2.2.2.2.2.2.1) (q.resolve_left (by decide)),
            fun q => (hJ.2.2.2.2.2.2.2.2.2.2.2.2.2.2.2.2.2.1) (q.resolve_left (by decide)),
            fun q => (hJ.2.2.2.2.2.2.2.2.2.2.2.2.2.2.2.2.2.2.1) (q.resolve_left (by decide)),
            fun q => (hJ.2.2.2.2.2.2.2.2.2.2.2.2.2.2.2.2.2.2.2.1) (q.resolve_left (by decide)),
            fun q => (hJ.2.2.2.2.2.2.2.2.2.2.2.2.2.2.2.2.2.2.2.2.1) (q.resolve_left (by decide)),
            fun q => (hJ.2.2.2.2.2.2.2.2.2.2.2.2.2.2.2.2.2.2.2.2.2.1) (q.resolve_left (by decide)),
            fun q => (hJ.2.2.2.2.2.2.2.2.2.2.2.2.2.2.2.2.2.2.2.2.2.2.1) (q.resolve_left (by decide)),
            fun q => (hJ.2.2.2.2.2.2.2.2.2.2.2.2.2.2.2.2.2.2.2.2.2.2.2.1) (q.resolve_left (by decide)),
            fun q => (hJ.2.2.2.2.2.2.2.2.2.2.2.2.2.2.2.2.2.2.2.2.2.2.2.2.1) (q.resolve_left (by decide)),
            fun q => (hJ.2.2.2.2.2.2.2.2.2.2.2.2.2.2.2.2.2.2.2.2.2.2.2.2.2) (q.resolve_left (by decide))⟩
        refine StepsOk.cons (i := 2) rfl (fun L x G w1 K Q hn hp hJ hK => ?_) ?_
        · skip
          have p1 : L 1 := hp ⟨1, .data⟩ (by simp) rfl
          have e1 := (hJ.2.2.2.2.2.2.2.2.2.2.2.2.2.2.1) p1
          have hc := Blk.open6 ((hJ.2.2.2.2.2.2.2.2.2.2.2.1))
          have c0 := hc.1
          have c1 := hc.2.1
          have c2 := hc.2.2.1
          have c3 := hc.2.2.2.1
          have c4 := hc.2.2.2.2.1
          have c5 := hc.2.2.2.2.2.1
          have c6 := hc.2.2.2.2.2.2.1
          have c7 := hc.2.2.2.2.2.2.2
          clear hc
          simp only [putAll, Act.put, List.setIfInBounds_toArray, List.set_cons_zero, List.set_cons_succ]
          go_simp
          refine hK _ G _ (by kernel_rfl) ?_
          exact ⟨(hJ.1),
            (hJ.2.1),
            (hJ.2.2.1),
            (hJ.2.2.2.1),
            (hJ.2.2.2.2.1),
            (hJ.2.2.2.2.2.1),
            (hJ.2.2.2.2.2.2.1),
            (hJ.2.2.2.2.2.2.2.1),
            fun n => (hJ.2.2.2.2.2.2.2.2.1) (fun m => n (.inr m)),
            fun q => (hJ.2.2.2.2.2.2.2.2.2.1) (q.resolve_left (by decide)),
            (hJ.2.2.2.2.2.2.2.2.2.2.1),
            (hJ.2.2.2.2.2.2.2.2.2.2.2.1),
            fun q => .inr ((hJ.2.2.2.2.2.2.2.2.2.2.2.2.1) (q.resolve_left (by decide))),
            fun q => (hJ.2.2.2.2.2.2.2.2.2.2.2.2.2.1) (q.resolve_left (by decide)),
            fun _ => by first | exact rfl | exact e1,
            fun _ => rfl,
            fun q => (hJ.2.2.2.2.2.2.2.2.2.2.2.2.2.2.2.2.1) (q.resolve_left (by decide)),
            fun q => (hJ.2.2.2.2.2.2.2.2.2.2.2.2.2.2.2.2.2.1) (q.resolve_left (by decide)),
            fun q => (hJ.2.2.2.2.2.2.2.2.2.2.2.2.2.2.2.2.2.2.1) (q.resolve_left (by decide)),
            fun q => (hJ.2.2.2.2.2.2.2.2.2.2.2.2.2.2.2.2.2.2.2.1) (q.resolve_left (by decide)),
            fun q => (hJ.2.2.2.2.2.2.2.2.2.2.2.2.2.2.2.2.2.2.2.2.1) (q.resolve_left (by decide)),
            fun q => (hJ.2.2.2.2.2.2.2.2.2.2.2.2.2.2.2.2.2.2.2.2.2.1) (q.resolve_left (by decide)),
            fun q => (hJ.2.2.2.2.2.2.2.2.2.2.2.2.2.2.2.2.2.2.2.2.2.2.1) (q.resolve_left (by decide)),
            fun q => (hJ.2.2.2.2.2.2.2.2.2.2.2.2.2.2.2.2.2.2.2.2.2.2.2.1) (q.resolve_left (by decide)),
            fun q => (hJ.2.2.2.2.2.2.2.2.2.2.2.2.2.2.2.2.2.2.2.2.2.2.2.2.1) (q.resolve_left (by decide)),
            fun q => (hJ.2.2.2.2.2.2.2.2.2.2.2.2.2.2.2.2.2.2.2.2.2.2.2.2.2) (q.resolve_left (by decide))⟩
        refine StepsOk.cons (i := 3) rfl (fun L x G w1 K Q hn hp hJ hK => ?_) ?_
        · skip
          simp only [putAll, Act.put, List.setIfInBounds_toArray, List.set_cons_zero, List.set_cons_succ]
          go_simp
          refine hK _ G _ (by kernel_rfl) ?_
          exact ⟨(hJ.1),
            (hJ.2.1),
            (hJ.2.2.1),
            (hJ.2.2.2.1),
            (hJ.2.2.2.2.1),
            (hJ.2.2.2.2.2.1),
            (hJ.2.2.2.2.2.2.1),
            (hJ.2.2.2.2.2.2.2.1),
            fun n => (hJ.2.2.2.2.2.2.2.2.1) (fun m => n (.inr m)),
            fun q => (hJ.2.2.2.2.2.2.2.2.2.1) (q.resolve_left (by decide)),
            (hJ.2.2.2.2.2.2.2.2.2.2.1),
            (hJ.2.2.2.2.2.2.2.2.2.2.2.1),
            fun q => .inr ((hJ.2.2.2.2.2.2.2.2.2.2.2.2.1) (q.resolve_left (by decide))),
            fun q => (hJ.2.2.2.2.2.2.2.2.2.2.2.2.2.1) (q.resolve_left (by decide)),
            fun q => (hJ.2.2.2.2.2.2.2.2.2.2.2.2.2.2.1) (q.resolve_left (by decide)),
            fun q => (hJ.2.2.2.2.2.2.2.2.2.2.2.2.2.2.2.1) (q.resolve_left (by decide)),
            fun _ => rfl,
            fun q => (hJ.2.2.2.2.2.2.2.2.2.2.2.2.2.2.2.2.2.1) (q.resolve_left (by decide)),
            fun q => (hJ.2.2.2.2.2.2.2.2.2.2.2.2.2.2.2.2.2.2.1) (q.resolve_left (by decide)),
            fun q => (hJ.2.2.2.2.2.2.2.2.2.2.2.2.2.2.2.2.2.2.2.1) (q.resolve_left (by decide)),
            fun q => (hJ.2.2.2.2.2.2.2.2.2.2.2.2.2.2.2.2.2.2.2.2.1) (q.resolve_left (by decide)),
            fun q => (hJ.2.2.2.2.2.2.2.2.2.2.2.2.2.2.2.2.2.2.2.2.2.1) (q.resolve_left (by decide)),
            fun q => (hJ.2.2.2.2.2.2.2.2.2.2.2.2.2.2.2.2.2.2.2.2.2.2.1) (q.resolve_left (by decide)),
            fun q => (hJ.2.2.2.2.2.2.2.2.2.2.2.2.2.2.2.2.2.2.2.2.2.2.2.1) (q.resolve_left (by decide)),
            fun q => (hJ.2.2.2.2.2.2.2.2.2.2.2.2.2.2.2.2.2.2.2.2.2.2.2.2.1) (q.resolve_left (by decide)),
            fun q => (hJ.2.2.2.2.2.2.2.2.2.2.2.2.2.2.2.2.2.2.2.2.2.2.2.2.2) (q.resolve_left (by decide))⟩
        refine StepsOk.cons (i := 4) rfl (fun L x G w1 K Q hn hp hJ hK => ?_) ?_
        · skip
          have p3 : L 3 := hp ⟨3, .data⟩ (by simp) rfl
          have e3 := (hJ.2.2.2.2.2.2.2.2.2.2.2.2.2.2.2.2.1) p3
          have hc := Blk.open6 ((hJ.2.2.2.2.2.2.2.2.2.2.2.1))
          have c0 := hc.1
          have c1 := hc.2.1
          have c2 := hc.2.2.1
          have c3 := hc.2.2.2.1
          have c4 := hc.2.2.2.2.1
          have c5 := hc.2.2.2.2.2.1
          have c6 := hc.2.2.2.2.2.2.1
          have c7 := hc.2.2.2.2.2.2.2
          clear hc
          simp only [putAll, Act.put, List.setIfInBounds_toArray, List.set_cons_zero, List.set_cons_succ]
          go_simp
          refine hK _ G _ (by kernel_rfl) ?_
          exact ⟨(hJ.1),
            (hJ.2.1),
            (hJ.2.2.1),
            (hJ.2.2.2.1),
            (hJ.2.2.2.2.1),
            (hJ.2.2.2.2.2.1),
            (hJ.2.2.2.2.2.2.1),
            (hJ.2.2.2.2.2.2.2.1),
            fun n => (hJ.2.2.2.2.2.2.2.2.1) (fun m => n (.inr m)),
            fun q => (hJ.2.2.2.2.2.2.2.2.2.1) (q.resolve_left (by decide)),
            (hJ.2.2.2.2.2.2.2.2.2.2.1),
            (hJ.2.2.2.2.2.2.2.2.2.2.2.1),
            fun q => .inr ((hJ.2.2.2.2.2.2.2.2.2.2.2.2.1) (q.resolve_left (by decide))),
            fun q => (hJ.2.2.2.2.2.2.2.2.2.2.2.2.2.1) (q.resolve_left (by decide)),
            fun q => (hJ.2.2.2.2.2.2.2.2.2.2.2.2.2.2.1) (q.resolve_left (by decide)),
            fun q => (hJ.2.2.2.2.2.2.2.2.2.2.2.2.2.2.2.1) (q.resolve_left (by decide)),
            fun _ => by first | exact rfl | exact e3,
            fun _ => rfl,
            fun q => (hJ.2.2.2.2.2.2.2.2.2.2.2.2.2.2.2.2.2.2.1) (q.resolve_left (by decide)),
            fun q => (hJ.2.2.2.2.2.2.2.2.2.2.2.2.2.2.2.2.2.2.2.1) (q.resolve_left (by decide)),
            fun q => (hJ.2.2.2.2.2.2.2.2.2.2.2.2.2.2.2.2.2.2.2.2.1) (q.resolve_left (by decide)),
            fun q => (hJ.2.2.2.2.2.2.2.2.2.2.2.2.2.2.2.2.2.2.2.2.2.1) (q.resolve_left (by decide)),
            fun q => (hJ.2.2.2.2.2.2.2.2.2.2.2.2.2.2.2.2.2.2.2.2.2.2.1) (q.resolve_left (by decide)),
            fun q => (hJ.2.2.2.2.2.2.2.2.2.2.2.2.2.2.2.2.2.2.2.2.2.2.2.1) (q.resolve_left (by decide)),
            fun q => (hJ.2.2.2.2.2.2.2.2.2.2.2.2.2.2.2.2.2.2.2.2.2.2.2.2.1) (q.resolve_left (by decide)),
            fun q => (hJ.2.2.2.2.2.2.2.2.2.2.2.2.2.2.2.2.2.2.2.2.2.2.2.2.2) (q.resolve_left (by decide))⟩
        refine StepsOk.cons (i := 5) rfl (fun L x G w1 K Q hn hp hJ hK => ?_) ?_
        · skip
          have p2 : L 2 := hp ⟨2, .data⟩ (by simp) rfl
          have e2 := (hJ.2.2.2.2.2.2.2.2.2.2.2.2.2.2.2.1) p2
          have p4 : L 4 := hp ⟨4, .data⟩ (by simp) rfl
          have e4 := (hJ.2.2.2.2.2.2.2.2.2.2.2.2.2.2.2.2.2.1) p4
          simp only [putAll, Act.put, List.setIfInBounds_toArray, List.set_cons_zero, List.set_cons_succ]
          go_simp
          refine hK _ G _ (by kernel_rfl) ?_
          exact ⟨(hJ.1),
            (hJ.2.1),
            (hJ.2.2.1),
            (hJ.2.2.2.1),
            (hJ.2.2.2.2.1),
            (hJ.2.2.2.2.2.1),
            (hJ.2.2.2.2.2.2.1),
            (hJ.2.2.2.2.2.2.2.1),
            fun n => (hJ.2.2.2.2.2.2.2.2.1) (fun m => n (.inr m)),
            fun q => (hJ.2.2.2.2.2.2.2.2.2.1) (q.resolve_left (by decide)),
            (hJ.2.2.2.2.2.2.2.2.2.2.1),
            (hJ.2.2.2.2.2.2.2.2.2.2.2.1),
            fun q => .inr ((hJ.2.2.2.2.2.2.2.2.2.2.2.2.1) (q.resolve_left (by decide))),
            fun q => (hJ.2.2.2.2.2.2.2.2.2.2.2.2.2.1) (q.resolve_left (by decide)),
            fun q => (hJ.2.2.2.2.2.2.2.2.2.2.2.2.2.2.1) (q.resolve_left (by decide)),
            fun _ => by first | exact rfl | exact e2,
            fun q => (hJ.2.2.2.2.2.2.2.2.2.2.2.2.2.2.2.2.1) (q.resolve_left (by decide)),
            fun _ => by first | exact rfl | exact e4,
            fun _ => rfl,
            fun q => (hJ.2.2.2.2.2.2.2.2.2.2.2.2.2.2.2.2.2.2.2.1) (q.resolve_left (by decide)),
            fun q => (hJ.2.2.2.2.2.2.2.2.2.2.2.2.2.2.2.2.2.2.2.2.1) (q.resolve_left (by decide)),
            fun q => (hJ.2.2.2.2.2.2.2.2.2.2.2.2.2.2.2.2.2.2.2.2.2.1) (q.resolve_left (by decide)),
            fun q => (hJ.2.2.2.2.2.2.2.2.2.2.2.2.2.2.2.2.2.2.2.2.2.2.1) (q.resolve_left (by decide)),
            fun q => (hJ.2.2.2.2.2.2.2.2.2.2.2.2.2.2.2.2.2.2.2.2.2.2.2.1) (q.resolve_left (by decide)),
            fun q => (hJ.2.2.2.2.2.2.2.2.2.2.2.2.2.2.2.2.2.2.2.2.2.2.2.2.1) (q.resolve_left (by decide)),
            fun q => (hJ.2.2.2.2.2.2.2.2.2.2.2.2.2.2.2.2.2.2.2.2.2.2.2.2.2) (q.resolve_left (by decide))⟩
        refine StepsOk.cons (i := 6) rfl (fun L x G w1 K Q hn hp hJ hK => ?_) ?_
        · skip
          simp only [putAll, Act.put, List.setIfInBounds_toArray, List.set_cons_zero, List.set_cons_succ]
          go_simp
          refine hK _ G _ (by kernel_rfl) ?_
          exact ⟨(hJ.1),
            (hJ.2.1),
            (hJ.2.2.1),
            (hJ.2.2.2.1),
            (hJ.2.2.2.2.1),
            (hJ.2.2.2.2.2.1),
            (hJ.2.2.2.2.2.2.1),
            (hJ.2.2.2.2.2.2.2.1),
            fun n => (hJ.2.2.2.2.2.2.2.2.1) (fun m => n (.inr m)),
            fun q => (hJ.2.2.2.2.2.2.2.2.2.1) (q.resolve_left (by decide)),
            (hJ.2.2.2.2.2.2.2.2.2.2.1),
            (hJ.2.2.2.2.2.2.2.2.2.2.2.1),
            fun q => .inr ((hJ.2.2.2.2.2.2.2.2.2.2.2.2.1) (q.resolve_left (by decide))),
            fun q => (hJ.2.2.2.2.2.2.2.2.2.2.2.2.2.1) (q.resolve_left (by decide)),
            fun q => (hJ.2.2.2.2.2.2.2.2.2.2.2.2.2.2.1) (q.resolve_left (by decide)),
            fun q => (hJ.2.2.2.2.2.2.2.2.2.2.2.2.2.2.2.1) (q.resolve_left (by decide)),
            fun q => (hJ.2.2.2.2.2.2.2.2.2.2.2.2.2.2.2.2.1) (q.resolve_left (by decide)),
            fun q => (hJ.2.2.2.2.2.2.2.2.2.2.2.2.2.2.2.2.2.1) (q.resolve_left (by decide)),
            fun q => (hJ.2.2.2.2.2.2.2.2.2.2.2.2.2.2.2.2.2.2.1) (q.resolve_left (by decide)),
            fun _ => rfl,
            fun q => (hJ.2.2.2.2.2.2.2.2.2.2.2.2.2.2.2.2.2.2.2.2.1) (q.resolve_left (by decide)),
            fun q => (hJ.2.2.2.2.2.2.2.2.2.2.2.2.2.2.2.2.2.2.2.2.2.1) (q.resolve_left (by decide)),
            fun q => (hJ.2.2.2.2.2.2.2.2.2.2.2.2.2.2.2.2.2.2.2.2.2.2.1) (q.resolve_left (by decide)),
            fun q => (hJ.2.2.2.2.2.2.2.2.2.2.2.2.2.2.2.2.2.2.2.2.2.2.2.1) (q.resolve_left (by decide)),
            fun q => (hJ.2.2.2.2.2.2.2.2.2.2.2.2.2.2.2.2.2.2.2.2.2.2.2.2.1) (q.resolve_left (by decide)),
            fun q => (hJ.2.2.2.2.2.2.2.2.2.2.2.2.2.2.2.2.2.2.2.2.2.2.2.2.2) (q.resolve_left (by decide))⟩
        refine StepsOk.cons (i := 7) rfl (fun L x G w1 K Q hn hp hJ hK => ?_) ?_
        · skip
          have p6 : L 6 := hp ⟨6, .data⟩ (by simp) rfl
          have e6 := (hJ.2.2.2.2.2.2.2.2.2.2.2.2.2.2.2.2.2.2.2.1) p6
          have hc := Blk.open6 ((hJ.2.2.2.2.2.2.2.2.2.2.2.1))
          have c0 := hc.1
          have c1 := hc.2.1
          have c2 := hc.2.2.1
          have c3 := hc.2.2.2.1
          have c4 := hc.2.2.2.2.1
          have c5 := hc.2.2.2.2.2.1
          have c6 := hc.2.2.2.2.2.2.1
          have c7 := hc.2.2.2.2.2.2.2
          clear hc
          simp only [putAll, Act.put, List.setIfInBounds_toArray, List.set_cons_zero, List.set_cons_succ]
          go_simp
          refine hK _ G _ (by kernel_rfl) ?_
          exact ⟨(hJ.1),
            (hJ.2.1),
            (hJ.2.2.1),
            (hJ.2.2.2.1),
            (hJ.2.2.2.2.1),
            (hJ.2.2.2.2.2.1),
            (hJ.2.2.2.2.2.2.1),
            (hJ.2.2.2.2.2.2.2.1),
            fun n => (hJ.2.2.2.2.2.2.2.2.1) (fun m => n (.inr m)),
            fun q => (hJ.2.2.2.2.2.2.2.2.2.1) (q.resolve_left (by decide)),
            (hJ.2.2.2.2.2.2.2.2.2.2.1),
            (hJ.2.2.2.2.2.2.2.2.2.2.2.1),
            fun q => .inr ((hJ.2.2.2.2.2.2.2.2.2.2.2.2.1) (q.resolve_left (by decide))),
            fun q => (hJ.2.2.2.2.2.2.2.2.2.2.2.2.2.1) (q.resolve_left (by decide)),
            fun q => (hJ.2.2.2.2.2.2.2.2.2.2.2.2.2.2.1) (q.resolve_left (by decide)),
            fun q => (hJ.2.2.2.2.2.2.2.2.2.2.2.2.2.2.2.1) (q.resolve_left (by decide)),
            fun q => (hJ.2.2.2.2.2.2.2.2.2.2.2.2.2.2.2.2.1) (q.resolve_left (by decide)),
            fun q => (hJ.2.2.2.2.2.2.2.2.2.2.2.2.2.2.2.2.2.1) (q.resolve_left (by decide)),
            fun q => (hJ.2.2.2.2.2.2.2.2.2.2.2.2.2.2.2.2.2.2.1) (q.resolve_left (by decide)),
            fun _ => by first | exact rfl | exact e6,
            fun _ => rfl,
            fun q => (hJ.2.2.2.2.2.2.2.2.2.2.2.2.2.2.2.2.2.2.2.2.2.1) (q.resolve_left (by decide)),
            fun q => (hJ.2.2.2.2.2.2.2.2.2.2.2.2.2.2.2.2.2.2.2.2.2.2.1) (q.resolve_left (by decide)),
            fun q => (hJ.2.2.2.2.2.2.2.2.2.2.2.2.2.2.2.2.2.2.2.2.2.2.2.1) (q.resolve_left (by decide)),
            fun q => (hJ.2.2.2.2.2.2.2.2.2.2.2.2.2.2.2.2.2.2.2.2.2.2.2.2.1) (q.resolve_left (by decide)),
            fun q => (hJ.2.2.2.2.2.2.2.2.2.2.2.2.2.2.2.2.2.2.2.2.2.2.2.2.2) (q.resolve_left (by decide))⟩
        refine StepsOk.cons (i := 8) rfl (fun L x G w1 K Q hn hp hJ hK => ?_) ?_
        · skip
          have p5 : L 5 := hp ⟨5, .data⟩ (by simp) rfl
          have e5 := (hJ.2.2.2.2.2.2.2.2.2.2.2.2.2.2.2.2.2.2.1) p5
          have p7 : L 7 := hp ⟨7, .data⟩ (by simp) rfl
          have e7 := (hJ.2.2.2.2.2.2.2.2.2.2.2.2.2.2.2.2.2.2.2.2.1) p7
          simp only [putAll, Act.put, List.setIfInBounds_toArray, List.set_cons_zero, List.set_cons_succ]
          go_simp
          refine (rmul_c _ _ _ (by omega) (by omega) (by omega) (by omega)).mono ?_
          rintro e w2 ⟨rfl, hb⟩
          have hz := hb.size
          try go_simp
          refine hK _ G _ (by kernel_rfl) ?_
          exact ⟨bt (hJ.1) hb,
            Nat.lt_of_lt_of_le (hJ.2.1) hb.size,
            Blk.keep ((hJ.2.2.1)) hb,
            Nat.lt_of_lt_of_le (hJ.2.2.2.1) hb.size,
            Blk.keep ((hJ.2.2.2.2.1)) hb,
            Nat.lt_of_lt_of_le (hJ.2.2.2.2.2.1) hb.size,
            Blk.keep ((hJ.2.2.2.2.2.2.1)) hb,
            Nat.lt_of_lt_of_le (hJ.2.2.2.2.2.2.2.1) hb.size,
            fun n => Blk.keep ((hJ.2.2.2.2.2.2.2.2.1) (fun m => n (.inr m))) hb,
            fun q => Blk.keep ((hJ.2.2.2.2.2.2.2.2.2.1) (q.resolve_left (by decide))) hb,
            Nat.lt_of_lt_of_le (hJ.2.2.2.2.2.2.2.2.2.2.1) hb.size,
            Blk.keep ((hJ.2.2.2.2.2.2.2.2.2.2.2.1)) hb,
            fun q => .inr ((hJ.2.2.2.2.2.2.2.2.2.2.2.2.1) (q.resolve_left (by decide))),
            fun q => (hJ.2.2.2.2.2.2.2.2.2.2.2.2.2.1) (q.resolve_left (by decide)),
            fun q => (hJ.2.2.2.2.2.2.2.2.2.2.2.2.2.2.1) (q.resolve_left (by decide)),
            fun q => (hJ.2.2.2.2.2.2.2.2.2.2.2.2.2.2.2.1) (q.resolve_left (by decide)),
            fun q => (hJ.2.2.2.2.2.2.2.2.2.2.2.2.2.2.2.2.1) (q.resolve_left (by decide)),
            fun q => (hJ.2.2.2.2.2.2.2.2.2.2.2.2.2.2.2.2.2.1) (q.resolve_left (by decide)),
            fun _ => by first | exact rfl | exact e5,
            fun q => (hJ.2.2.2.2.2.2.2.2.2.2.2.2.2.2.2.2.2.2.2.1) (q.resolve_left (by decide)),
            fun _ => by first | exact rfl | exact e7,
            fun _ => rfl,
            fun q => (hJ.2.2.2.2.2.2.2.2.2.2.2.2.2.2.2.2.2.2.2.2.2.2.1) (q.resolve_left (by decide)),
            fun q => (hJ.2.2.2.2.2.2.2.2.2.2.2.2.2.2.2.2.2.2.2.2.2.2.2.1) (q.resolve_left (by decide)),
            fun q => (hJ.2.2.2.2.2.2.2.2.2.2.2.2.2.2.2.2.2.2.2.2.2.2.2.2.1) (q.resolve_left (by decide)),
            fun q => (hJ.2.2.2.2.2.2.2.2.2.2.2.2.2.2.2.2.2.2.2.2.2.2.2.2.2) (q.resolve_left (by decide))⟩
        refine StepsOk.cons (i := 9) rfl (fun L x G w1 K Q hn hp hJ hK => ?_) ?_
        · skip
          have p0 : L 0 := hp ⟨0, .data⟩ (by simp) rfl
          have e0 := (hJ.2.2.2.2.2.2.2.2.2.2.2.2.2.1) p0
          have p8 : L 8 := hp ⟨8, .data⟩ (by simp) rfl
          have e8 := (hJ.2.2.2.2.2.2.2.2.2.2.2.2.2.2.2.2.2.2.2.2.2.1) p8
          simp only [putAll, Act.put, List.setIfInBounds_toArray, List.set_cons_zero, List.set_cons_succ]
          go_simp
          refine (radd_c _ _ _ _ _ _ _ OU OM).mono ?_
          rw [E6.out]
          rintro e w2 ⟨rfl, hb⟩
          have hz := hb.size
          try go_simp
          refine hK _ G _ (by kernel_rfl) ?_
          exact ⟨bt (hJ.1) hb,
            Nat.lt_of_lt_of_le (hJ.2.1) hb.size,
            Blk.keep ((hJ.2.2.1)) hb,
            Nat.lt_of_lt_of_le (hJ.2.2.2.1) hb.size,
            Blk.keep ((hJ.2.2.2.2.1)) hb,
            Nat.lt_of_lt_of_le (hJ.2.2.2.2.2.1) hb.size,
            Blk.keep ((hJ.2.2.2.2.2.2.1)) hb,
            Nat.lt_of_lt_of_le (hJ.2.2.2.2.2.2.2.1) hb.size,
            fun n => Blk.keep ((hJ.2.2.2.2.2.2.2.2.1) (fun m => n (.inr m))) hb,
            fun q => Blk.keep ((hJ.2.2.2.2.2.2.2.2.2.1) (q.resolve_left (by decide))) hb,
            Nat.lt_of_lt_of_le (hJ.2.2.2.2.2.2.2.2.2.2.1) hb.size,
            Blk.keep ((hJ.2.2.2.2.2.2.2.2.2.2.2.1)) hb,
            fun q => .inr ((hJ.2.2.2.2.2.2.2.2.2.2.2.2.1) (q.resolve_left (by decide))),
            fun _ => by first | exact rfl | exact e0,
            fun q => (hJ.2.2.2.2.2.2.2.2.2.2.2.2.2.2.1) (q.resolve_left (by decide)),
            fun q => (hJ.2.2.2.2.2.2.2.2.2.2.2.2.2.2.2.1) (q.resolve_left (by decide)),
            fun q => (hJ.2.2.2.2.2.2.2.2.2.2.2.2.2.2.2.2.1) (q.resolve_left (by decide)),
            fun q => (hJ.2.2.2.2.2.2.2.2.2.2.2.2.2.2.2.2.2.1) (q.resolve_left (by decide)),
            fun q => (hJ.2.2.2.2.2.2.2.2.2.2.2.2.2.2.2.2.2.2.1) (q.resolve_left (by decide)),
            fun q => (hJ.2.2.2.2.2.2.2.2.2.2.2.2.2.2.2.2.2.2.2.1) (q.resolve_left (by decide)),
            fun q => (hJ.2.2.2.2.2.2.2.2.2.2.2.2.2.2.2.2.2.2.2.2.1) (q.resolve_left (by decide)),
            fun _ => by first | exact rfl | exact e8,
            fun _ => rfl,
            fun q => (hJ.2.2.2.2.2.2.2.2.2.2.2.2.2.2.2.2.2.2.2.2.2.2.2.1) (q.resolve_left (by decide)),
            fun q => (hJ.2.2.2.2.2.2.2.2.2.2.2.2.2.2.2.2.2.2.2.2.2.2.2.2.1) (q.resolve_left (by decide)),
            fun q => (hJ.2.2.2.2.2.2.2.2.2.2.2.2.2.2.2.2.2.2.2.2.2.2.2.2.2) (q.resolve_left (by decide))⟩
        refine StepsOk.cons (i := 10) rfl (fun L x G w1 K Q hn hp hJ hK => ?_) ?_
        · skip
          have p9 : L 9 := hp ⟨9, .data⟩ (by simp) rfl
          have e9 := (hJ.2.2.2.2.2.2.2.2.2.2.2.2.2.2.2.2.2.2.2.2.2.2.1) p9
          simp only [putAll, Act.put, List.setIfInBounds_toArray, List.set_cons_zero, List.set_cons_succ]
          go_simp
          refine hK _ G _ (by kernel_rfl) ?_
          exact ⟨(hJ.1),
            (hJ.2.1),
            (hJ.2.2.1),
            (hJ.2.2.2.1),
            (hJ.2.2.2.2.1),
            (hJ.2.2.2.2.2.1),
            (hJ.2.2.2.2.2.2.1),
            (hJ.2.2.2.2.2.2.2.1),
            fun n => (hJ.2.2.2.2.2.2.2.2.1) (fun m => n (.inr m)),
            fun q => (hJ.2.2.2.2.2.2.2.2.2.1) (q.resolve_left (by decide)),
            (hJ.2.2.2.2.2.2.2.2.2.2.1),
            (hJ.2.2.2.2.2.2.2.2.2.2.2.1),
            fun q => .inr ((hJ.2.2.2.2.2.2.2.2.2.2.2.2.1) (q.resolve_left (by decide))),
            fun q => (hJ.2.2.2.2.2.2.2.2.2.2.2.2.2.1) (q.resolve_left (by decide)),
            fun q => (hJ.2.2.2.2.2.2.2.2.2.2.2.2.2.2.1) (q.resolve_left (by decide)),
            fun q => (hJ.2.2.2.2.2.2.2.2.2.2.2.2.2.2.2.1) (q.resolve_left (by decide)),
            fun q => (hJ.2.2.2.2.2.2.2.2.2.2.2.2.2.2.2.2.1) (q.resolve_left (by decide)),
            fun q => (hJ.2.2.2.2.2.2.2.2.2.2.2.2.2.2.2.2.2.1) (q.resolve_left (by decide)),
            fun q => (hJ.2.2.2.2.2.2.2.2.2.2.2.2.2.2.2.2.2.2.1) (q.resolve_left (by decide)),
            fun q => (hJ.2.2.2.2.2.2.2.2.2.2.2.2.2.2.2.2.2.2.2.1) (q.resolve_left (by decide)),
            fun q => (hJ.2.2.2.2.2.2.2.2.2.2.2.2.2.2.2.2.2.2.2.2.1) (q.resolve_left (by decide)),
            fun q => (hJ.2.2.2.2.2.2.2.2.2.2.2.2.2.2.2.2.2.2.2.2.2.1) (q.resolve_left (by decide)),
            fun _ => by first | exact rfl | exact e9,
            fun _ => rfl,
            fun q => (hJ.2.2.2.2.2.2.2.2.2.2.2.2.2.2.2.2.2.2.2.2.2.2.2.2.1) (q.resolve_left (by decide)),
            fun q => (hJ.2.2.2.2.2.2.2.2.2.2.2.2.2.2.2.2.2.2.2.2.2.2.2.2.2) (q.resolve_left (by decide))⟩
        refine StepsOk.cons (i := 11) rfl (fun L x G w1 K Q hn hp hJ hK => ?_) ?_
        · skip
          have p10 : L 10 := hp ⟨10, .data⟩ (by simp) rfl
          have e10 := (hJ.2.2.2.2.2.2.2.2.2.2.2.2.2.2.2.2.2.2.2.2.2.2.2.1) p10
          simp only [putAll, Act.put, List.setIfInBounds_toArray, List.set_cons_zero, List.set_cons_succ]
          go_simp
          refine hK _ G _ (by kernel_rfl) ?_
          exact ⟨(hJ.1),
            (hJ.2.1),
            (hJ.2.2.1),
            (hJ.2.2.2.1),
            (hJ.2.2.2.2.1),
            (hJ.2.2.2.2.2.1),
            (hJ.2.2.2.2.2.2.1),
            (hJ.2.2.2.2.2.2.2.1),
            fun n => (hJ.2.2.2.2.2.2.2.2.1) (fun m => n (.inr m)),
            fun q => (hJ.2.2.2.2.2.2.2.2.2.1) (q.resolve_left (by decide)),
            (hJ.2.2.2.2.2.2.2.2.2.2.1),
            (hJ.2.2.2.2.2.2.2.2.2.2.2.1),
            fun q => .inr ((hJ.2.2.2.2.2.2.2.2.2.2.2.2.1) (q.resolve_left (by decide))),
            fun q => (hJ.2.2.2.2.2.2.2.2.2.2.2.2.2.1) (q.resolve_left (by decide)),
            fun q => (hJ.2.2.2.2.2.2.2.2.2.2.2.2.2.2.1) (q.resolve_left (by decide)),
            fun q => (hJ.2.2.2.2.2.2.2.2.2.2.2.2.2.2.2.1) (q.resolve_left (by decide)),
            fun q => (hJ.2.2.2.2.2.2.2.2.2.2.2.2.2.2.2.2.1) (q.resolve_left (by decide)),
            fun q => (hJ.2.2.2.2.2.2.2.2.2.2.2.2.2.2.2.2.2.1) (q.resolve_left (by decide)),
            fun q => (hJ.2.2.2.2.2.2.2.2.2.2.2.2.2.2.2.2.2.2.1) (q.resolve_left (by decide)),
            fun q => (hJ.2.2.2.2.2.2.2.2.2.2.2.2.2.2.2.2.2.2.2.1) (q.resolve_left (by decide)),
            fun q => (hJ.2.2.2.2.2.2.2.2.2.2.2.2.2.2.2.2.2.2.2.2.1) (q.resolve_left (by decide)),
            fun q => (hJ.2.2.2.2.2.2.2.2.2.2.2.2.2.2.2.2.2.2.2.2.2.1) (q.resolve_left (by decide)),
            fun q => (hJ.2.2.2.2.2.2.2.2.2.2.2.2.2.2.2.2.2.2.2.2.2.2.1) (q.resolve_left (by decide)),
            fun _ => by first | exact rfl | exact e10,
            fun _ => rfl,
            fun q => (hJ.2.2.2.2.2.2.2.2.2.2.2.2.2.2.2.2.2.2.2.2.2.2.2.2.2) (q.resolve_left (by decide))⟩
        refine StepsOk.cons (i := 12) rfl (fun L x G w1 K Q hn hp hJ hK => ?_) ?_
        · skip
          have p10 : L 10 := hp ⟨10, .data⟩ (by simp) rfl
          have e10 := (hJ.2.2.2.2.2.2.2.2.2.2.2.2.2.2.2.2.2.2.2.2.2.2.2.1) p10
          simp only [putAll, Act.put, List.setIfInBounds_toArray, List.set_cons_zero, List.set_cons_succ]
          go_simp
          refine hK _ G _ (by kernel_rfl) ?_
          exact ⟨(hJ.1),
            (hJ.2.1),
            (hJ.2.2.1),
            (hJ.2.2.2.1),
            (hJ.2.2.2.2.1),
            (hJ.2.2.2.2.2.1),
            (hJ.2.2.2.2.2.2.1),
            (hJ.2.2.2.2.2.2.2.1),
            fun n => (hJ.2.2.2.2.2.2.2.2.1) (fun m => n (.inr m)),
            fun q => (hJ.2.2.2.2.2.2.2.2.2.1) (q.resolve_left (by decide)),
            (hJ.2.2.2.2.2.2.2.2.2.2.1),
            (hJ.2.2.2.2.2.2.2.2.2.2.2.1),
            fun q => .inr ((hJ.2.2.2.2.2.2.2.2.2.2.2.2.1) (q.resolve_left (by decide))),
            fun q => (hJ.2.2.2.2.2.2.2.2.2.2.2.2.2.1) (q.resolve_left (by decide)),
            fun q => (hJ.2.2.2.2.2.2.2.2.2.2.2.2.2.2.1) (q.resolve_left (by decide)),
            fun q => (hJ.2.2.2.2.2.2.2.2.2.2.2.2.2.2.2.1) (q.resolve_left (by decide)),
            fun q => (hJ.2.2.2.2.2.2.2.2.2.2.2.2.2.2.2.2.1) (q.resolve_left (by decide)),
            fun q => (hJ.2.2.2.2.2.2.2.2.2.2.2.2.2.2.2.2.2.1) (q.resolve_left (by decide)),
            fun q => (hJ.2.2.2.2.2.2.2.2.2.2.2.2.2.2.2.2.2.2.1) (q.resolve_left (by decide)),
            fun q => (hJ.2.2.2.2.2.2.2.2.2.2.2.2.2.2.2.2.2.2.2.1) (q.resolve_left (by decide)),
            fun q => (hJ.2.2.2.2.2.2.2.2.2.2.2.2.2.2.2.2.2.2.2.2.1) (q.resolve_left (by decide)),
            fun q => (hJ.2.2.2.2.2.2.2.2.2.2.2.2.2.2.2.2.2.2.2.2.2.1) (q.resolve_left (by decide)),
            fun q => (hJ.2.2.2.2.2.2.2.2.2.2.2.2.2.2.2.2.2.2.2.2.2.2.1) (q.resolve_left (by decide)),
            fun _ => by first | exact rfl | exact e10,
            fun q => (hJ.2.2.2.2.2.2.2.2.2.2.2.2.2.2.2.2.2.2.2.2.2.2.2.2.1) (q.resolve_left (by decide)),
            fun _ => rfl⟩
        refine StepsOk.cons (i := 13) rfl (fun L x G w1 K Q hn hp hJ hK => ?_) ?_
        · skip
          have p11 : L 11 := hp ⟨11, .data⟩ (by simp) rfl
          have e11 := (hJ.2.2.2.2.2.2.2.2.2.2.2.2.2.2.2.2.2.2.2.2.2.2.2.2.1) p11
          have hc := Blk.open2 (((hJ.2.2.2.2.2.2.2.2.1) hn))
          have c0 := hc.1
          have c1 := hc.2.1
          have c2 := hc.2.2.1
          have c3 := hc.2.2.2
          clear hc
          simp only [putAll, Act.put, List.setIfInBounds_toArray, List.set_cons_zero, List.set_cons_succ]
          go_simp
          refine hK _ G _ (by kernel_rfl) ?_
          exact ⟨bst (bst ((hJ.1)) (p := ⟨gN + 1, 0, none⟩) (by first | (simp; done) | (simp; omega) | omega) (.int .i64 (Wi.Hq (Lq.zz (k + 1) M)))) (p := ⟨gN + 1, 1, none⟩) (by first | (simp; done) | (simp; omega) | omega) (.int .u64 (Wi.Lr (Lq.zz (k + 1) M))),
            by simpa using (hJ.2.1),
            Blk.far (Blk.far ((hJ.2.2.1)) (p := ⟨gN + 1, 0, none⟩) (by first | (simp; done) | (simp; omega) | omega) (.int .i64 (Wi.Hq (Lq.zz (k + 1) M)))) (p := ⟨gN + 1, 1, none⟩) (by first | (simp; done) | (simp; omega) | omega) (.int .u64 (Wi.Lr (Lq.zz (k + 1) M))),
            by simpa using (hJ.2.2.2.1),
            Blk.far (Blk.far ((hJ.2.2.2.2.1)) (p := ⟨gN + 1, 0, none⟩) (by first | (simp; done) | (simp; omega) | omega) (.int .i64 (Wi.Hq (Lq.zz (k + 1) M)))) (p := ⟨gN + 1, 1, none⟩) (by first | (simp; done) | (simp; omega) | omega) (.int .u64 (Wi.Lr (Lq.zz (k + 1) M))),
            by simpa using (hJ.2.2.2.2.2.1),
            Blk.far (Blk.far ((hJ.2.2.2.2.2.2.1)) (p := ⟨gN + 1, 0, none⟩) (by first | (simp; done) | (simp; omega) | omega) (.int .i64 (Wi.Hq (Lq.zz (k + 1) M)))) (p := ⟨gN + 1, 1, none⟩) (by first | (simp; done) | (simp; omega) | omega) (.int .u64 (Wi.Lr (Lq.zz (k + 1) M))),
            by simpa using (hJ.2.2.2.2.2.2.2.1),
            fun n => absurd (.inl rfl) n,
            fun _ => by simpa using Blk.set_ (Blk.set_ (((hJ.2.2.2.2.2.2.2.2.1) hn)) 0 (.int .i64 (Wi.Hq (Lq.zz (k + 1) M)))) 1 (.int .u64 (Wi.Lr (Lq.zz (k + 1) M))),
            by simpa using (hJ.2.2.2.2.2.2.2.2.2.2.1),
            Blk.far (Blk.far ((hJ.2.2.2.2.2.2.2.2.2.2.2.1)) (p := ⟨gN + 1, 0, none⟩) (by first | (simp; done) | (simp; omega) | omega) (.int .i64 (Wi.Hq (Lq.zz (k + 1) M)))) (p := ⟨gN + 1, 1, none⟩) (by first | (simp; done) | (simp; omega) | omega) (.int .u64 (Wi.Lr (Lq.zz (k + 1) M))),
            fun _ => .inr (hp ⟨0, .phase⟩ (by simp) rfl),
            fun q => (hJ.2.2.2.2.2.2.2.2.2.2.2.2.2.1) (q.resolve_left (by decide)),
            fun q => (hJ.2.2.2.2.2.2.2.2.2.2.2.2.2.2.1) (q.resolve_left (by decide)),
            fun q => (hJ.2.2.2.2.2.2.2.2.2.2.2.2.2.2.2.1) (q.resolve_left (by decide)),
            fun q => (hJ.2.2.2.2.2.2.2.2.2.2.2.2.2.2.2.2.1) (q.resolve_left (by decide)),
            fun q => (hJ.2.2.2.2.2.2.2.2.2.2.2.2.2.2.2.2.2.1) (q.resolve_left (by decide)),
            fun q => (hJ.2.2.2.2.2.2.2.2.2.2.2.2.2.2.2.2.2.2.1) (q.resolve_left (by decide)),
            fun q => (hJ.2.2.2.2.2.2.2.2.2.2.2.2.2.2.2.2.2.2.2.1) (q.resolve_left (by decide)),
            fun q => (hJ.2.2.2.2.2.2.2.2.2.2.2.2.2.2.2.2.2.2.2.2.1) (q.resolve_left (by decide)),
            fun q => (hJ.2.2.2.2.2.2.2.2.2.2.2.2.2.2.2.2.2.2.2.2.2.1) (q.resolve_left (by decide)),
            fun q => (hJ.2.2.2.2.2.2.2.2.2.2.2.2.2.2.2.2.2.2.2.2.2.2.1) (q.resolve_left (by decide)),
            fun q => (hJ.2.2.2.2.2.2.2.2.2.2.2.2.2.2.2.2.2.2.2.2.2.2.2.1) (q.resolve_left (by decide)),
            fun _ => by first | exact rfl | exact e11,
            fun q => (hJ.2.2.2.2.2.2.2.2.2.2.2.2.2.2.2.2.2.2.2.2.2.2.2.2.2) (q.resolve_left (by decide))⟩
        exact StepsOk.nil
      case fin =>
        intro L x G w6 hall hJ
        replace R := (hJ.2.2.1)
        replace S := (hJ.2.2.2.2.1)
        replace N := (hJ.2.2.2.2.2.2.1)
        replace U := (hJ.2.2.2.2.2.2.2.2.2.1) (hall 13 (by decide))
        replace X := (hJ.2.2.2.2.2.2.2.2.2.2.2.1)
        have u0 := hJ.2.2.2.2.2.2.2.2.2.2.2.2.2.1 (hall 0 (by decide))
        have u1 := hJ.2.2.2.2.2.2.2.2.2.2.2.2.2.2.1 (hall 1 (by decide))
        have u2 := hJ.2.2.2.2.2.2.2.2.2.2.2.2.2.2.2.1 (hall 2 (by decide))
        have u3 := hJ.2.2.2.2.2.2.2.2.2.2.2.2.2.2.2.2.1 (hall 3 (by decide))
        have u4 := hJ.2.2.2.2.2.2.2.2.2.2.2.2.2.2.2.2.2.1 (hall 4 (by decide))
        have u5 := hJ.2.2.2.2.2.2.2.2.2.2.2.2.2.2.2.2.2.2.1 (hall 5 (by decide))
        have u6 := hJ.2.2.2.2.2.2.2.2.2.2.2.2.2.2.2.2.2.2.2.1 (hall 6 (by decide))
        have u7 := hJ.2.2.2.2.2.2.2.2.2.2.2.2.2.2.2.2.2.2.2.2.1 (hall 7 (by decide))
        have u8 := hJ.2.2.2.2.2.2.2.2.2.2.2.2.2.2.2.2.2.2.2.2.2.1 (hall 8 (by decide))
        have u9 := hJ.2.2.2.2.2.2.2.2.2.2.2.2.2.2.2.2.2.2.2.2.2.2.1 (hall 9 (by decide))
        have u10 := hJ.2.2.2.2.2.2.2.2.2.2.2.2.2.2.2.2.2.2.2.2.2.2.2.1 (hall 10 (by decide))
        have u11 := hJ.2.2.2.2.2.2.2.2.2.2.2.2.2.2.2.2.2.2.2.2.2.2.2.2.1 (hall 11 (by decide))
        have u12 := hJ.2.2.2.2.2.2.2.2.2.2.2.2.2.2.2.2.2.2.2.2.2.2.2.2.2 (hall 12 (by decide))
        replace hB := hJ.1
        simp only [putAll, Act.put, List.setIfInBounds_toArray, List.set_cons_zero, List.set_cons_succ]
        simp only [u0, u1, u2, u3, u4, u5, u6, u7, u8, u9, u10, u11, u12]
        clear hall hJ u0 u1 u2 u3 u4 u5 u6 u7 u8 u9 u10 u11 u12
        go_wp2_with fail
        go_roundw
        case rel => exact ⟨k + 1, by omega, by go_num, R, S, N, U, hB⟩
        case measure => simp [intOf]; omega
    · obtain rfl : k = n := by omega
      have lR := R.lt
      have lS := S.lt
      have lN := N.lt
      have lU := U.lt
      obtain ⟨c00, c01, c02, c03⟩ := U.open2
      obtain ⟨c10, c11, c12, c13, c14, c15, c16, c17, c18⟩ := S.open7
      go_wp2_with fail
      refine (rtimes_c _ _ _ _ _ OZ (by omega) (by omega)).mono ?_
      rw [E1.out]
      rintro e w10 ⟨rfl, hb⟩
      clear c00 c01 c02 c03 c10 c11 c12 c13 c14 c15 c16 c17 c18
      replace R := R.keep hb
      replace S := S.keep hb
      replace N := N.keep hb
      replace U := U.keep hb
      replace hB := bt hB hb
      clear hb
      obtain ⟨s0, s1, s2, s3⟩ := R.open2
      replace S := S.far (p := ⟨w.heap.size, 0, none⟩) (by first | (simp; done) | (simp; omega) | omega) (.int .i64 (Wi.Hq (Lq.zz k M * Lq.det k M)))
      replace N := N.far (p := ⟨w.heap.size, 0, none⟩) (by first | (simp; done) | (simp; omega) | omega) (.int .i64 (Wi.Hq (Lq.zz k M * Lq.det k M)))
      replace U := U.far (p := ⟨w.heap.size, 0, none⟩) (by first | (simp; done) | (simp; omega) | omega) (.int .i64 (Wi.Hq (Lq.zz k M * Lq.det k M)))
      replace hB := bst hB (p := ⟨w.heap.size, 0, none⟩) (by first | (simp; done) | (simp; omega) | omega) (.int .i64 (Wi.Hq (Lq.zz k M * Lq.det k M)))
      replace R := R.set_ 0 (.int .i64 (Wi.Hq (Lq.zz k M * Lq.det k M)))
      replace S := S.far (p := ⟨w.heap.size, 1, none⟩) (by first | (simp; done) | (simp; omega) | omega) (.int .u64 (Wi.Lr (Lq.zz k M * Lq.det k M)))
      replace N := N.far (p := ⟨w.heap.size, 1, none⟩) (by first | (simp; done) | (simp; omega) | omega) (.int .u64 (Wi.Lr (Lq.zz k M * Lq.det k M)))
      replace U := U.far (p := ⟨w.heap.size, 1, none⟩) (by first | (simp; done) | (simp; omega) | omega) (.int .u64 (Wi.Lr (Lq.zz k M * Lq.det k M)))
      replace hB := bst hB (p := ⟨w.heap.size, 1, none⟩) (by first | (simp; done) | (simp; omega) | omega) (.int .u64 (Wi.Lr (Lq.zz k M * Lq.det k M)))
      replace R := R.set_ 1 (.int .u64 (Wi.Lr (Lq.zz k M * Lq.det k M)))
      simp only [List.setIfInBounds_toArray, List.set_cons_zero, List.set_cons_succ] at R
      obtain ⟨c00, c01, c02, c03, c04, c05, c06, c07, c08⟩ := S.open7
      obtain ⟨c10, c11, c12, c13, c14, c15, c16⟩ := N.open5
      go_wp2_with fail
      refine (rtimes_c _ _ _ _ _ OX (by omega) (by omega)).mono ?_
      rw [E2.out]
      rintro e w11 ⟨rfl, hb⟩
      clear s0 s1 s2 s3
      clear c00 c01 c02 c03 c04 c05 c06 c07 c08 c10 c11 c12 c13 c14 c15 c16
      replace R := R.keep hb
      replace S := S.keep hb
      replace N := N.keep hb
      replace U := U.keep hb
      replace hB := bt hB hb
      clear hb
      have hz11 := hB.size
      have l11R := R.lt
      have l11S := S.lt
      have l11N := N.lt
      have l11U := U.lt
      replace R := R.alloc (.cells #[.int .i64 (Wi.Hq (Lq.sx k M * Lq.xz k M)), .int .u64 (Wi.Lr (Lq.sx k M * Lq.xz k M))] 34)
      replace S := S.alloc (.cells #[.int .i64 (Wi.Hq (Lq.sx k M * Lq.xz k M)), .int .u64 (Wi.Lr (Lq.sx k M * Lq.xz k M))] 34)
      replace N := N.alloc (.cells #[.int .i64 (Wi.Hq (Lq.sx k M * Lq.xz k M)), .int .u64 (Wi.Lr (Lq.sx k M * Lq.xz k M))] 34)
      replace U := U.alloc (.cells #[.int .i64 (Wi.Hq (Lq.sx k M * Lq.xz k M)), .int .u64 (Wi.Lr (Lq.sx k M * Lq.xz k M))] 34)
      replace hB := bal hB (.cells #[.int .i64 (Wi.Hq (Lq.sx k M * Lq.xz k M)), .int .u64 (Wi.Lr (Lq.sx k M * Lq.xz k M))] 34)
      have B1 := Blk.new w11 34 #[.int .i64 (Wi.Hq (Lq.sx k M * Lq.xz k M)), .int .u64 (Wi.Lr (Lq.sx k M * Lq.xz k M))]
      obtain ⟨c00, c01, c02, c03, c04, c05, c06, c07, c08⟩ := S.open7
      obtain ⟨c10, c11, c12, c13, c14, c15, c16⟩ := N.open5
      go_wp2_with fail
      refine (rtimes_c _ _ _ _ _ OY (by omega) (by omega)).mono ?_
      rw [E3.out]
      rintro e w12 ⟨rfl, hb⟩
      clear c00 c01 c02 c03 c04 c05 c06 c07 c08 c10 c11 c12 c13 c14 c15 c16
      replace R := R.keep hb
      replace S := S.keep hb
      replace N := N.keep hb
      replace U := U.keep hb
      replace B1 := B1.keep hb
      replace hB := bt hB hb
      clear hb
      have hz12 := hB.size
      have l12R := R.lt
      have l12S := S.lt
      have l12N := N.lt
      have l12U := U.lt
      have l12B1 := B1.lt
      replace R := R.alloc (.cells #[.int .i64 (Wi.Hq (Lq.sy k M * Lq.yz k M)), .int .u64 (Wi.Lr (Lq.sy k M * Lq.yz k M))] 34)
      replace S := S.alloc (.cells #[.int .i64 (Wi.Hq (Lq.sy k M * Lq.yz k M)), .int .u64 (Wi.Lr (Lq.sy k M * Lq.yz k M))] 34)
      replace N := N.alloc (.cells #[.int .i64 (Wi.Hq (Lq.sy k M * Lq.yz k M)), .int .u64 (Wi.Lr (Lq.sy k M * Lq.yz k M))] 34)
      replace U := U.alloc (.cells #[.int .i64 (Wi.Hq (Lq.sy k M * Lq.yz k M)), .int .u64 (Wi.Lr (Lq.sy k M * Lq.yz k M))] 34)
      replace B1 := B1.alloc (.cells #[.int .i64 (Wi.Hq (Lq.sy k M * Lq.yz k M)), .int .u64 (Wi.Lr (Lq.sy k M * Lq.yz k M))] 34)
      replace hB := bal hB (.cells #[.int .i64 (Wi.Hq (Lq.sy k M * Lq.yz k M)), .int .u64 (Wi.Lr (Lq.sy k M * Lq.yz k M))] 34)
      have B2 := Blk.new w12 34 #[.int .i64 (Wi.Hq (Lq.sy k M * Lq.yz k M)), .int .u64 (Wi.Lr (Lq.sy k M * Lq.yz k M))]
      obtain ⟨c00, c01, c02, c03⟩ := R.open2
      obtain ⟨c10, c11, c12, c13⟩ := B1.open2
      go_wp2_with fail
      refine (rsub_c _ _ _ _ _ _ _ O0 O1).mono ?_
      rw [E4.out]
      rintro e w13 ⟨rfl, hb⟩
      clear c00 c01 c02 c03 c10 c11 c12 c13
      replace R := R.keep hb
      replace S := S.keep hb
      replace N := N.keep hb
      replace U := U.keep hb
      replace B1 := B1.keep hb
      replace B2 := B2.keep hb
      replace hB := bt hB hb
      clear hb
      obtain ⟨s0, s1, s2, s3⟩ := R.open2
      replace S := S.far (p := ⟨w.heap.size, 0, none⟩) (by first | (simp; done) | (simp; omega) | omega) (.int .i64 (Wi.Hq (Lq.zz k M * Lq.det k M - Lq.sx k M * Lq.xz k M)))
      replace N := N.far (p := ⟨w.heap.size, 0, none⟩) (by first | (simp; done) | (simp; omega) | omega) (.int .i64 (Wi.Hq (Lq.zz k M * Lq.det k M - Lq.sx k M * Lq.xz k M)))
      replace U := U.far (p := ⟨w.heap.size, 0, none⟩) (by first | (simp; done) | (simp; omega) | omega) (.int .i64 (Wi.Hq (Lq.zz k M * Lq.det k M - Lq.sx k M * Lq.xz k M)))
      replace B1 := B1.far (p := ⟨w.heap.size, 0, none⟩) (by first | (simp; done) | (simp; omega) | omega) (.int .i64 (Wi.Hq (Lq.zz k M * Lq.det k M - Lq.sx k M * Lq.xz k M)))
      replace B2 := B2.far (p := ⟨w.heap.size, 0, none⟩) (by first | (simp; done) | (simp; omega) | omega) (.int .i64 (Wi.Hq (Lq.zz k M * Lq.det k M - Lq.sx k M * Lq.xz k M)))
      replace hB := bst hB (p := ⟨w.heap.size, 0, none⟩) (by first | (simp; done) | (simp; omega) | omega) (.int .i64 (Wi.Hq (Lq.zz k M * Lq.det k M - Lq.sx k M * Lq.xz k M)))
      replace R := R.set_ 0 (.int .i64 (Wi.Hq (Lq.zz k M * Lq.det k M - Lq.sx k M * Lq.xz k M)))
      replace S := S.far (p := ⟨w.heap.size, 1, none⟩) (by first | (simp; done) | (simp; omega) | omega) (.int .u64 (Wi.Lr (Lq.zz k M * Lq.det k M - Lq.sx k M * Lq.xz k M)))
      replace N := N.far (p := ⟨w.heap.size, 1, none⟩) (by first | (simp; done) | (simp; omega) | omega) (.int .u64 (Wi.Lr (Lq.zz k M * Lq.det k M - Lq.sx k M * Lq.xz k M)))
      replace U := U.far (p := ⟨w.heap.size, 1, none⟩) (by first | (simp; done) | (simp; omega) | omega) (.int .u64 (Wi.Lr (Lq.zz k M * Lq.det k M - Lq.sx k M * Lq.xz k M)))
      replace B1 := B1.far (p := ⟨w.heap.size, 1, none⟩) (by first | (simp; done) | (simp; omega) | omega) (.int .u64 (Wi.Lr (Lq.zz k M * Lq.det k M - Lq.sx k M * Lq.xz k M)))
      replace B2 := B2.far (p := ⟨w.heap.size, 1, none⟩) (by first | (simp; done) | (simp; omega) | omega) (.int .u64 (Wi.Lr (Lq.zz k M * Lq.det k M - Lq.sx k M * Lq.xz k M)))
      replace hB := bst hB (p := ⟨w.heap.size, 1, none⟩) (by first | (simp; done) | (simp; omega) | omega) (.int .u64 (Wi.Lr (Lq.zz k M * Lq.det k M - Lq.sx k M * Lq.xz k M)))
      replace R := R.set_ 1 (.int .u64 (Wi.Lr (Lq.zz k M * Lq.det k M - Lq.sx k M * Lq.xz k M)))
      simp only [List.setIfInBounds_toArray, List.set_cons_zero, List.set_cons_succ] at R
      obtain ⟨c00, c01, c02, c03⟩ := R.open2
      obtain ⟨c10, c11, c12, c13⟩ := B2.open2
      go_wp2_with fail
      refine (rsub_c _ _ _ _ _ _ _ O3 O2).mono ?_
      rw [E5.out]
      rintro e w14 ⟨rfl, hb⟩
      clear s0 s1 s2 s3
      clear c00 c01 c02 c03 c10 c11 c12 c13
      replace R := R.keep hb
      replace S := S.keep hb
      replace N := N.keep hb
      replace U := U.keep hb
      replace B1 := B1.keep hb
      replace B2 := B2.keep hb
      replace hB := bt hB hb
      clear hb
      obtain ⟨s0, s1, s2, s3⟩ := R.open2
      replace S := S.far (p := ⟨w.heap.size, 0, none⟩) (by first | (simp; done) | (simp; omega) | omega) (.int .i64 (Wi.Hq (Lq.num k M)))
      replace N := N.far (p := ⟨w.heap.size, 0, none⟩) (by first | (simp; done) | (simp; omega) | omega) (.int .i64 (Wi.Hq (Lq.num k M)))
      replace U := U.far (p := ⟨w.heap.size, 0, none⟩) (by first | (simp; done) | (simp; omega) | omega) (.int .i64 (Wi.Hq (Lq.num k M)))
      replace B1 := B1.far (p := ⟨w.heap.size, 0, none⟩) (by first | (simp; done) | (simp; omega) | omega) (.int .i64 (Wi.Hq (Lq.num k M)))
      replace B2 := B2.far (p := ⟨w.heap.size, 0, none⟩) (by first | (simp; done) | (simp; omega) | omega) (.int .i64 (Wi.Hq (Lq.num k M)))
      replace hB := bst hB (p := ⟨w.heap.size, 0, none⟩) (by first | (simp; done) | (simp; omega) | omega) (.int .i64 (Wi.Hq (Lq.num k M)))
      replace R := R.set_ 0 (.int .i64 (Wi.Hq (Lq.num k M)))
      replace S := S.far (p := ⟨w.heap.size, 1, none⟩) (by first | (simp; done) | (simp; omega) | omega) (.int .u64 (Wi.Lr (Lq.num k M)))
      replace N := N.far (p := ⟨w.heap.size, 1, none⟩) (by first | (simp; done) | (simp; omega) | omega) (.int .u64 (Wi.Lr (Lq.num k M)))
      replace U := U.far (p := ⟨w.heap.size, 1, none⟩) (by first | (simp; done) | (simp; omega) | omega) (.int .u64 (Wi.Lr (Lq.num k M)))
      replace B1 := B1.far (p := ⟨w.heap.size, 1, none⟩) (by first | (simp; done) | (simp; omega) | omega) (.int .u64 (Wi.Lr (Lq.num k M)))
      replace B2 := B2.far (p := ⟨w.heap.size, 1, none⟩) (by first | (simp; done) | (simp; omega) | omega) (.int .u64 (Wi.Lr (Lq.num k M)))
      replace hB := bst hB (p := ⟨w.heap.size, 1, none⟩) (by first | (simp; done) | (simp; omega) | omega) (.int .u64 (Wi.Lr (Lq.num k M)))
      replace R := R.set_ 1 (.int .u64 (Wi.Lr (Lq.num k M)))
      simp only [List.setIfInBounds_toArray, List.set_cons_zero, List.set_cons_succ] at R
      go_wp2_with fail
      clear s0 s1 s2 s3
      generalize w11.heap.size = g11 at *
      generalize w12.heap.size = g12 at *
      refine wp_region_inv (fun L x G wx => Below w.heap.size w wx
            ∧ w.heap.size < wx.heap.size
            ∧ (¬ L 3 → Blk wx (w.heap.size) 34 #[.int .i64 (Wi.Hq (Lq.num k M)), .int .u64 (Wi.Lr (Lq.num k M))])
            ∧ (L 3 → Blk wx (w.heap.size) 34 #[.int .i64 (Wi.Hq (Lq.num k M)), .int .u64 (Wi.Lr (Lq.num k M))])
            ∧ gS < wx.heap.size
            ∧ Blk wx (gS) 38 #[.int .i64 (Wi.Hq (Lq.sx k M)), .int .u64 (Wi.Lr (Lq.sx k M)), .int .i64 (Wi.Hq (Lq.sy k M)), .int .u64 (Wi.Lr (Lq.sy k M)), .int .i64 (Lq.det k M), .int .i64 (Lq.nr (Lq.sx k M) (Lq.det k M)), .int .i64 (Lq.nr (Lq.sy k M) (Lq.det k M))]
            ∧ (L 3 → L 0)
            ∧ (L 0 → x 85 = .agg #[.int .i64 (Wi.Hq (Lq.num k M)), .int .u64 (Wi.Lr (Lq.num k M))])
            ∧ (L 1 → x 86 = .pointer (some ⟨gS, 4, none⟩))
            ∧ (L 2 → x 87 = .int .i64 (Lq.det k M))
            ∧ (L 4 → x 3 = .int .i64 (Lq.det k M))
            ∧ (L 5 → x 4 = .int .i64 (0))) [85, 86, 87, 3, 4] 6 (by kernel_rfl) (by kernel_rfl) (by kernel_rfl) ?h0 ?st ?fin
      case h0 =>
        exact ⟨bdr hB, Blk.lt R.drew, (fun _ => R.drew), fun q => q.elim, Blk.lt S.drew, S.drew, fun q => q.elim, fun q => q.elim, fun q => q.elim, fun q => q.elim, fun q => q.elim, fun q => q.elim⟩
      case st =>
        refine StepsOk.cons (i := 0) rfl (fun L x G w1 K Q hn hp hJ hK => ?_) ?_
        · skip
          have hc := Blk.open2 (((hJ.2.2.1) (fun q => hn ((hJ.2.2.2.2.2.2.1) q))))
          have c0 := hc.1
          have c1 := hc.2.1
          have c2 := hc.2.2.1
          have c3 := hc.2.2.2
          clear hc
          simp only [putAll, Act.put, List.setIfInBounds_toArray, List.set_cons_zero, List.set_cons_succ]
          go_simp
          refine hK _ G _ (by kernel_rfl) ?_
          exact ⟨(hJ.1),
            (hJ.2.1),
            fun n => (hJ.2.2.1) (fun m => n (.inr m)),
            fun q => (hJ.2.2.2.1) (q.resolve_left (by decide)),
            (hJ.2.2.2.2.1),
            (hJ.2.2.2.2.2.1),
            fun _ => .inl rfl,
            fun _ => rfl,
            fun q => (hJ.2.2.2.2.2.2.2.2.1) (q.resolve_left (by decide)),
            fun q => (hJ.2.2.2.2.2.2.2.2.2.1) (q.resolve_left (by decide)),
            fun q => (hJ.2.2.2.2.2.2.2.2.2.2.1) (q.resolve_left (by decide)),
            fun q => (hJ.2.2.2.2.2.2.2.2.2.2.2) (q.resolve_left (by decide))⟩
        refine StepsOk.cons (i := 1) rfl (fun L x G w1 K Q hn hp hJ hK => ?_) ?_
        · skip
          simp only [putAll, Act.put, List.setIfInBounds_toArray, List.set_cons_zero, List.set_cons_succ]
          go_simp
          refine hK _ G _ (by kernel_rfl) ?_
          exact ⟨(hJ.1),
            (hJ.2.1),
            fun n => (hJ.2.2.1) (fun m => n (.inr m)),
            fun q => (hJ.2.2.2.1) (q.resolve_left (by decide)),
            (hJ.2.2.2.2.1),
            (hJ.2.2.2.2.2.1),
            fun q => .inr ((hJ.2.2.2.2.2.2.1) (q.resolve_left (by decide))),
            fun q => (hJ.2.2.2.2.2.2.2.1) (q.resolve_left (by decide)),
            fun _ => rfl,
            fun q => (hJ.2.2.2.2.2.2.2.2.2.1) (q.resolve_left (by decide)),
            fun q => (hJ.2.2.2.2.2.2.2.2.2.2.1) (q.resolve_left (by decide)),
            fun q => (hJ.2.2.2.2.2.2.2.2.2.2.2) (q.resolve_left (by decide))⟩
        refine StepsOk.cons (i := 2) rfl (fun L x G w1 K Q hn hp hJ hK => ?_) ?_
        · skip
          have p1 : L 1 := hp ⟨1, .data⟩ (by simp) rfl
          have e1 := (hJ.2.2.2.2.2.2.2.2.1) p1
          have hc := Blk.open7 ((hJ.2.2.2.2.2.1))
          have c0 := hc.1
          have c1 := hc.2.1
          have c2 := hc.2.2.1
          have c3 := hc.2.2.2.1
          have c4 := hc.2.2.2.2.1
          have c5 := hc.2.2.2.2.2.1
          have c6 := hc.2.2.2.2.2.2.1
          have c7 := hc.2.2.2.2.2.2.2.1
          have c8 := hc.2.2.2.2.2.2.2.2
          clear hc
          simp only [putAll, Act.put, List.setIfInBounds_toArray, List.set_cons_zero, List.set_cons_succ]
          go_simp
          refine hK _ G _ (by kernel_rfl) ?_
          exact ⟨(hJ.1),
            (hJ.2.1),
            fun n => (hJ.2.2.1) (fun m => n (.inr m)),
            fun q => (hJ.2.2.2.1) (q.resolve_left (by decide)),
            (hJ.2.2.2.2.1),
            (hJ.2.2.2.2.2.1),
            fun q => .inr ((hJ.2.2.2.2.2.2.1) (q.resolve_left (by decide))),
            fun q => (hJ.2.2.2.2.2.2.2.1) (q.resolve_left (by decide)),
            fun _ => by first | exact rfl | exact e1,
            fun _ => rfl,
            fun q => (hJ.2.2.2.2.2.2.2.2.2.2.1) (q.resolve_left (by decide)),
            fun q => (hJ.2.2.2.2.2.2.2.2.2.2.2) (q.resolve_left (by decide))⟩
        refine StepsOk.cons (i := 3) rfl (fun L x G w1 K Q hn hp hJ hK => ?_) ?_
        · skip
          have p0 : L 0 := hp ⟨0, .data⟩ (by simp) rfl
          have e0 := (hJ.2.2.2.2.2.2.2.1) p0
          have hc := Blk.open2 (((hJ.2.2.1) hn))
          have c0 := hc.1
          have c1 := hc.2.1
          have c2 := hc.2.2.1
          have c3 := hc.2.2.2
          clear hc
          simp only [putAll, Act.put, List.setIfInBounds_toArray, List.set_cons_zero, List.set_cons_succ]
          go_simp
          refine hK _ G _ (by kernel_rfl) ?_
          exact ⟨bst (bst ((hJ.1)) (p := ⟨w.heap.size, 0, none⟩) (by first | (simp; done) | (simp; omega) | omega) (.int .i64 (Wi.Hq (Lq.num k M)))) (p := ⟨w.heap.size, 1, none⟩) (by first | (simp; done) | (simp; omega) | omega) (.int .u64 (Wi.Lr (Lq.num k M))),
            by simpa using (hJ.2.1),
            fun n => absurd (.inl rfl) n,
            fun _ => by simpa using Blk.set_ (Blk.set_ (((hJ.2.2.1) hn)) 0 (.int .i64 (Wi.Hq (Lq.num k M)))) 1 (.int .u64 (Wi.Lr (Lq.num k M))),
            by simpa using (hJ.2.2.2.2.1),
            Blk.far (Blk.far ((hJ.2.2.2.2.2.1)) (p := ⟨w.heap.size, 0, none⟩) (by first | (simp; done) | (simp; omega) | omega) (.int .i64 (Wi.Hq (Lq.num k M)))) (p := ⟨w.heap.size, 1, none⟩) (by first | (simp; done) | (simp; omega) | omega) (.int .u64 (Wi.Lr (Lq.num k M))),
            fun _ => .inr (hp ⟨0, .phase⟩ (by simp) rfl),
            fun _ => by first | exact rfl | exact e0,
            fun q => (hJ.2.2.2.2.2.2.2.2.1) (q.resolve_left (by decide)),
            fun q => (hJ.2.2.2.2.2.2.2.2.2.1) (q.resolve_left (by decide)),
            fun q => (hJ.2.2.2.2.2.2.2.2.2.2.1) (q.resolve_left (by decide)),
            fun q => (hJ.2.2.2.2.2.2.2.2.2.2.2) (q.resolve_left (by decide))⟩
        refine StepsOk.cons (i := 4) rfl (fun L x G w1 K Q hn hp hJ hK => ?_) ?_
        · skip
          have p2 : L 2 := hp ⟨2, .data⟩ (by simp) rfl
          have e2 := (hJ.2.2.2.2.2.2.2.2.2.1) p2
          simp only [putAll, Act.put, List.setIfInBounds_toArray, List.set_cons_zero, List.set_cons_succ]
          go_simp
          refine hK _ G _ (by kernel_rfl) ?_
          exact ⟨(hJ.1),
            (hJ.2.1),
            fun n => (hJ.2.2.1) (fun m => n (.inr m)),
            fun q => (hJ.2.2.2.1) (q.resolve_left (by decide)),
            (hJ.2.2.2.2.1),
            (hJ.2.2.2.2.2.1),
            fun q => .inr ((hJ.2.2.2.2.2.2.1) (q.resolve_left (by decide))),
            fun q => (hJ.2.2.2.2.2.2.2.1) (q.resolve_left (by decide)),
            fun q => (hJ.2.2.2.2.2.2.2.2.1) (q.resolve_left (by decide)),
            fun _ => by first | exact rfl | exact e2,
            fun _ => rfl,
            fun q => (hJ.2.2.2.2.2.2.2.2.2.2.2) (q.resolve_left (by decide))⟩
        refine StepsOk.cons (i := 5) rfl (fun L x G w1 K Q hn hp hJ hK => ?_) ?_
        · skip
          simp only [putAll, Act.put, List.setIfInBounds_toArray, List.set_cons_zero, List.set_cons_succ]
          go_simp
          refine hK _ G _ (by kernel_rfl) ?_
          exact ⟨(hJ.1),
            (hJ.2.1),
            fun n => (hJ.2.2.1) (fun m => n (.inr m)),
            fun q => (hJ.2.2.2.1) (q.resolve_left (by decide)),
            (hJ.2.2.2.2.1),
            (hJ.2.2.2.2.2.1),
            fun q => .inr ((hJ.2.2.2.2.2.2.1) (q.resolve_left (by decide))),
            fun q => (hJ.2.2.2.2.2.2.2.1) (q.resolve_left (by decide)),
            fun q => (hJ.2.2.2.2.2.2.2.2.1) (q.resolve_left (by decide)),
            fun q => (hJ.2.2.2.2.2.2.2.2.2.1) (q.resolve_left (by decide)),
            fun q => (hJ.2.2.2.2.2.2.2.2.2.2.1) (q.resolve_left (by decide)),
            fun _ => rfl⟩
        exact StepsOk.nil
      case fin =>
        intro L x G w15 hall hJ
        replace R := (hJ.2.2.2.1) (hall 3 (by decide))
        replace S := (hJ.2.2.2.2.2.1)
        have u0 := hJ.2.2.2.2.2.2.2.1 (hall 0 (by decide))
        have u1 := hJ.2.2.2.2.2.2.2.2.1 (hall 1 (by decide))
        have u2 := hJ.2.2.2.2.2.2.2.2.2.1 (hall 2 (by decide))
        have u4 := hJ.2.2.2.2.2.2.2.2.2.2.1 (hall 4 (by decide))
        have u5 := hJ.2.2.2.2.2.2.2.2.2.2.2 (hall 5 (by decide))
        replace hB := hJ.1
        simp only [putAll, Act.put, List.setIfInBounds_toArray, List.set_cons_zero, List.set_cons_succ]
        simp only [u0, u1, u2, u4, u5]
        clear hall hJ u0 u1 u2 u4 u5
        obtain ⟨r00, r01, r02, r03⟩ := R.open2
        go_wp2_with fail
        refine bodyPost_ret (by simp [results, Try.results24, go_sem, r00, r01, r02, r03]; try rfl) rfl ?_
        exact ⟨lv_ok HE.out, by repeat (first | exact Below.refl _ _ | (with_reducible assumption) | (with_reducible apply bal) | (with_reducible apply bdr) | (with_reducible apply bdnl) | (with_reducible refine bst ?_ (by first | (simp; done) | (simp; omega) | omega) _) | (with_reducible refine bt ?_ (by with_reducible assumption)))⟩
end Go.Proofs.Ytcgcocingfhleaa
