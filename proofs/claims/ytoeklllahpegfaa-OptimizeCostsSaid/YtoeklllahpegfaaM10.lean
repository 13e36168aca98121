/-
  Words and contracts, put together: OA, VW16, VW33, OW, OV, OT, OC, OD, OE.
-/
import Derived.Test.YtoeklllahpegfaaM01
import Derived.Test.YtoeklllahpegfaaM02
import Derived.Test.YtoeklllahpegfaaM04
import Derived.Test.YtoeklllahpegfaaM05
import Derived.Test.YtoeklllahpegfaaM08
import Derived.Deep.DeepCutAuto
import Derived.Deep.CutBlock
/-
  Contracts: optimize.Check.
-/
namespace Go.Proofs.Ytoeklllahpegfaa
set_option linter.unusedVariables false
set_option linter.unusedSimpArgs false
open Go.RowKit
attribute [local irreducible] World.setCell World.cell?

set_option maxRecDepth 100000 in
set_option maxHeartbeats 16000000 in
theorem ocheck_c (Z : ZD) (Y : ZA) (w : World) (H : ZIn w Z Y) : Calls Try.prog 12 #[.agg #[.slice Y.ds Z.nd Y.dsc, .slice Y.lv Z.nl Y.lvc, .slice Y.sp Z.ns Y.spc, .slice Y.tl Z.nt Y.tlc, .slice Y.ms Z.nm Y.msc, .string Z.P.nm, .int .i64 Z.P.em, .int .i64 Z.P.fu, .slice Y.Q.al Z.P.na Y.Q.alc, .slice Y.Q.ma Z.P.nM Y.Q.mac, .slice Y.Q.tC Z.P.nC Y.Q.tCc, .slice Y.Q.tF Z.P.nF Y.Q.tFc, .slice Y.Q.tR Z.P.nR Y.Q.tRc, .slice Y.Q.dD Z.P.nD Y.Q.dDc, .slice Y.Q.dI Z.P.nI Y.Q.dIc, .slice Y.Q.dX Z.P.nX Y.Q.dXc, .slice Y.Q.dN Z.P.nN Y.Q.dNc, .int .i64 Z.P.rf, .int .i64 Z.P.xt, .int .i64 Z.P.ce, .int .i64 Z.ix, .int .i64 Z.cc, .int .i64 Z.fi, .int .i64 Z.la]] w fun e w' => e = .returned (.int .i64 (Oz.zck Z)) ∧ Below w.heap.size w w' := by
  have x1 := H.ds.le
  have x2 := H.ds.mx
  have x3 := H.lv.le
  have x4 := H.tl.le
  have x5 := H.tl.mx
  go_enter Try.func12, Try.ntmps12
  go_wp2_with fail
  have G := Blk.new w 27 #[.slice Y.ds Z.nd Y.dsc, .slice Y.lv Z.nl Y.lvc, .slice Y.sp Z.ns Y.spc, .slice Y.tl Z.nt Y.tlc, .slice Y.ms Z.nm Y.msc, .string Z.P.nm, .int .i64 Z.P.em, .int .i64 Z.P.fu, .slice Y.Q.al Z.P.na Y.Q.alc, .slice Y.Q.ma Z.P.nM Y.Q.mac, .slice Y.Q.tC Z.P.nC Y.Q.tCc, .slice Y.Q.tF Z.P.nF Y.Q.tFc, .slice Y.Q.tR Z.P.nR Y.Q.tRc, .slice Y.Q.dD Z.P.nD Y.Q.dDc, .slice Y.Q.dI Z.P.nI Y.Q.dIc, .slice Y.Q.dX Z.P.nX Y.Q.dXc, .slice Y.Q.dN Z.P.nN Y.Q.dNc, .int .i64 Z.P.rf, .int .i64 Z.P.xt, .int .i64 Z.P.ce, .int .i64 Z.ix, .int .i64 Z.cc, .int .i64 Z.fi, .int .i64 Z.la]
  have hB := ba w (.cells #[.slice Y.ds Z.nd Y.dsc, .slice Y.lv Z.nl Y.lvc, .slice Y.sp Z.ns Y.spc, .slice Y.tl Z.nt Y.tlc, .slice Y.ms Z.nm Y.msc, .string Z.P.nm, .int .i64 Z.P.em, .int .i64 Z.P.fu, .slice Y.Q.al Z.P.na Y.Q.alc, .slice Y.Q.ma Z.P.nM Y.Q.mac, .slice Y.Q.tC Z.P.nC Y.Q.tCc, .slice Y.Q.tF Z.P.nF Y.Q.tFc, .slice Y.Q.tR Z.P.nR Y.Q.tRc, .slice Y.Q.dD Z.P.nD Y.Q.dDc, .slice Y.Q.dI Z.P.nI Y.Q.dIc, .slice Y.Q.dX Z.P.nX Y.Q.dXc, .slice Y.Q.dN Z.P.nN Y.Q.dNc, .int .i64 Z.P.rf, .int .i64 Z.P.xt, .int .i64 Z.P.ce, .int .i64 Z.ix, .int .i64 Z.cc, .int .i64 Z.fi, .int .i64 Z.la] 27)
  replace H := H.keep hB
  have K := Lib.hid (show Oz.zck Z = Oz.fste [(decide (1 ≤ Z.nd), 3), (decide (Z.nd ≤ 24), 3), (decide (1 ≤ Z.nl), 3), (decide (Z.nl ≤ 8), 3), (decide (1 ≤ Z.ns), 3), (decide (Z.ns ≤ 6), 3), (Oz.s0 Z && Oz.shT Z.nt Z.lt Z.nl, 1), (Oz.asB Z.nl Z.lv, 9), (Oz.asB Z.ns Z.sp, 9), (Oz.o0 Z && Oz.alT Z.nt Z.lt Z.tl (-400) 400, 2)] (Oz.pck Z.P) from rfl)
  go_quiet (fail)
  have hB0 := bdnl hB ‹Nat›
  replace H := H.keep (bdn _ ‹Nat›)
  replace G := G.drewN ‹Nat›
  replace hB := hB0
  clear hB0
  obtain ⟨d0, d1, d2, d3, d4, d5, d6, d7, d8, d9, d10, d11, d12, d13, d14, d15, d16, d17, d18, d19, d20, d21, d22, d23, d24, d25⟩ := G.open24
  by_cases q : (Z.nd : Int) < 1
  · have HE := Lib.hid (K.out.trans (Oz.fste_f (decide_eq_false (by omega))))
    have qn : Z.nd < 1 := by omega
    go_wp2_with fail
    go_returns
    refine ⟨?_, hB⟩
    rw [HE.out]; rfl
  have qn1 : ¬ Z.nd < 1 := by omega
  replace K := Lib.hid (K.out.trans (Oz.fste_t (decide_eq_true (by omega))))
  have q1 := q
  clear q
  by_cases q : (24 : Int) < (Z.nd : Int)
  · have HE := Lib.hid (K.out.trans (Oz.fste_f (decide_eq_false (by omega))))
    have qn : 24 < Z.nd := by omega
    go_wp2_with fail
    go_returns
    refine ⟨?_, hB⟩
    rw [HE.out]; rfl
  have qn2 : ¬ 24 < Z.nd := by omega
  replace K := Lib.hid (K.out.trans (Oz.fste_t (decide_eq_true (by omega))))
  have q2 := q
  clear q
  by_cases q : (Z.nl : Int) < 1
  · have HE := Lib.hid (K.out.trans (Oz.fste_f (decide_eq_false (by omega))))
    have qn : Z.nl < 1 := by omega
    go_wp2_with fail
    go_returns
    refine ⟨?_, hB⟩
    rw [HE.out]; rfl
  have qn3 : ¬ Z.nl < 1 := by omega
  replace K := Lib.hid (K.out.trans (Oz.fste_t (decide_eq_true (by omega))))
  have q3 := q
  clear q
  by_cases q : (8 : Int) < (Z.nl : Int)
  · have HE := Lib.hid (K.out.trans (Oz.fste_f (decide_eq_false (by omega))))
    have qn : 8 < Z.nl := by omega
    go_wp2_with fail
    go_returns
    refine ⟨?_, hB⟩
    rw [HE.out]; rfl
  have qn4 : ¬ 8 < Z.nl := by omega
  replace K := Lib.hid (K.out.trans (Oz.fste_t (decide_eq_true (by omega))))
  have q4 := q
  clear q
  by_cases q : (Z.ns : Int) < 1
  · have HE := Lib.hid (K.out.trans (Oz.fste_f (decide_eq_false (by omega))))
    have qn : Z.ns < 1 := by omega
    go_wp2_with fail
    go_returns
    refine ⟨?_, hB⟩
    rw [HE.out]; rfl
  have qn5 : ¬ Z.ns < 1 := by omega
  replace K := Lib.hid (K.out.trans (Oz.fste_t (decide_eq_true (by omega))))
  have q5 := q
  clear q
  by_cases q : (6 : Int) < (Z.ns : Int)
  · have HE := Lib.hid (K.out.trans (Oz.fste_f (decide_eq_false (by omega))))
    have qn : 6 < Z.ns := by omega
    go_wp2_with fail
    go_returns
    refine ⟨?_, hB⟩
    rw [HE.out]; rfl
  have qn6 : ¬ 6 < Z.ns := by omega
  replace K := Lib.hid (K.out.trans (Oz.fste_t (decide_eq_true (by omega))))
  have q6 := q
  clear q
  go_upto_region 4 with fail
  go_cut [5] from 43 to 66 (fun s5 wx => s5 = .bool (Oz.s0 Z) ∧ ZIn wx Z Y ∧ Blk wx w.heap.size 27 #[.slice Y.ds Z.nd Y.dsc, .slice Y.lv Z.nl Y.lvc, .slice Y.sp Z.ns Y.spc, .slice Y.tl Z.nt Y.tlc, .slice Y.ms Z.nm Y.msc, .string Z.P.nm, .int .i64 Z.P.em, .int .i64 Z.P.fu, .slice Y.Q.al Z.P.na Y.Q.alc, .slice Y.Q.ma Z.P.nM Y.Q.mac, .slice Y.Q.tC Z.P.nC Y.Q.tCc, .slice Y.Q.tF Z.P.nF Y.Q.tFc, .slice Y.Q.tR Z.P.nR Y.Q.tRc, .slice Y.Q.dD Z.P.nD Y.Q.dDc, .slice Y.Q.dI Z.P.nI Y.Q.dIc, .slice Y.Q.dX Z.P.nX Y.Q.dXc, .slice Y.Q.dN Z.P.nN Y.Q.dNc, .int .i64 Z.P.rf, .int .i64 Z.P.xt, .int .i64 Z.P.ce, .int .i64 Z.ix, .int .i64 Z.cc, .int .i64 Z.fi, .int .i64 Z.la] ∧ Below w.heap.size w wx)
  case first =>
    by_cases a1 : Z.nt = Z.nd
    rotate_left
    · have HE := Lib.hid (show Oz.s0 Z = false from by unfold Oz.s0; rw [decide_eq_false a1]; rfl)
      have g1 : ((Z.nt : Int) == (Z.nd : Int)) = false := by simp; omega
      clear a1
      go_wp2_with fail
      go_meet
      exact ⟨by first | rfl | (rw [HE.out]; rfl) | rw [HE.out], H, G, hB⟩
    have g1 : ((Z.nt : Int) == (Z.nd : Int)) = true := by simp; omega
    by_cases a2 : Z.nm = Z.nd
    rotate_left
    · have HE := Lib.hid (show Oz.s0 Z = false from by unfold Oz.s0; rw [decide_eq_false a2, Bool.and_false]; rfl)
      have g2 : ((Z.nm : Int) == (Z.nd : Int)) = false := by simp; omega
      clear a1 a2
      go_wp2_with fail
      go_meet
      exact ⟨by first | rfl | (rw [HE.out]; rfl) | rw [HE.out], H, G, hB⟩
    have g2 : ((Z.nm : Int) == (Z.nd : Int)) = true := by simp; omega
    have A1 := Lib.hid a1
    have A2 := Lib.hid a2
    clear a1 a2
    go_wp2_with fail
    refine (index_o _ _ _).mono ?_
    cases q3 : Oz.ixB Z.fi Z.nl
    · have HE := Lib.hid (show Oz.s0 Z = false from by unfold Oz.s0; rw [q3, Bool.and_false]; rfl)
      clear q3
      rintro e w_ ⟨rfl, rfl⟩
      go_wp2_with fail
      go_meet
      exact ⟨by first | rfl | (rw [HE.out]; rfl) | rw [HE.out], H, G, hB⟩
    have Q3 := Lib.hid q3
    clear q3
    rintro e w_ ⟨rfl, rfl⟩
    go_wp2_with fail
    refine (index_o _ _ _).mono ?_
    have HE := Lib.hid (show Oz.s0 Z = Oz.ixB Z.la Z.nl from by unfold Oz.s0; rw [decide_eq_true A1.out, decide_eq_true A2.out, Q3.out]; rfl)
    rintro e w_ ⟨rfl, rfl⟩
    go_wp2_with fail
    go_meet
    exact ⟨by first | rfl | (rw [HE.out]; rfl) | rw [HE.out], H, G, hB⟩
  case rest =>
    clear H G hB
    clear d0 d1 d2 d3 d4 d5 d6 d7 d8 d9 d10 d11 d12 d13 d14 d15 d16 d17 d18 d19 d20 d21 d22 d23 d24 d25
    rename World => W0
    obtain ⟨rfl, H, G, hB⟩ := hcut
    obtain ⟨d0, d1, d2, d3, d4, d5, d6, d7, d8, d9, d10, d11, d12, d13, d14, d15, d16, d17, d18, d19, d20, d21, d22, d23, d24, d25⟩ := G.open24
    go_wp2_with fail
    go_loopw [5, 70] (fun s i wr => ∃ k : Nat, k ≤ Z.nt ∧ s = .bool (Oz.s0 Z && Oz.pre (fun i => decide (Z.lt i = Z.nl)) k) ∧ i = .int .i64 k ∧ W0 = wr) (fun _ i _ => Z.nt - (intOf i).toNat)
    case atStart => exact ⟨0, Nat.zero_le _, by rw [show Oz.pre (fun i => decide (Z.lt i = Z.nl)) 0 = true from rfl, Bool.and_true], rfl, rfl⟩
    case round =>
      obtain ⟨k, hk, rfl, rfl, rfl⟩ := hrel
      by_cases hlt : k < Z.nt
      · obtain ⟨b_, off_, X, cp, eA, hbl, ra0, RX⟩ := H.tl.at1 hlt
        have HA := Lib.hid eA
        rw [eA] at d3
        rw [HA.out]
        clear eA
        cases hv : (Oz.s0 Z && Oz.pre (fun i => decide (Z.lt i = Z.nl)) k)
        · have HE := Lib.hid (show (Oz.s0 Z && Oz.pre (fun i => decide (Z.lt i = Z.nl)) (k + 1)) = false from by rw [Oz.pre, ← Bool.and_assoc, hv]; rfl)
          clear hv
          go_wp2_with fail
          try rw [← HA.out]
          go_roundw
          case rel => exact ⟨k + 1, by omega, by rw [HE.out], by go_num, by first | trivial | rfl⟩
          case measure => simp [intOf]; omega
        · have HV := Lib.hid (show (Oz.s0 Z && Oz.pre (fun i => decide (Z.lt i = Z.nl)) (k + 1)) = (fun i => decide (Z.lt i = Z.nl)) k from by rw [Oz.pre, ← Bool.and_assoc, hv]; rfl)
          clear hv
          by_cases e : Z.lt k = Z.nl
          · have HE := Lib.hid (HV.out.trans (decide_eq_true e))
            have g1 : ((Z.lt k : Int) == (Z.nl : Int)) = true := by simp; omega
            clear e
            go_wp2_with fail
            try rw [← HA.out]
            go_roundw
            case rel => exact ⟨k + 1, by omega, by rw [HE.out], by go_num, by first | trivial | rfl⟩
            case measure => simp [intOf]; omega
          · have HE := Lib.hid (HV.out.trans (decide_eq_false e))
            have g1 : ((Z.lt k : Int) == (Z.nl : Int)) = false := by simp; omega
            clear e
            go_wp2_with fail
            try rw [← HA.out]
            go_roundw
            case rel => exact ⟨k + 1, by omega, by rw [HE.out], by go_num, by first | trivial | rfl⟩
            case measure => simp [intOf]; omega
      · have ek : k = Z.nt := by omega
        have hk2 : ¬ (k : Int) < (Z.nt : Int) := by omega
        rw [ek]
        clear hlt
        cases q : (Oz.s0 Z && Oz.pre (fun i => decide (Z.lt i = Z.nl)) Z.nt)
        · have HE := Lib.hid (K.out.trans (Oz.fste_f q))
          clear q
          go_wp2_with fail
          go_returns
          refine ⟨?_, hB⟩
          rw [HE.out]; rfl

        replace K := Lib.hid (K.out.trans (Oz.fste_t q))
        clear q
        clear d0 d1 d2 d3 d4 d5 d6 d7 d8 d9 d10 d11 d12 d13 d14 d15 d16 d17 d18 d19 d20 d21 d22 d23 d24 d25
        obtain ⟨d0, d1, d2, d3, d4, d5, d6, d7, d8, d9, d10, d11, d12, d13, d14, d15, d16, d17, d18, d19, d20, d21, d22, d23, d24, d25⟩ := G.open24
        go_wp2_with fail
        refine (oasc_c _ _ _ _ _ H.lv).mono ?_
        cases q : Oz.asB Z.nl Z.lv
        · have HE := Lib.hid (K.out.trans (Oz.fste_f q))
          clear q
          rintro e w31 ⟨rfl, h31⟩
          replace H := H.keep h31
          replace G := G.keep h31
          replace hB := bt hB h31
          clear d0 d1 d2 d3 d4 d5 d6 d7 d8 d9 d10 d11 d12 d13 d14 d15 d16 d17 d18 d19 d20 d21 d22 d23 d24 d25
          obtain ⟨d0, d1, d2, d3, d4, d5, d6, d7, d8, d9, d10, d11, d12, d13, d14, d15, d16, d17, d18, d19, d20, d21, d22, d23, d24, d25⟩ := G.open24
          go_wp2_with fail
          go_returns
          refine ⟨?_, hB⟩
          rw [HE.out]; rfl
        replace K := Lib.hid (K.out.trans (Oz.fste_t q))
        clear q
        rintro e w31 ⟨rfl, h31⟩
        replace H := H.keep h31
        replace G := G.keep h31
        replace hB := bt hB h31
        clear d0 d1 d2 d3 d4 d5 d6 d7 d8 d9 d10 d11 d12 d13 d14 d15 d16 d17 d18 d19 d20 d21 d22 d23 d24 d25
        obtain ⟨d0, d1, d2, d3, d4, d5, d6, d7, d8, d9, d10, d11, d12, d13, d14, d15, d16, d17, d18, d19, d20, d21, d22, d23, d24, d25⟩ := G.open24
        go_wp2_with fail
        refine (oasc_c _ _ _ _ _ H.sp).mono ?_
        cases q : Oz.asB Z.ns Z.sp
        · have HE := Lib.hid (K.out.trans (Oz.fste_f q))
          clear q
          rintro e w32 ⟨rfl, h32⟩
          replace H := H.keep h32
          replace G := G.keep h32
          replace hB := bt hB h32
          clear d0 d1 d2 d3 d4 d5 d6 d7 d8 d9 d10 d11 d12 d13 d14 d15 d16 d17 d18 d19 d20 d21 d22 d23 d24 d25
          obtain ⟨d0, d1, d2, d3, d4, d5, d6, d7, d8, d9, d10, d11, d12, d13, d14, d15, d16, d17, d18, d19, d20, d21, d22, d23, d24, d25⟩ := G.open24
          go_wp2_with fail
          go_returns
          refine ⟨?_, hB⟩
          rw [HE.out]; rfl
        replace K := Lib.hid (K.out.trans (Oz.fste_t q))
        clear q
        rintro e w32 ⟨rfl, h32⟩
        replace H := H.keep h32
        replace G := G.keep h32
        replace hB := bt hB h32
        clear d0 d1 d2 d3 d4 d5 d6 d7 d8 d9 d10 d11 d12 d13 d14 d15 d16 d17 d18 d19 d20 d21 d22 d23 d24 d25
        obtain ⟨d0, d1, d2, d3, d4, d5, d6, d7, d8, d9, d10, d11, d12, d13, d14, d15, d16, d17, d18, d19, d20, d21, d22, d23, d24, d25⟩ := G.open24
        go_upto_region 14 with fail
        go_cut [8] from 94 to 123 (fun s8 wx => s8 = .bool (Oz.o0 Z) ∧ ZIn wx Z Y ∧ Blk wx w.heap.size 27 #[.slice Y.ds Z.nd Y.dsc, .slice Y.lv Z.nl Y.lvc, .slice Y.sp Z.ns Y.spc, .slice Y.tl Z.nt Y.tlc, .slice Y.ms Z.nm Y.msc, .string Z.P.nm, .int .i64 Z.P.em, .int .i64 Z.P.fu, .slice Y.Q.al Z.P.na Y.Q.alc, .slice Y.Q.ma Z.P.nM Y.Q.mac, .slice Y.Q.tC Z.P.nC Y.Q.tCc, .slice Y.Q.tF Z.P.nF Y.Q.tFc, .slice Y.Q.tR Z.P.nR Y.Q.tRc, .slice Y.Q.dD Z.P.nD Y.Q.dDc, .slice Y.Q.dI Z.P.nI Y.Q.dIc, .slice Y.Q.dX Z.P.nX Y.Q.dXc, .slice Y.Q.dN Z.P.nN Y.Q.dNc, .int .i64 Z.P.rf, .int .i64 Z.P.xt, .int .i64 Z.P.ce, .int .i64 Z.ix, .int .i64 Z.cc, .int .i64 Z.fi, .int .i64 Z.la] ∧ Below w.heap.size w wx)
        case first =>
          go_wp2_with fail
          refine (oall_c _ _ _ _ _ _ _ H.ds).mono ?_
          cases q : Oz.alB Z.nd Z.ds 0 8000000
          · have HE := Lib.hid (show Oz.o0 Z = false from by unfold Oz.o0; rw [q]; try rfl)
            clear q
            rintro e w_ ⟨rfl, rfl⟩
            go_wp2_with fail
            go_meet
            exact ⟨by first | rfl | (rw [HE.out]; rfl) | rw [HE.out], H, G, hB⟩
          have R0 := Lib.hid q
          clear q
          rintro e w_ ⟨rfl, rfl⟩
          go_wp2_with fail
          refine (oall_c _ _ _ _ _ _ _ H.lv).mono ?_
          cases q : Oz.alB Z.nl Z.lv (-200000) 6000000
          · have HE := Lib.hid (show Oz.o0 Z = false from by unfold Oz.o0; rw [q, Bool.and_false]; try rfl)
            clear q
            rintro e w_ ⟨rfl, rfl⟩
            go_wp2_with fail
            go_meet
            exact ⟨by first | rfl | (rw [HE.out]; rfl) | rw [HE.out], H, G, hB⟩
          have R1 := Lib.hid q
          clear q
          rintro e w_ ⟨rfl, rfl⟩
          go_wp2_with fail
          refine (oall_c _ _ _ _ _ _ _ H.sp).mono ?_
          cases q : Oz.alB Z.ns Z.sp 1 1000
          · have HE := Lib.hid (show Oz.o0 Z = false from by unfold Oz.o0; rw [q, Bool.and_false]; try rfl)
            clear q
            rintro e w_ ⟨rfl, rfl⟩
            go_wp2_with fail
            go_meet
            exact ⟨by first | rfl | (rw [HE.out]; rfl) | rw [HE.out], H, G, hB⟩
          have R2 := Lib.hid q
          clear q
          rintro e w_ ⟨rfl, rfl⟩
          go_wp2_with fail
          refine (oall_c _ _ _ _ _ _ _ H.ms).mono ?_
          cases q : Oz.alB Z.nm Z.ms 1 3000000000
          · have HE := Lib.hid (show Oz.o0 Z = false from by unfold Oz.o0; rw [q, Bool.and_false]; try rfl)
            clear q
            rintro e w_ ⟨rfl, rfl⟩
            go_wp2_with fail
            go_meet
            exact ⟨by first | rfl | (rw [HE.out]; rfl) | rw [HE.out], H, G, hB⟩
          have R3 := Lib.hid q
          clear q
          rintro e w_ ⟨rfl, rfl⟩
          go_wp2_with fail
          refine (oall_c _ _ _ (fun _ => Z.ix) _ _ _ (rd_lit1 _ _ _ (by first | rfl | simp))).mono ?_
          cases q : Oz.alB 1 (fun _ => Z.ix) 0 1000
          · have HE := Lib.hid (show Oz.o0 Z = false from by unfold Oz.o0; rw [q, Bool.and_false]; try rfl)
            clear q
            rintro e w_ ⟨rfl, rfl⟩
            replace H := H.keep (ba _ (.cells #[.int .i64 Z.ix] 2))
            replace G := G.alloc (.cells #[.int .i64 Z.ix] 2)
            replace hB := bal hB (.cells #[.int .i64 Z.ix] 2)
            clear d0 d1 d2 d3 d4 d5 d6 d7 d8 d9 d10 d11 d12 d13 d14 d15 d16 d17 d18 d19 d20 d21 d22 d23 d24 d25
            obtain ⟨d0, d1, d2, d3, d4, d5, d6, d7, d8, d9, d10, d11, d12, d13, d14, d15, d16, d17, d18, d19, d20, d21, d22, d23, d24, d25⟩ := G.open24
            go_wp2_with fail
            go_meet
            exact ⟨by first | rfl | (rw [HE.out]; rfl) | rw [HE.out], H, G, hB⟩
          have R4 := Lib.hid q
          clear q
          rintro e w_ ⟨rfl, rfl⟩
          replace H := H.keep (ba _ (.cells #[.int .i64 Z.ix] 2))
          replace G := G.alloc (.cells #[.int .i64 Z.ix] 2)
          replace hB := bal hB (.cells #[.int .i64 Z.ix] 2)
          clear d0 d1 d2 d3 d4 d5 d6 d7 d8 d9 d10 d11 d12 d13 d14 d15 d16 d17 d18 d19 d20 d21 d22 d23 d24 d25
          obtain ⟨d0, d1, d2, d3, d4, d5, d6, d7, d8, d9, d10, d11, d12, d13, d14, d15, d16, d17, d18, d19, d20, d21, d22, d23, d24, d25⟩ := G.open24
          go_wp2_with fail
          refine (oall_c _ _ _ (fun _ => Z.cc) _ _ _ (rd_lit1 _ _ _ (by first | rfl | simp))).mono ?_
          cases q : Oz.alB 1 (fun _ => Z.cc) 0 1073741824
          · have HE := Lib.hid (show Oz.o0 Z = false from by unfold Oz.o0; rw [q, Bool.and_false]; try rfl)
            clear q
            rintro e w_ ⟨rfl, rfl⟩
            replace H := H.keep (ba _ (.cells #[.int .i64 Z.cc] 2))
            replace G := G.alloc (.cells #[.int .i64 Z.cc] 2)
            replace hB := bal hB (.cells #[.int .i64 Z.cc] 2)
            clear d0 d1 d2 d3 d4 d5 d6 d7 d8 d9 d10 d11 d12 d13 d14 d15 d16 d17 d18 d19 d20 d21 d22 d23 d24 d25
            obtain ⟨d0, d1, d2, d3, d4, d5, d6, d7, d8, d9, d10, d11, d12, d13, d14, d15, d16, d17, d18, d19, d20, d21, d22, d23, d24, d25⟩ := G.open24
            go_wp2_with fail
            go_meet
            exact ⟨by first | rfl | (rw [HE.out]; rfl) | rw [HE.out], H, G, hB⟩
          have R5 := Lib.hid q
          clear q
          have HE := Lib.hid (show Oz.o0 Z = true from by unfold Oz.o0; rw [R0.out, R1.out, R2.out, R3.out, R4.out, R5.out]; try rfl)
          rintro e w_ ⟨rfl, rfl⟩
          replace H := H.keep (ba _ (.cells #[.int .i64 Z.cc] 2))
          replace G := G.alloc (.cells #[.int .i64 Z.cc] 2)
          replace hB := bal hB (.cells #[.int .i64 Z.cc] 2)
          clear d0 d1 d2 d3 d4 d5 d6 d7 d8 d9 d10 d11 d12 d13 d14 d15 d16 d17 d18 d19 d20 d21 d22 d23 d24 d25
          obtain ⟨d0, d1, d2, d3, d4, d5, d6, d7, d8, d9, d10, d11, d12, d13, d14, d15, d16, d17, d18, d19, d20, d21, d22, d23, d24, d25⟩ := G.open24
          go_wp2_with fail
          go_meet
          exact ⟨by first | rfl | (rw [HE.out]; rfl) | rw [HE.out], H, G, hB⟩
        case rest =>
          clear H G hB
          clear d0 d1 d2 d3 d4 d5 d6 d7 d8 d9 d10 d11 d12 d13 d14 d15 d16 d17 d18 d19 d20 d21 d22 d23 d24 d25
          rename World => W0
          obtain ⟨rfl, H, G, hB⟩ := hcut
          obtain ⟨d0, d1, d2, d3, d4, d5, d6, d7, d8, d9, d10, d11, d12, d13, d14, d15, d16, d17, d18, d19, d20, d21, d22, d23, d24, d25⟩ := G.open24
          go_wp2_with fail
          go_loopw [8, 127] (fun s i wr => ∃ k : Nat, k ≤ Z.nt ∧ s = .bool (Oz.o0 Z && Oz.pre (fun i => Oz.alB (Z.lt i) (Z.tl i) (-400) 400) k) ∧ i = .int .i64 k ∧ W0 = wr) (fun _ i _ => Z.nt - (intOf i).toNat)
          case atStart => exact ⟨0, Nat.zero_le _, by rw [show Oz.pre (fun i => Oz.alB (Z.lt i) (Z.tl i) (-400) 400) 0 = true from rfl, Bool.and_true], rfl, rfl⟩
          case round =>
            obtain ⟨k, hk, rfl, rfl, rfl⟩ := hrel
            by_cases hlt : k < Z.nt
            · obtain ⟨b_, off_, X, cp, eA, hbl, ra0, RX⟩ := H.tl.at1 hlt
              have HA := Lib.hid eA
              rw [eA] at d3
              rw [HA.out]
              clear eA
              cases hv : (Oz.o0 Z && Oz.pre (fun i => Oz.alB (Z.lt i) (Z.tl i) (-400) 400) k)
              · have HE := Lib.hid (show (Oz.o0 Z && Oz.pre (fun i => Oz.alB (Z.lt i) (Z.tl i) (-400) 400) (k + 1)) = false from by rw [Oz.pre, ← Bool.and_assoc, hv]; rfl)
                clear hv
                go_wp2_with fail
                try rw [← HA.out]
                go_roundw
                case rel => exact ⟨k + 1, by omega, by rw [HE.out], by go_num, by first | trivial | rfl⟩
                case measure => simp [intOf]; omega
              · have HV := Lib.hid (show (Oz.o0 Z && Oz.pre (fun i => Oz.alB (Z.lt i) (Z.tl i) (-400) 400) (k + 1)) = (fun i => Oz.alB (Z.lt i) (Z.tl i) (-400) 400) k from by rw [Oz.pre, ← Bool.and_assoc, hv]; rfl)
                clear hv
                go_wp2_with fail
                refine (oall_c _ _ _ _ _ _ _ RX).mono ?_
                cases q : Oz.alB (Z.lt k) (Z.tl k) (-400) 400
                all_goals
                  have HE := Lib.hid (HV.out.trans q)
                  clear q
                  rintro e w_ ⟨rfl, rfl⟩
                  go_wp2_with fail
                  try rw [← HA.out]
                  go_roundw
                  case rel => exact ⟨k + 1, by omega, by rw [HE.out], by go_num, by first | trivial | rfl⟩
                  case measure => simp [intOf]; omega
            · have ek : k = Z.nt := by omega
              have hk2 : ¬ (k : Int) < (Z.nt : Int) := by omega
              rw [ek]
              clear hlt
              cases q : (Oz.o0 Z && Oz.pre (fun i => Oz.alB (Z.lt i) (Z.tl i) (-400) 400) Z.nt)
              · have HE := Lib.hid (K.out.trans (Oz.fste_f q))
                clear q
                go_wp2_with fail
                go_returns
                refine ⟨?_, hB⟩
                rw [HE.out]; rfl
              replace K := Lib.hid (K.out.trans (Oz.fste_t q))
              clear q
              clear d3
              obtain ⟨_, _, _, d3, _⟩ := G.open24
              go_wp2_with fail
              refine (pcheck_c Z.P Y.Q _ H.P).mono ?_
              rintro e w9 ⟨rfl, h9⟩
              have HE := Lib.hid (K.out.trans (show Oz.fste [] (Oz.pck Z.P) = Oz.pck Z.P from rfl))
              replace hB := bt hB h9
              go_wp2_with fail
              go_returns
              refine ⟨?_, hB⟩
              rw [HE.out]; rfl
end Go.Proofs.Ytoeklllahpegfaa
/-
  Contracts: bits.Div64.
-/
namespace Go.Proofs.Ytoeklllahpegfaa
set_option linter.unusedVariables false
set_option linter.unusedSimpArgs false
open Go.RowKit

/-- The two words of a shifted number. -/
theorem shift_words {hi lo y : Int} {s : Nat} (hs : s ≤ 63) (h1 : 0 ≤ hi) (h2 : hi < y) (h3 : 0 ≤ lo) (h4 : lo ≤ 18446744073709551615) (hy : y * 2 ^ s ≤ 18446744073709551615) :
    ∃ U L : Int, 0 ≤ U ∧ U < y * 2 ^ s ∧ 0 ≤ L ∧ L ≤ 18446744073709551615 ∧ U * 18446744073709551616 + L = (hi * 18446744073709551616 + lo) * 2 ^ s ∧
      bits .or .u64 (IntKind.u64.wrap (hi * 2 ^ s)) (lo / 2 ^ (64 - s)) = U ∧ IntKind.u64.wrap (lo * 2 ^ s) = L := by
  have hp : (0 : Int) < 2 ^ s := Int.pow_pos (by decide)
  have hp2 : (0 : Int) < 2 ^ (64 - s) := Int.pow_pos (by decide)
  have e : (2 : Int) ^ s * 2 ^ (64 - s) = 18446744073709551616 := by rw [← Int.pow_add, show s + (64 - s) = 64 by omega]; rfl
  have k1 : (hi + 1) * 2 ^ s ≤ y * 2 ^ s := Int.mul_le_mul_of_nonneg_right (by omega) (by omega)
  rw [Int.add_mul, Int.one_mul] at k1
  have k2 : 0 ≤ hi * 2 ^ s := Int.mul_nonneg h1 (by omega)
  have k3 : lo / 2 ^ (64 - s) < 2 ^ s := Int.ediv_lt_of_lt_mul hp2 (by rw [e]; omega)
  have k4 : 0 ≤ lo / 2 ^ (64 - s) := Int.ediv_nonneg h3 (by omega)
  have o := or_parts (a := hi) (b := lo / 2 ^ (64 - s)) s h1 k4 k3 (by omega) (by omega)
  have m := Int.mul_ediv_add_emod lo (2 ^ (64 - s))
  have m0 := Int.emod_nonneg lo (show (2 : Int) ^ (64 - s) ≠ 0 by omega)
  have m1 := Int.emod_lt_of_pos lo hp2
  have k5 : lo * 2 ^ s = lo / 2 ^ (64 - s) * 18446744073709551616 + lo % 2 ^ (64 - s) * 2 ^ s := by
    have : lo * 2 ^ s = (2 ^ (64 - s) * (lo / 2 ^ (64 - s)) + lo % 2 ^ (64 - s)) * 2 ^ s := by rw [m]
    rw [this, Int.add_mul, Int.mul_comm (2 ^ (64 - s)), Int.mul_assoc, Int.mul_comm (2 ^ (64 - s)), e]
  have k6 : lo % 2 ^ (64 - s) * 2 ^ s ≤ (2 ^ (64 - s) - 1) * 2 ^ s := Int.mul_le_mul_of_nonneg_right (by omega) (by omega)
  rw [Int.sub_mul, Int.one_mul, Int.mul_comm (2 ^ (64 - s)), e] at k6
  have k7 : 0 ≤ lo % 2 ^ (64 - s) * 2 ^ s := Int.mul_nonneg m0 (by omega)
  refine ⟨hi * 2 ^ s + lo / 2 ^ (64 - s), lo % 2 ^ (64 - s) * 2 ^ s, by omega, by omega, k7, by omega, ?_, ?_, ?_⟩
  · rw [Int.add_mul, Int.add_mul, k5, Int.mul_assoc hi, Int.mul_assoc hi, Int.mul_comm (2 ^ s)]; omega
  · rw [IntWalk.u64_in _ (by omega), o]
  · rw [IntKind.wrap_u64, k5]; omega
theorem mulw_ex (x y : Int) : ∃ p : Int, 0 ≤ p ∧ p ≤ 18446744073709551615 ∧ Hid (p = x * y % 18446744073709551616) ∧ IntKind.u64.wrap (x * y) = p :=
  ⟨_, by omega, by omega, Lib.hid rfl, by rw [IntKind.wrap_u64]⟩
theorem sub_words (U u d y : Int) (h0 : 0 ≤ U * 4294967296 + u - d * y) (h1 : U * 4294967296 + u - d * y ≤ 18446744073709551615) :
    ∃ A1 A2 A3 V : Int, IntKind.u64.wrap (U * 4294967296) = A1 ∧ IntKind.u64.wrap (A1 + u) = A2 ∧ IntKind.u64.wrap (d * y) = A3 ∧ IntKind.u64.wrap (A2 - A3) = V ∧ Hid (V = U * 4294967296 + u - d * y) ∧ 0 ≤ V ∧ V ≤ 18446744073709551615 := by
  refine ⟨_, _, _, _, rfl, rfl, rfl, rfl, Lib.hid ?_, ?_, ?_⟩ <;> simp only [IntKind.wrap_u64] <;> generalize d * y = P at * <;> omega
theorem rem_words (X y : Int) (hy : 0 < y) : 0 ≤ X - X / y * y ∧ X - X / y * y < y := by
  have := Int.mul_ediv_add_emod X y
  have m0 := Int.emod_nonneg X (show y ≠ 0 by omega)
  have m1 := Int.emod_lt_of_pos X hy
  rw [Int.mul_comm] at this
  omega
set_option maxRecDepth 100000 in
set_option maxHeartbeats 2000000 in
theorem div64_c (hi lo y : Int) (w : World) (h1 : 0 ≤ hi) (h2 : hi < y) (h3 : 0 ≤ lo) (h4 : lo ≤ 18446744073709551615) (h5 : y ≤ 18446744073709551615) : Calls Try.prog 96 #[.int .u64 hi, .int .u64 lo, .int .u64 y] w fun e w' =>
    e = .returned (.tuple #[.int .u64 ((hi * 18446744073709551616 + lo) / y), .int .u64 ((hi * 18446744073709551616 + lo) % y)]) ∧ ∃ n, w' = w.drewN n := by
  have hy0 : (y == 0) = false := by simp; omega
  by_cases hh : hi = 0
  · subst hh
    go_enter Try.func96, Try.ntmps96
    go_wp2_with fail
    go_quiet (fail)
    go_wp2_with fail
    go_returns
    exact ⟨ret_u2 ⟨by rw [Int.zero_mul, Int.zero_add], by rw [Int.zero_mul, Int.zero_add]⟩, _, rfl⟩
  · have hb : (hi == 0) = false := by simpa using hh
    obtain ⟨s, hs, n1, n2, lz⟩ := lz_ex y (by omega) h5
    have hhi : 1 ≤ hi := by omega
    clear hh
    obtain ⟨yn, eyn, hyn⟩ : ∃ yn : Int, IntKind.u64.wrap (y * 2 ^ s) = yn ∧ Hid (yn = y * 2 ^ s) := ⟨_, rfl, Lib.hid (IntWalk.u64_in _ (by omega))⟩
    obtain ⟨b1, b2⟩ : 9223372036854775808 ≤ yn ∧ yn ≤ 18446744073709551615 := by have := hyn.out; omega
    obtain ⟨a, c, a1, a2, c1, c2, ea, ec, hyac⟩ := halves yn (by omega) b2
    have a0 : 2147483648 ≤ a := by have := hyac.out; omega
    have ec2 : bits .and .u64 yn 4294967295 = c := (and_half (by omega) b2).trans ec
    have N := Lib.hid (And.intro n1 n2)
    clear n1 n2
    go_enter Try.func96, Try.ntmps96
    go_wp2_with fail
    refine (lz _).mono ?_
    rintro e w1 ⟨rfl, rfl⟩
    obtain ⟨U, L, w1, w2, w3, w4, w5, eU, eL⟩ := shift_words hs h1 h2 h3 h4 N.out.2
    rw [← hyn.out] at w2
    have W5 := Lib.hid w5
    clear w5
    obtain ⟨u1, u0, v1, v2, v3, v4, eu1, eu0, hu⟩ := halves L w3 w4
    have eu2 : bits .and .u64 L 4294967295 = u0 := (and_half w3 w4).trans eu0
    have hyac2 := hyac.out
    obtain ⟨E0, r1⟩ := Wi.est_first (a := a) (c := c) (U := U) (u := u1) a0 a2 c1 c2 v1 v2 w1 (by omega)
    have e0 := E0.hr
    have e1 := E0.r0
    have e2 := E0.q0
    have e3 := E0.q2
    clear hyac2
    obtain ⟨qa, eqa, hqa⟩ : ∃ qa : Int, IntKind.u64.wrap (U / a * a) = qa ∧ Hid (qa = U / a * a) := ⟨_, rfl, Lib.hid (IntWalk.u64_in _ (by have : 0 ≤ U / a * a := Int.mul_nonneg e2 (by omega); omega))⟩
    have er : U - qa = U % a := by have := hqa.out; omega
    have w2' : U ≤ 18446744073709551615 := by omega
    clear e0
    have hyy := hyac.out
    have yp : 0 < yn := by omega
    obtain ⟨d1, d1E⟩ : ∃ d1 : Int, Hid (d1 = (U * 4294967296 + u1) / (a * 4294967296 + c)) := ⟨_, Lib.hid rfl⟩
    have d1b := Wi.est_d E0
    rw [← d1E.out] at d1b
    obtain ⟨d1l, d1u⟩ := d1b
    have rw1 := rem_words (U * 4294967296 + u1) yn yp
    have d1F : d1 = (U * 4294967296 + u1) / yn := by rw [hyy]; exact d1E.out
    rw [← d1F] at rw1
    obtain ⟨A1, A2, A3, V, eA1, eA2, eA3, eV, hV, V0, V1⟩ := sub_words U u1 d1 yn rw1.1 (by omega)
    have hVy : V < a * 4294967296 + c := by have := hV.out; omega
    obtain ⟨E1, r2⟩ := Wi.est_first (a := a) (c := c) (U := V) (u := u0) a0 a2 c1 c2 v3 v4 V0 hVy
    have g0 := E1.hr
    have g1 := E1.r0
    have g2 := E1.q0
    have g3 := E1.q2
    obtain ⟨qb, eqb, hqb⟩ : ∃ qb : Int, IntKind.u64.wrap (V / a * a) = qb ∧ Hid (qb = V / a * a) := ⟨_, rfl, Lib.hid (IntWalk.u64_in _ (by have : 0 ≤ V / a * a := Int.mul_nonneg g2 (by omega); omega))⟩
    have er2 : V - qb = V % a := by have := hqb.out; omega
    obtain ⟨d0, d0E⟩ : ∃ d0 : Int, Hid (d0 = (V * 4294967296 + u0) / (a * 4294967296 + c)) := ⟨_, Lib.hid rfl⟩
    have d0b := Wi.est_d E1
    rw [← d0E.out] at d0b
    obtain ⟨d0l, d0u⟩ := d0b
    have rw2 := rem_words (V * 4294967296 + u0) yn yp
    have d0F : d0 = (V * 4294967296 + u0) / yn := by rw [hyy]; exact d0E.out
    rw [← d0F] at rw2
    obtain ⟨B1, B2, B3, Z, eB1, eB2, eB3, eZ, hZ, Z0, Z1⟩ := sub_words V u0 d0 yn rw2.1 (by omega)
    have S1 : (1 : Int) ≤ 2 ^ s := Int.pow_pos (by decide)
    have K := Lib.hid (Wi.knuth (hi := hi) (lo := lo) (y0 := y) (S := 2 ^ s) (y := yn) S1 (by omega) hyn.out (by rw [← W5.out, hu.out]; omega) d1F hV.out d0F)
    clear g0 hyy rw1 rw2 d1F d0F hVy S1
    go_upto_block 0 with fail
    go_cut [15, 16] (fun vq vr wx => vq = .int .u64 d1 ∧ w = wx)
    case first =>
      go_wp2_with fail
      go_loop [15, 16] (fun vq vr => ∃ q r : Int, vq = .int .u64 q ∧ vr = .int .u64 r ∧ Wi.Est a c U u1 q r ∧ r < 4294967296) (fun vq _ => (intOf vq).toNat)
      case atStart => exact ⟨_, _, rfl, rfl, E0, r1⟩
      case round =>
        obtain ⟨q, r, rfl, rfl, EE, hr⟩ := hrel
        have f0 := EE.q0
        have f1 := EE.q2
        have f2 := EE.r0
        by_cases tq : 4294967296 ≤ q
        · obtain ⟨EN, hq1⟩ := Wi.est_next EE (Or.inl tq)
          by_cases tb : 4294967296 ≤ r + a
          · have hD := Lib.hid ((Wi.est_break EN tb (by omega)).trans (d1E.out).symm)
            go_wp2_with fail
            go_meet
            exact ⟨by rw [hD.out], rfl⟩
          · go_wp2_with fail
            go_round
            case rel => exact ⟨_, _, rfl, rfl, EN, by omega⟩
            case measure => first | (simp [intOf]; done) | (simp [intOf]; omega)
        · obtain ⟨P, p1, p2, hP, eP⟩ := half_ex q c f0 (by omega) c1 c2
          by_cases tp : 4294967296 * r + u1 < P
          · obtain ⟨EN, hq1⟩ := Wi.est_next EE (Or.inr (by rw [hP.out]; omega))
            by_cases tb : 4294967296 ≤ r + a
            · have hD := Lib.hid ((Wi.est_break EN tb (by omega)).trans (d1E.out).symm)
              go_wp2_with fail
              go_meet
              exact ⟨by rw [hD.out], rfl⟩
            · go_wp2_with fail
              go_round
              case rel => exact ⟨_, _, rfl, rfl, EN, by omega⟩
              case measure => first | (simp [intOf]; done) | (simp [intOf]; omega)
          · have hD := Lib.hid ((Wi.est_done EE (by rw [hP.out]; omega)).trans (d1E.out).symm)
            go_wp2_with fail
            go_meet
            exact ⟨by rw [hD.out], rfl⟩
    obtain ⟨rfl, rfl⟩ := hcut
    have hnz : (a == 0) = false := by simp; omega
    go_upto_block 2 with fail
    go_cut [18, 16] (fun vq vr wx => vq = .int .u64 d0 ∧ w = wx)
    case first =>
      go_wp2_with fail
      go_loop [18, 16] (fun vq vr => ∃ q r : Int, vq = .int .u64 q ∧ vr = .int .u64 r ∧ Wi.Est a c V u0 q r ∧ r < 4294967296) (fun vq _ => (intOf vq).toNat)
      case atStart => exact ⟨_, _, rfl, rfl, E1, r2⟩
      case round =>
        obtain ⟨q, r, rfl, rfl, EE, hr⟩ := hrel
        have f0 := EE.q0
        have f1 := EE.q2
        have f2 := EE.r0
        by_cases tq : 4294967296 ≤ q
        · obtain ⟨EN, hq1⟩ := Wi.est_next EE (Or.inl tq)
          by_cases tb : 4294967296 ≤ r + a
          · have hD := Lib.hid ((Wi.est_break EN tb (by omega)).trans (d0E.out).symm)
            go_wp2_with fail
            go_meet
            exact ⟨by rw [hD.out], rfl⟩
          · go_wp2_with fail
            go_round
            case rel => exact ⟨_, _, rfl, rfl, EN, by omega⟩
            case measure => first | (simp [intOf]; done) | (simp [intOf]; omega)
        · obtain ⟨P, p1, p2, hP, eP⟩ := half_ex q c f0 (by omega) c1 c2
          by_cases tp : 4294967296 * r + u0 < P
          · obtain ⟨EN, hq1⟩ := Wi.est_next EE (Or.inr (by rw [hP.out]; omega))
            by_cases tb : 4294967296 ≤ r + a
            · have hD := Lib.hid ((Wi.est_break EN tb (by omega)).trans (d0E.out).symm)
              go_wp2_with fail
              go_meet
              exact ⟨by rw [hD.out], rfl⟩
            · go_wp2_with fail
              go_round
              case rel => exact ⟨_, _, rfl, rfl, EN, by omega⟩
              case measure => first | (simp [intOf]; done) | (simp [intOf]; omega)
          · have hD := Lib.hid ((Wi.est_done EE (by rw [hP.out]; omega)).trans (d0E.out).symm)
            go_wp2_with fail
            go_meet
            exact ⟨by rw [hD.out], rfl⟩
    obtain ⟨rfl, rfl⟩ := hcut
    go_wp2_with fail
    go_returns
    have z := hZ.out
    have k2 := K.out.2
    rw [← z] at k2
    exact ⟨ret_u2 ⟨K.out.1, k2⟩, 0, rfl⟩
end Go.Proofs.Ytoeklllahpegfaa
/-
  Contracts: fixed's 'size', 'signed', 'scale' rounded down, and 'MulDiv'.
-/
namespace Go.Proofs.Ytoeklllahpegfaa
set_option linter.unusedVariables false
set_option linter.unusedSimpArgs false
open Go.RowKit

set_option maxHeartbeats 1000000 in
theorem fsize_c (a : Int) (w : World) (h1 : -9223372036854775808 ≤ a) (h2 : a ≤ 9223372036854775807) : Calls Try.prog 94 #[.int .i64 a] w fun e w' =>
    e = .returned (.int .u64 (Wi.ab a)) ∧ w = w' := by
  by_cases h : a < 0
  · obtain ⟨u, n, u1, u2, hu, eu⟩ := u_ex a h1 h2
    have e2 : IntKind.u64.wrap (-u) = -a := by have := hu.out; rw [IntKind.wrap_u64]; omega
    have e := Lib.hid (Wi.ab_neg h)
    go_enter Try.func94, Try.ntmps94
    go_wp2
    go_returns
    exact ⟨ret_int e.out.symm, rfl⟩
  · have e := Lib.hid (@Wi.ab_pos a (by omega))
    go_enter Try.func94, Try.ntmps94
    go_wp2
    go_returns
    exact ⟨ret_int e.out.symm, rfl⟩
theorem ie_yes {v : Int} (h : -9223372036854775808 ≤ v) (h2 : v ≤ 9223372036854775807) : v = Wi.iv v ∧ 0 = Wi.er v := by
  unfold Wi.iv Wi.er Wi.ib
  rw [if_pos ⟨by omega, by omega⟩, decide_eq_true ⟨by omega, by omega⟩]
  exact ⟨rfl, rfl⟩
theorem ie_no {v : Int} (h : v < -9223372036854775808 ∨ 9223372036854775807 < v) : 0 = Wi.iv v ∧ 2 = Wi.er v := by
  have n : ¬ Wi.in64 v := fun q => by unfold Wi.in64 at q; omega
  unfold Wi.iv Wi.er
  rw [if_neg n, Wi.ib_no n]
  exact ⟨rfl, rfl⟩
set_option maxHeartbeats 1000000 in
theorem fsigned_c (n : Int) (g : Bool) (w : World) (h1 : 0 ≤ n) (h2 : n ≤ 18446744073709551615) : Calls Try.prog 97 #[.int .u64 n, .bool g] w fun e w' =>
    e = .returned (.tuple #[.int .i64 (Wi.iv (Wi.sg n g)), .int .i64 (Wi.er (Wi.sg n g))]) ∧ w = w' := by
  cases g
  · rw [Wi.sg_f]
    by_cases h : n < 9223372036854775808
    · have e1 := IntWalk.i64_in n ⟨by omega, by omega⟩
      have E := Lib.hid (ie_yes (v := n) (by omega) (by omega))
      go_enter Try.func97, Try.ntmps97
      go_wp2
      go_returns
      exact ⟨ret_ints E.out.1 E.out.2, rfl⟩
    · have E := Lib.hid (ie_no (v := n) (by omega))
      go_enter Try.func97, Try.ntmps97
      go_wp2
      go_returns
      exact ⟨ret_ints E.out.1 E.out.2, rfl⟩
  · rw [Wi.sg_t]
    by_cases h : n ≤ 9223372036854775808
    · obtain ⟨u, e1, e2⟩ : ∃ u, IntKind.u64.wrap (-n) = u ∧ IntKind.i64.wrap u = -n := ⟨_, rfl, by rw [IntKind.wrap_i64, IntKind.wrap_u64]; omega⟩
      have E := Lib.hid (ie_yes (v := -n) (by omega) (by omega))
      go_enter Try.func97, Try.ntmps97
      go_wp2
      go_returns
      exact ⟨ret_ints E.out.1 E.out.2, rfl⟩
    · have E := Lib.hid (ie_no (v := -n) (by omega))
      go_enter Try.func97, Try.ntmps97
      go_wp2
      go_returns
      exact ⟨ret_ints E.out.1 E.out.2, rfl⟩
/-- What the sizes' quotient says of the number. -/
theorem down_facts {a b c : Int} (a1 : -9223372036854775808 ≤ a) (a2 : a ≤ 9223372036854775807) (b1 : -9223372036854775808 ≤ b) (b2 : b ≤ 9223372036854775807) (c1 : -9223372036854775808 ≤ c) (c2 : c ≤ 9223372036854775807) (hc : c ≠ 0) :
    0 ≤ Wi.ab c ∧ Wi.ab c ≤ 18446744073709551615 ∧ 0 < Wi.ab c ∧ 0 ≤ Wi.ab a * Wi.ab b ∧ 0 ≤ Wi.Hq (Wi.ab a * Wi.ab b) ∧ 0 ≤ Wi.ab a * Wi.ab b / Wi.ab c ∧ 0 ≤ Wi.ab a * Wi.ab b % Wi.ab c ∧
    (Wi.ab c ≤ Wi.Hq (Wi.ab a * Wi.ab b) → 18446744073709551616 ≤ Wi.ab a * Wi.ab b / Wi.ab c) ∧ (¬ Wi.ab c ≤ Wi.Hq (Wi.ab a * Wi.ab b) → Wi.ab a * Wi.ab b / Wi.ab c ≤ 18446744073709551615) := by
  have p := ab_i a1 a2
  have q := ab_i b1 b2
  have r := ab_i c1 c2
  have s := Wi.ab_pos' hc
  have t := Int.mul_nonneg p.1 q.1
  generalize Wi.ab a * Wi.ab b = A at *
  generalize Wi.ab c = d at *
  refine ⟨r.1, by omega, s, t, by unfold Wi.Hq; omega, Int.ediv_nonneg t r.1, Int.emod_nonneg _ (by omega), fun h => ?_, fun h => ?_⟩
  · refine (Int.le_ediv_iff_mul_le s).mpr ?_
    unfold Wi.Hq at h; omega
  · have : A / d < 18446744073709551616 := by
      refine (Int.ediv_lt_iff_lt_mul s).mpr ?_
      unfold Wi.Hq at h; omega
    omega
theorem sgi (s : Int) : Wi.sg s false = s ∧ Wi.sg s true = -s := ⟨rfl, rfl⟩
set_option maxRecDepth 100000 in
set_option maxHeartbeats 4000000 in
theorem scale0_c (a b c : Int) (w : World) (a1 : -9223372036854775808 ≤ a) (a2 : a ≤ 9223372036854775807) (b1 : -9223372036854775808 ≤ b) (b2 : b ≤ 9223372036854775807) (c1 : -9223372036854775808 ≤ c) (c2 : c ≤ 9223372036854775807) : Calls Try.prog 92 #[.int .i64 a, .int .i64 b, .int .i64 c, .int .u8 0] w fun e w' =>
    e = .returned (.tuple #[.int .i64 (if c = 0 then 0 else Wi.iv (Wi.dv (a * b) c (-1))), .int .i64 (if c = 0 then 1 else Wi.er (Wi.dv (a * b) c (-1)))]) ∧ Below w.heap.size w w' := by
  by_cases hc : c = 0
  · subst hc
    go_enter Try.func92, Try.ntmps92
    go_wp2
    go_returns
    exact ⟨rfl, Below.refl _ _⟩
  rw [if_neg hc, if_neg hc]
  obtain ⟨d1, d2, d3, A0, Q0, q0, r0, F1, F2⟩ := down_facts a1 a2 b1 b2 c1 c2 hc
  have pa := ab_i a1 a2
  have pb := ab_i b1 b2
  have hcb : (c == 0) = false := by simpa using hc
  have hp := Wi.dv_parts a b c
  have hlr := Wi.Lr_bd (Wi.ab a * Wi.ab b)
  have hHL := Wi.HL (Wi.ab a * Wi.ab b)
  clear hc
  by_cases ha : a < 0 <;> by_cases hb : b < 0 <;> by_cases hc : c < 0
  · have hg : Wi.scn a b c = true := by unfold Wi.scn; simp [ha, hb, hc]
    rw [hg] at hp
    clear hg
    by_cases hge : Wi.ab c ≤ Wi.Hq (Wi.ab a * Wi.ab b)
    · have E := Lib.hid (ie_no (v := Wi.dv (a * b) c (-1)) (by have := F1 hge; rw [hp]; (first | rw [Wi.sg_t] | rw [Wi.sg_f]); split <;> omega))
      clear hp hHL F1 F2
      go_enter Try.func92, Try.ntmps92
      go_wp2_with fail
      refine (fsize_c _ _ c1 c2).mono ?_
      rintro e w1 ⟨rfl, rfl⟩
      go_wp2_with fail
      refine (fsize_c _ _ a1 a2).mono ?_
      rintro e w1 ⟨rfl, rfl⟩
      go_wp2_with fail
      refine (fsize_c _ _ b1 b2).mono ?_
      rintro e w1 ⟨rfl, rfl⟩
      go_wp2_with fail
      refine (mul64_c _ _ _ pa.1 (by omega) pb.1 (by omega)).mono ?_
      rintro e w1 ⟨rfl, rfl⟩
      go_wp2
      go_returns
      exact ⟨ret_ints E.out.1 E.out.2, Below.refl _ _⟩
    · have F3 := F2 hge
      have HH := Lib.hid hHL
      clear hHL F1 F2
      by_cases hr : 0 < Wi.ab a * Wi.ab b % Wi.ab c
      · have hz : Wi.zb (Wi.ab a * Wi.ab b % Wi.ab c) = false := decide_eq_false (by omega)
        rw [hz] at hp
        clear hz
        simp only [Bool.not_true, Bool.not_false, Bool.and_false, Bool.and_true, Bool.false_eq_true, if_false, if_true, Int.add_zero] at hp
        by_cases hm : Wi.ab a * Wi.ab b / Wi.ab c = 18446744073709551615
        · have E := Lib.hid (ie_no (v := Wi.dv (a * b) c (-1)) (by rw [hp, (sgi _).2]; omega))
          have hqm : (Wi.ab a * Wi.ab b / Wi.ab c == 18446744073709551615) = true := by simpa using hm
          clear hp hm
          go_enter Try.func92, Try.ntmps92
          go_wp2_with fail
          refine (fsize_c _ _ c1 c2).mono ?_
          rintro e w1 ⟨rfl, rfl⟩
          go_wp2_with fail
          refine (fsize_c _ _ a1 a2).mono ?_
          rintro e w1 ⟨rfl, rfl⟩
          go_wp2_with fail
          refine (fsize_c _ _ b1 b2).mono ?_
          rintro e w1 ⟨rfl, rfl⟩
          go_wp2_with fail
          refine (mul64_c _ _ _ pa.1 (by omega) pb.1 (by omega)).mono ?_
          rintro e w1 ⟨rfl, rfl⟩
          go_wp2_with fail
          refine (div64_c _ _ _ _ Q0 (by omega) hlr.1 hlr.2 d2).mono ?_
          rw [← HH.out]
          rintro e w1 ⟨rfl, n, rfl⟩
          go_wp2
          go_returns
          exact ⟨ret_ints E.out.1 E.out.2, bdn _ n⟩
        · have E := Lib.hid hp
          have hqm : (Wi.ab a * Wi.ab b / Wi.ab c == 18446744073709551615) = false := by simpa using hm
          have hq1 := IntWalk.u64_in (Wi.ab a * Wi.ab b / Wi.ab c + 1) ⟨by omega, by omega⟩
          clear hp
          go_enter Try.func92, Try.ntmps92
          go_wp2_with fail
          refine (fsize_c _ _ c1 c2).mono ?_
          rintro e w1 ⟨rfl, rfl⟩
          go_wp2_with fail
          refine (fsize_c _ _ a1 a2).mono ?_
          rintro e w1 ⟨rfl, rfl⟩
          go_wp2_with fail
          refine (fsize_c _ _ b1 b2).mono ?_
          rintro e w1 ⟨rfl, rfl⟩
          go_wp2_with fail
          refine (mul64_c _ _ _ pa.1 (by omega) pb.1 (by omega)).mono ?_
          rintro e w1 ⟨rfl, rfl⟩
          go_wp2_with fail
          refine (div64_c _ _ _ _ Q0 (by omega) hlr.1 hlr.2 d2).mono ?_
          rw [← HH.out]
          rintro e w1 ⟨rfl, n, rfl⟩
          go_wp2_with fail
          refine (fsigned_c _ _ _ (by omega) (by omega)).mono ?_
          rintro e w1 ⟨rfl, rfl⟩
          go_wp2
          go_returns
          rw [E.out]
          exact ⟨rfl, bdn _ n⟩
      · have hz : Wi.zb (Wi.ab a * Wi.ab b % Wi.ab c) = true := decide_eq_true (by omega)
        rw [hz] at hp
        clear hz
        simp only [Bool.not_true, Bool.not_false, Bool.and_false, Bool.and_true, Bool.false_eq_true, if_false, if_true, Int.add_zero] at hp
        have E := Lib.hid hp
        clear hp
        go_enter Try.func92, Try.ntmps92
        go_wp2_with fail
        refine (fsize_c _ _ c1 c2).mono ?_
        rintro e w1 ⟨rfl, rfl⟩
        go_wp2_with fail
        refine (fsize_c _ _ a1 a2).mono ?_
        rintro e w1 ⟨rfl, rfl⟩
        go_wp2_with fail
        refine (fsize_c _ _ b1 b2).mono ?_
        rintro e w1 ⟨rfl, rfl⟩
        go_wp2_with fail
        refine (mul64_c _ _ _ pa.1 (by omega) pb.1 (by omega)).mono ?_
        rintro e w1 ⟨rfl, rfl⟩
        go_wp2_with fail
        refine (div64_c _ _ _ _ Q0 (by omega) hlr.1 hlr.2 d2).mono ?_
        rw [← HH.out]
        rintro e w1 ⟨rfl, n, rfl⟩
        go_wp2_with fail
        refine (fsigned_c _ _ _ (by omega) (by omega)).mono ?_
        rintro e w1 ⟨rfl, rfl⟩
        go_wp2
        go_returns
        rw [E.out]
        exact ⟨rfl, bdn _ n⟩
  · have hg : Wi.scn a b c = false := by unfold Wi.scn; simp [ha, hb, hc]
    rw [hg] at hp
    clear hg
    by_cases hge : Wi.ab c ≤ Wi.Hq (Wi.ab a * Wi.ab b)
    · have E := Lib.hid (ie_no (v := Wi.dv (a * b) c (-1)) (by have := F1 hge; rw [hp]; (first | rw [Wi.sg_t] | rw [Wi.sg_f]); split <;> omega))
      clear hp hHL F1 F2
      go_enter Try.func92, Try.ntmps92
      go_wp2_with fail
      refine (fsize_c _ _ c1 c2).mono ?_
      rintro e w1 ⟨rfl, rfl⟩
      go_wp2_with fail
      refine (fsize_c _ _ a1 a2).mono ?_
      rintro e w1 ⟨rfl, rfl⟩
      go_wp2_with fail
      refine (fsize_c _ _ b1 b2).mono ?_
      rintro e w1 ⟨rfl, rfl⟩
      go_wp2_with fail
      refine (mul64_c _ _ _ pa.1 (by omega) pb.1 (by omega)).mono ?_
      rintro e w1 ⟨rfl, rfl⟩
      go_wp2
      go_returns
      exact ⟨ret_ints E.out.1 E.out.2, Below.refl _ _⟩
    · have F3 := F2 hge
      have HH := Lib.hid hHL
      clear hHL F1 F2
      have E := Lib.hid hp
      clear hp
      simp only [Bool.false_and, Bool.false_eq_true, if_false, Int.add_zero] at E
      go_enter Try.func92, Try.ntmps92
      go_wp2_with fail
      refine (fsize_c _ _ c1 c2).mono ?_
      rintro e w1 ⟨rfl, rfl⟩
      go_wp2_with fail
      refine (fsize_c _ _ a1 a2).mono ?_
      rintro e w1 ⟨rfl, rfl⟩
      go_wp2_with fail
      refine (fsize_c _ _ b1 b2).mono ?_
      rintro e w1 ⟨rfl, rfl⟩
      go_wp2_with fail
      refine (mul64_c _ _ _ pa.1 (by omega) pb.1 (by omega)).mono ?_
      rintro e w1 ⟨rfl, rfl⟩
      go_wp2_with fail
      refine (div64_c _ _ _ _ Q0 (by omega) hlr.1 hlr.2 d2).mono ?_
      rw [← HH.out]
      rintro e w1 ⟨rfl, n, rfl⟩
      go_wp2_with fail
      refine (fsigned_c _ _ _ (by omega) (by omega)).mono ?_
      rintro e w1 ⟨rfl, rfl⟩
      go_wp2
      go_returns
      rw [E.out]
      exact ⟨rfl, bdn _ n⟩
  · have hg : Wi.scn a b c = false := by unfold Wi.scn; simp [ha, hb, hc]
    rw [hg] at hp
    clear hg
    by_cases hge : Wi.ab c ≤ Wi.Hq (Wi.ab a * Wi.ab b)
    · have E := Lib.hid (ie_no (v := Wi.dv (a * b) c (-1)) (by have := F1 hge; rw [hp]; (first | rw [Wi.sg_t] | rw [Wi.sg_f]); split <;> omega))
      clear hp hHL F1 F2
      go_enter Try.func92, Try.ntmps92
      go_wp2_with fail
      refine (fsize_c _ _ c1 c2).mono ?_
      rintro e w1 ⟨rfl, rfl⟩
      go_wp2_with fail
      refine (fsize_c _ _ a1 a2).mono ?_
      rintro e w1 ⟨rfl, rfl⟩
      go_wp2_with fail
      refine (fsize_c _ _ b1 b2).mono ?_
      rintro e w1 ⟨rfl, rfl⟩
      go_wp2_with fail
      refine (mul64_c _ _ _ pa.1 (by omega) pb.1 (by omega)).mono ?_
      rintro e w1 ⟨rfl, rfl⟩
      go_wp2
      go_returns
      exact ⟨ret_ints E.out.1 E.out.2, Below.refl _ _⟩
    · have F3 := F2 hge
      have HH := Lib.hid hHL
      clear hHL F1 F2
      have E := Lib.hid hp
      clear hp
      simp only [Bool.false_and, Bool.false_eq_true, if_false, Int.add_zero] at E
      go_enter Try.func92, Try.ntmps92
      go_wp2_with fail
      refine (fsize_c _ _ c1 c2).mono ?_
      rintro e w1 ⟨rfl, rfl⟩
      go_wp2_with fail
      refine (fsize_c _ _ a1 a2).mono ?_
      rintro e w1 ⟨rfl, rfl⟩
      go_wp2_with fail
      refine (fsize_c _ _ b1 b2).mono ?_
      rintro e w1 ⟨rfl, rfl⟩
      go_wp2_with fail
      refine (mul64_c _ _ _ pa.1 (by omega) pb.1 (by omega)).mono ?_
      rintro e w1 ⟨rfl, rfl⟩
      go_wp2_with fail
      refine (div64_c _ _ _ _ Q0 (by omega) hlr.1 hlr.2 d2).mono ?_
      rw [← HH.out]
      rintro e w1 ⟨rfl, n, rfl⟩
      go_wp2_with fail
      refine (fsigned_c _ _ _ (by omega) (by omega)).mono ?_
      rintro e w1 ⟨rfl, rfl⟩
      go_wp2
      go_returns
      rw [E.out]
      exact ⟨rfl, bdn _ n⟩
  · have hg : Wi.scn a b c = true := by unfold Wi.scn; simp [ha, hb, hc]
    rw [hg] at hp
    clear hg
    by_cases hge : Wi.ab c ≤ Wi.Hq (Wi.ab a * Wi.ab b)
    · have E := Lib.hid (ie_no (v := Wi.dv (a * b) c (-1)) (by have := F1 hge; rw [hp]; (first | rw [Wi.sg_t] | rw [Wi.sg_f]); split <;> omega))
      clear hp hHL F1 F2
      go_enter Try.func92, Try.ntmps92
      go_wp2_with fail
      refine (fsize_c _ _ c1 c2).mono ?_
      rintro e w1 ⟨rfl, rfl⟩
      go_wp2_with fail
      refine (fsize_c _ _ a1 a2).mono ?_
      rintro e w1 ⟨rfl, rfl⟩
      go_wp2_with fail
      refine (fsize_c _ _ b1 b2).mono ?_
      rintro e w1 ⟨rfl, rfl⟩
      go_wp2_with fail
      refine (mul64_c _ _ _ pa.1 (by omega) pb.1 (by omega)).mono ?_
      rintro e w1 ⟨rfl, rfl⟩
      go_wp2
      go_returns
      exact ⟨ret_ints E.out.1 E.out.2, Below.refl _ _⟩
    · have F3 := F2 hge
      have HH := Lib.hid hHL
      clear hHL F1 F2
      by_cases hr : 0 < Wi.ab a * Wi.ab b % Wi.ab c
      · have hz : Wi.zb (Wi.ab a * Wi.ab b % Wi.ab c) = false := decide_eq_false (by omega)
        rw [hz] at hp
        clear hz
        simp only [Bool.not_true, Bool.not_false, Bool.and_false, Bool.and_true, Bool.false_eq_true, if_false, if_true, Int.add_zero] at hp
        by_cases hm : Wi.ab a * Wi.ab b / Wi.ab c = 18446744073709551615
        · have E := Lib.hid (ie_no (v := Wi.dv (a * b) c (-1)) (by rw [hp, (sgi _).2]; omega))
          have hqm : (Wi.ab a * Wi.ab b / Wi.ab c == 18446744073709551615) = true := by simpa using hm
          clear hp hm
          go_enter Try.func92, Try.ntmps92
          go_wp2_with fail
          refine (fsize_c _ _ c1 c2).mono ?_
          rintro e w1 ⟨rfl, rfl⟩
          go_wp2_with fail
          refine (fsize_c _ _ a1 a2).mono ?_
          rintro e w1 ⟨rfl, rfl⟩
          go_wp2_with fail
          refine (fsize_c _ _ b1 b2).mono ?_
          rintro e w1 ⟨rfl, rfl⟩
          go_wp2_with fail
          refine (mul64_c _ _ _ pa.1 (by omega) pb.1 (by omega)).mono ?_
          rintro e w1 ⟨rfl, rfl⟩
          go_wp2_with fail
          refine (div64_c _ _ _ _ Q0 (by omega) hlr.1 hlr.2 d2).mono ?_
          rw [← HH.out]
          rintro e w1 ⟨rfl, n, rfl⟩
          go_wp2
          go_returns
          exact ⟨ret_ints E.out.1 E.out.2, bdn _ n⟩
        · have E := Lib.hid hp
          have hqm : (Wi.ab a * Wi.ab b / Wi.ab c == 18446744073709551615) = false := by simpa using hm
          have hq1 := IntWalk.u64_in (Wi.ab a * Wi.ab b / Wi.ab c + 1) ⟨by omega, by omega⟩
          clear hp
          go_enter Try.func92, Try.ntmps92
          go_wp2_with fail
          refine (fsize_c _ _ c1 c2).mono ?_
          rintro e w1 ⟨rfl, rfl⟩
          go_wp2_with fail
          refine (fsize_c _ _ a1 a2).mono ?_
          rintro e w1 ⟨rfl, rfl⟩
          go_wp2_with fail
          refine (fsize_c _ _ b1 b2).mono ?_
          rintro e w1 ⟨rfl, rfl⟩
          go_wp2_with fail
          refine (mul64_c _ _ _ pa.1 (by omega) pb.1 (by omega)).mono ?_
          rintro e w1 ⟨rfl, rfl⟩
          go_wp2_with fail
          refine (div64_c _ _ _ _ Q0 (by omega) hlr.1 hlr.2 d2).mono ?_
          rw [← HH.out]
          rintro e w1 ⟨rfl, n, rfl⟩
          go_wp2_with fail
          refine (fsigned_c _ _ _ (by omega) (by omega)).mono ?_
          rintro e w1 ⟨rfl, rfl⟩
          go_wp2
          go_returns
          rw [E.out]
          exact ⟨rfl, bdn _ n⟩
      · have hz : Wi.zb (Wi.ab a * Wi.ab b % Wi.ab c) = true := decide_eq_true (by omega)
        rw [hz] at hp
        clear hz
        simp only [Bool.not_true, Bool.not_false, Bool.and_false, Bool.and_true, Bool.false_eq_true, if_false, if_true, Int.add_zero] at hp
        have E := Lib.hid hp
        clear hp
        go_enter Try.func92, Try.ntmps92
        go_wp2_with fail
        refine (fsize_c _ _ c1 c2).mono ?_
        rintro e w1 ⟨rfl, rfl⟩
        go_wp2_with fail
        refine (fsize_c _ _ a1 a2).mono ?_
        rintro e w1 ⟨rfl, rfl⟩
        go_wp2_with fail
        refine (fsize_c _ _ b1 b2).mono ?_
        rintro e w1 ⟨rfl, rfl⟩
        go_wp2_with fail
        refine (mul64_c _ _ _ pa.1 (by omega) pb.1 (by omega)).mono ?_
        rintro e w1 ⟨rfl, rfl⟩
        go_wp2_with fail
        refine (div64_c _ _ _ _ Q0 (by omega) hlr.1 hlr.2 d2).mono ?_
        rw [← HH.out]
        rintro e w1 ⟨rfl, n, rfl⟩
        go_wp2_with fail
        refine (fsigned_c _ _ _ (by omega) (by omega)).mono ?_
        rintro e w1 ⟨rfl, rfl⟩
        go_wp2
        go_returns
        rw [E.out]
        exact ⟨rfl, bdn _ n⟩
  · have hg : Wi.scn a b c = false := by unfold Wi.scn; simp [ha, hb, hc]
    rw [hg] at hp
    clear hg
    by_cases hge : Wi.ab c ≤ Wi.Hq (Wi.ab a * Wi.ab b)
    · have E := Lib.hid (ie_no (v := Wi.dv (a * b) c (-1)) (by have := F1 hge; rw [hp]; (first | rw [Wi.sg_t] | rw [Wi.sg_f]); split <;> omega))
      clear hp hHL F1 F2
      go_enter Try.func92, Try.ntmps92
      go_wp2_with fail
      refine (fsize_c _ _ c1 c2).mono ?_
      rintro e w1 ⟨rfl, rfl⟩
      go_wp2_with fail
      refine (fsize_c _ _ a1 a2).mono ?_
      rintro e w1 ⟨rfl, rfl⟩
      go_wp2_with fail
      refine (fsize_c _ _ b1 b2).mono ?_
      rintro e w1 ⟨rfl, rfl⟩
      go_wp2_with fail
      refine (mul64_c _ _ _ pa.1 (by omega) pb.1 (by omega)).mono ?_
      rintro e w1 ⟨rfl, rfl⟩
      go_wp2
      go_returns
      exact ⟨ret_ints E.out.1 E.out.2, Below.refl _ _⟩
    · have F3 := F2 hge
      have HH := Lib.hid hHL
      clear hHL F1 F2
      have E := Lib.hid hp
      clear hp
      simp only [Bool.false_and, Bool.false_eq_true, if_false, Int.add_zero] at E
      go_enter Try.func92, Try.ntmps92
      go_wp2_with fail
      refine (fsize_c _ _ c1 c2).mono ?_
      rintro e w1 ⟨rfl, rfl⟩
      go_wp2_with fail
      refine (fsize_c _ _ a1 a2).mono ?_
      rintro e w1 ⟨rfl, rfl⟩
      go_wp2_with fail
      refine (fsize_c _ _ b1 b2).mono ?_
      rintro e w1 ⟨rfl, rfl⟩
      go_wp2_with fail
      refine (mul64_c _ _ _ pa.1 (by omega) pb.1 (by omega)).mono ?_
      rintro e w1 ⟨rfl, rfl⟩
      go_wp2_with fail
      refine (div64_c _ _ _ _ Q0 (by omega) hlr.1 hlr.2 d2).mono ?_
      rw [← HH.out]
      rintro e w1 ⟨rfl, n, rfl⟩
      go_wp2_with fail
      refine (fsigned_c _ _ _ (by omega) (by omega)).mono ?_
      rintro e w1 ⟨rfl, rfl⟩
      go_wp2
      go_returns
      rw [E.out]
      exact ⟨rfl, bdn _ n⟩
  · have hg : Wi.scn a b c = true := by unfold Wi.scn; simp [ha, hb, hc]
    rw [hg] at hp
    clear hg
    by_cases hge : Wi.ab c ≤ Wi.Hq (Wi.ab a * Wi.ab b)
    · have E := Lib.hid (ie_no (v := Wi.dv (a * b) c (-1)) (by have := F1 hge; rw [hp]; (first | rw [Wi.sg_t] | rw [Wi.sg_f]); split <;> omega))
      clear hp hHL F1 F2
      go_enter Try.func92, Try.ntmps92
      go_wp2_with fail
      refine (fsize_c _ _ c1 c2).mono ?_
      rintro e w1 ⟨rfl, rfl⟩
      go_wp2_with fail
      refine (fsize_c _ _ a1 a2).mono ?_
      rintro e w1 ⟨rfl, rfl⟩
      go_wp2_with fail
      refine (fsize_c _ _ b1 b2).mono ?_
      rintro e w1 ⟨rfl, rfl⟩
      go_wp2_with fail
      refine (mul64_c _ _ _ pa.1 (by omega) pb.1 (by omega)).mono ?_
      rintro e w1 ⟨rfl, rfl⟩
      go_wp2
      go_returns
      exact ⟨ret_ints E.out.1 E.out.2, Below.refl _ _⟩
    · have F3 := F2 hge
      have HH := Lib.hid hHL
      clear hHL F1 F2
      by_cases hr : 0 < Wi.ab a * Wi.ab b % Wi.ab c
      · have hz : Wi.zb (Wi.ab a * Wi.ab b % Wi.ab c) = false := decide_eq_false (by omega)
        rw [hz] at hp
        clear hz
        simp only [Bool.not_true, Bool.not_false, Bool.and_false, Bool.and_true, Bool.false_eq_true, if_false, if_true, Int.add_zero] at hp
        by_cases hm : Wi.ab a * Wi.ab b / Wi.ab c = 18446744073709551615
        · have E := Lib.hid (ie_no (v := Wi.dv (a * b) c (-1)) (by rw [hp, (sgi _).2]; omega))
          have hqm : (Wi.ab a * Wi.ab b / Wi.ab c == 18446744073709551615) = true := by simpa using hm
          clear hp hm
          go_enter Try.func92, Try.ntmps92
          go_wp2_with fail
          refine (fsize_c _ _ c1 c2).mono ?_
          rintro e w1 ⟨rfl, rfl⟩
          go_wp2_with fail
          refine (fsize_c _ _ a1 a2).mono ?_
          rintro e w1 ⟨rfl, rfl⟩
          go_wp2_with fail
          refine (fsize_c _ _ b1 b2).mono ?_
          rintro e w1 ⟨rfl, rfl⟩
          go_wp2_with fail
          refine (mul64_c _ _ _ pa.1 (by omega) pb.1 (by omega)).mono ?_
          rintro e w1 ⟨rfl, rfl⟩
          go_wp2_with fail
          refine (div64_c _ _ _ _ Q0 (by omega) hlr.1 hlr.2 d2).mono ?_
          rw [← HH.out]
          rintro e w1 ⟨rfl, n, rfl⟩
          go_wp2
          go_returns
          exact ⟨ret_ints E.out.1 E.out.2, bdn _ n⟩
        · have E := Lib.hid hp
          have hqm : (Wi.ab a * Wi.ab b / Wi.ab c == 18446744073709551615) = false := by simpa using hm
          have hq1 := IntWalk.u64_in (Wi.ab a * Wi.ab b / Wi.ab c + 1) ⟨by omega, by omega⟩
          clear hp
          go_enter Try.func92, Try.ntmps92
          go_wp2_with fail
          refine (fsize_c _ _ c1 c2).mono ?_
          rintro e w1 ⟨rfl, rfl⟩
          go_wp2_with fail
          refine (fsize_c _ _ a1 a2).mono ?_
          rintro e w1 ⟨rfl, rfl⟩
          go_wp2_with fail
          refine (fsize_c _ _ b1 b2).mono ?_
          rintro e w1 ⟨rfl, rfl⟩
          go_wp2_with fail
          refine (mul64_c _ _ _ pa.1 (by omega) pb.1 (by omega)).mono ?_
          rintro e w1 ⟨rfl, rfl⟩
          go_wp2_with fail
          refine (div64_c _ _ _ _ Q0 (by omega) hlr.1 hlr.2 d2).mono ?_
          rw [← HH.out]
          rintro e w1 ⟨rfl, n, rfl⟩
          go_wp2_with fail
          refine (fsigned_c _ _ _ (by omega) (by omega)).mono ?_
          rintro e w1 ⟨rfl, rfl⟩
          go_wp2
          go_returns
          rw [E.out]
          exact ⟨rfl, bdn _ n⟩
      · have hz : Wi.zb (Wi.ab a * Wi.ab b % Wi.ab c) = true := decide_eq_true (by omega)
        rw [hz] at hp
        clear hz
        simp only [Bool.not_true, Bool.not_false, Bool.and_false, Bool.and_true, Bool.false_eq_true, if_false, if_true, Int.add_zero] at hp
        have E := Lib.hid hp
        clear hp
        go_enter Try.func92, Try.ntmps92
        go_wp2_with fail
        refine (fsize_c _ _ c1 c2).mono ?_
        rintro e w1 ⟨rfl, rfl⟩
        go_wp2_with fail
        refine (fsize_c _ _ a1 a2).mono ?_
        rintro e w1 ⟨rfl, rfl⟩
        go_wp2_with fail
        refine (fsize_c _ _ b1 b2).mono ?_
        rintro e w1 ⟨rfl, rfl⟩
        go_wp2_with fail
        refine (mul64_c _ _ _ pa.1 (by omega) pb.1 (by omega)).mono ?_
        rintro e w1 ⟨rfl, rfl⟩
        go_wp2_with fail
        refine (div64_c _ _ _ _ Q0 (by omega) hlr.1 hlr.2 d2).mono ?_
        rw [← HH.out]
        rintro e w1 ⟨rfl, n, rfl⟩
        go_wp2_with fail
        refine (fsigned_c _ _ _ (by omega) (by omega)).mono ?_
        rintro e w1 ⟨rfl, rfl⟩
        go_wp2
        go_returns
        rw [E.out]
        exact ⟨rfl, bdn _ n⟩
  · have hg : Wi.scn a b c = true := by unfold Wi.scn; simp [ha, hb, hc]
    rw [hg] at hp
    clear hg
    by_cases hge : Wi.ab c ≤ Wi.Hq (Wi.ab a * Wi.ab b)
    · have E := Lib.hid (ie_no (v := Wi.dv (a * b) c (-1)) (by have := F1 hge; rw [hp]; (first | rw [Wi.sg_t] | rw [Wi.sg_f]); split <;> omega))
      clear hp hHL F1 F2
      go_enter Try.func92, Try.ntmps92
      go_wp2_with fail
      refine (fsize_c _ _ c1 c2).mono ?_
      rintro e w1 ⟨rfl, rfl⟩
      go_wp2_with fail
      refine (fsize_c _ _ a1 a2).mono ?_
      rintro e w1 ⟨rfl, rfl⟩
      go_wp2_with fail
      refine (fsize_c _ _ b1 b2).mono ?_
      rintro e w1 ⟨rfl, rfl⟩
      go_wp2_with fail
      refine (mul64_c _ _ _ pa.1 (by omega) pb.1 (by omega)).mono ?_
      rintro e w1 ⟨rfl, rfl⟩
      go_wp2
      go_returns
      exact ⟨ret_ints E.out.1 E.out.2, Below.refl _ _⟩
    · have F3 := F2 hge
      have HH := Lib.hid hHL
      clear hHL F1 F2
      by_cases hr : 0 < Wi.ab a * Wi.ab b % Wi.ab c
      · have hz : Wi.zb (Wi.ab a * Wi.ab b % Wi.ab c) = false := decide_eq_false (by omega)
        rw [hz] at hp
        clear hz
        simp only [Bool.not_true, Bool.not_false, Bool.and_false, Bool.and_true, Bool.false_eq_true, if_false, if_true, Int.add_zero] at hp
        by_cases hm : Wi.ab a * Wi.ab b / Wi.ab c = 18446744073709551615
        · have E := Lib.hid (ie_no (v := Wi.dv (a * b) c (-1)) (by rw [hp, (sgi _).2]; omega))
          have hqm : (Wi.ab a * Wi.ab b / Wi.ab c == 18446744073709551615) = true := by simpa using hm
          clear hp hm
          go_enter Try.func92, Try.ntmps92
          go_wp2_with fail
          refine (fsize_c _ _ c1 c2).mono ?_
          rintro e w1 ⟨rfl, rfl⟩
          go_wp2_with fail
          refine (fsize_c _ _ a1 a2).mono ?_
          rintro e w1 ⟨rfl, rfl⟩
          go_wp2_with fail
          refine (fsize_c _ _ b1 b2).mono ?_
          rintro e w1 ⟨rfl, rfl⟩
          go_wp2_with fail
          refine (mul64_c _ _ _ pa.1 (by omega) pb.1 (by omega)).mono ?_
          rintro e w1 ⟨rfl, rfl⟩
          go_wp2_with fail
          refine (div64_c _ _ _ _ Q0 (by omega) hlr.1 hlr.2 d2).mono ?_
          rw [← HH.out]
          rintro e w1 ⟨rfl, n, rfl⟩
          go_wp2
          go_returns
          exact ⟨ret_ints E.out.1 E.out.2, bdn _ n⟩
        · have E := Lib.hid hp
          have hqm : (Wi.ab a * Wi.ab b / Wi.ab c == 18446744073709551615) = false := by simpa using hm
          have hq1 := IntWalk.u64_in (Wi.ab a * Wi.ab b / Wi.ab c + 1) ⟨by omega, by omega⟩
          clear hp
          go_enter Try.func92, Try.ntmps92
          go_wp2_with fail
          refine (fsize_c _ _ c1 c2).mono ?_
          rintro e w1 ⟨rfl, rfl⟩
          go_wp2_with fail
          refine (fsize_c _ _ a1 a2).mono ?_
          rintro e w1 ⟨rfl, rfl⟩
          go_wp2_with fail
          refine (fsize_c _ _ b1 b2).mono ?_
          rintro e w1 ⟨rfl, rfl⟩
          go_wp2_with fail
          refine (mul64_c _ _ _ pa.1 (by omega) pb.1 (by omega)).mono ?_
          rintro e w1 ⟨rfl, rfl⟩
          go_wp2_with fail
          refine (div64_c _ _ _ _ Q0 (by omega) hlr.1 hlr.2 d2).mono ?_
          rw [← HH.out]
          rintro e w1 ⟨rfl, n, rfl⟩
          go_wp2_with fail
          refine (fsigned_c _ _ _ (by omega) (by omega)).mono ?_
          rintro e w1 ⟨rfl, rfl⟩
          go_wp2
          go_returns
          rw [E.out]
          exact ⟨rfl, bdn _ n⟩
      · have hz : Wi.zb (Wi.ab a * Wi.ab b % Wi.ab c) = true := decide_eq_true (by omega)
        rw [hz] at hp
        clear hz
        simp only [Bool.not_true, Bool.not_false, Bool.and_false, Bool.and_true, Bool.false_eq_true, if_false, if_true, Int.add_zero] at hp
        have E := Lib.hid hp
        clear hp
        go_enter Try.func92, Try.ntmps92
        go_wp2_with fail
        refine (fsize_c _ _ c1 c2).mono ?_
        rintro e w1 ⟨rfl, rfl⟩
        go_wp2_with fail
        refine (fsize_c _ _ a1 a2).mono ?_
        rintro e w1 ⟨rfl, rfl⟩
        go_wp2_with fail
        refine (fsize_c _ _ b1 b2).mono ?_
        rintro e w1 ⟨rfl, rfl⟩
        go_wp2_with fail
        refine (mul64_c _ _ _ pa.1 (by omega) pb.1 (by omega)).mono ?_
        rintro e w1 ⟨rfl, rfl⟩
        go_wp2_with fail
        refine (div64_c _ _ _ _ Q0 (by omega) hlr.1 hlr.2 d2).mono ?_
        rw [← HH.out]
        rintro e w1 ⟨rfl, n, rfl⟩
        go_wp2_with fail
        refine (fsigned_c _ _ _ (by omega) (by omega)).mono ?_
        rintro e w1 ⟨rfl, rfl⟩
        go_wp2
        go_returns
        rw [E.out]
        exact ⟨rfl, bdn _ n⟩
  · have hg : Wi.scn a b c = false := by unfold Wi.scn; simp [ha, hb, hc]
    rw [hg] at hp
    clear hg
    by_cases hge : Wi.ab c ≤ Wi.Hq (Wi.ab a * Wi.ab b)
    · have E := Lib.hid (ie_no (v := Wi.dv (a * b) c (-1)) (by have := F1 hge; rw [hp]; (first | rw [Wi.sg_t] | rw [Wi.sg_f]); split <;> omega))
      clear hp hHL F1 F2
      go_enter Try.func92, Try.ntmps92
      go_wp2_with fail
      refine (fsize_c _ _ c1 c2).mono ?_
      rintro e w1 ⟨rfl, rfl⟩
      go_wp2_with fail
      refine (fsize_c _ _ a1 a2).mono ?_
      rintro e w1 ⟨rfl, rfl⟩
      go_wp2_with fail
      refine (fsize_c _ _ b1 b2).mono ?_
      rintro e w1 ⟨rfl, rfl⟩
      go_wp2_with fail
      refine (mul64_c _ _ _ pa.1 (by omega) pb.1 (by omega)).mono ?_
      rintro e w1 ⟨rfl, rfl⟩
      go_wp2
      go_returns
      exact ⟨ret_ints E.out.1 E.out.2, Below.refl _ _⟩
    · have F3 := F2 hge
      have HH := Lib.hid hHL
      clear hHL F1 F2
      have E := Lib.hid hp
      clear hp
      simp only [Bool.false_and, Bool.false_eq_true, if_false, Int.add_zero] at E
      go_enter Try.func92, Try.ntmps92
      go_wp2_with fail
      refine (fsize_c _ _ c1 c2).mono ?_
      rintro e w1 ⟨rfl, rfl⟩
      go_wp2_with fail
      refine (fsize_c _ _ a1 a2).mono ?_
      rintro e w1 ⟨rfl, rfl⟩
      go_wp2_with fail
      refine (fsize_c _ _ b1 b2).mono ?_
      rintro e w1 ⟨rfl, rfl⟩
      go_wp2_with fail
      refine (mul64_c _ _ _ pa.1 (by omega) pb.1 (by omega)).mono ?_
      rintro e w1 ⟨rfl, rfl⟩
      go_wp2_with fail
      refine (div64_c _ _ _ _ Q0 (by omega) hlr.1 hlr.2 d2).mono ?_
      rw [← HH.out]
      rintro e w1 ⟨rfl, n, rfl⟩
      go_wp2_with fail
      refine (fsigned_c _ _ _ (by omega) (by omega)).mono ?_
      rintro e w1 ⟨rfl, rfl⟩
      go_wp2
      go_returns
      rw [E.out]
      exact ⟨rfl, bdn _ n⟩
end Go.Proofs.Ytoeklllahpegfaa
/-
  Contracts: fixed.Floor for a positive divisor.
-/
namespace Go.Proofs.Ytoeklllahpegfaa
set_option linter.unusedVariables false
set_option linter.unusedSimpArgs false
open Go.RowKit

theorem quo_bd {a c : Int} (h1 : -4611686018427387904 ≤ a) (h2 : a ≤ 4611686018427387904) (hc : 0 < c) : -4611686018427387904 ≤ a / c ∧ a / c ≤ 4611686018427387904 := by
  constructor
  · refine (Int.le_ediv_iff_mul_le hc).2 ?_
    have : (-4611686018427387904 : Int) * c ≤ -4611686018427387904 * 1 := Int.mul_le_mul_of_nonpos_left (by omega) (by omega)
    omega
  · refine Int.ediv_le_of_le_mul hc ?_
    have : (4611686018427387904 : Int) * 1 ≤ 4611686018427387904 * c := Int.mul_le_mul_of_nonneg_left (by omega) (by omega)
    omega
set_option maxRecDepth 100000 in
set_option maxHeartbeats 4000000 in
theorem floor_o (a c : Int) (w : World) (h1 : -4611686018427387904 ≤ a) (h2 : a ≤ 4611686018427387904) (hc : 0 < c) (c2 : c ≤ 9223372036854775807) :
    Calls Try.prog 90 #[.int .i64 a, .int .i64 c] w fun e w' => e = .returned (.tuple #[.int .i64 (a / c), .int .i64 0]) ∧ Below w.heap.size w w' := by
  have b := quo_bd h1 h2 hc
  have K := scale0_c a 1 c w (by omega) (by omega) (by omega) (by omega) (by omega) c2
  have q : Wi.in64 (a / c) := by unfold Wi.in64; omega
  have e2 : Wi.er (a / c) = 0 := by unfold Wi.er; rw [Wi.ib_yes q]; rfl
  rw [if_neg (by omega), if_neg (by omega), Int.mul_one, Wi.dv_floor hc, Wi.iv_yes q, e2] at K
  generalize a / c = r1 at K ⊢
  go_enter Try.func90, Try.ntmps90
  go_wp2_with fail
  refine K.mono ?_
  rintro e w1 ⟨rfl, hb⟩
  go_wp2
  go_returns
  exact ⟨rfl, hb⟩
end Go.Proofs.Ytoeklllahpegfaa
/-
  Contracts: performance.value.
-/
namespace Go.Proofs.Ytoeklllahpegfaa
set_option linter.unusedVariables false
set_option linter.unusedSimpArgs false
open Go.RowKit
attribute [local irreducible] World.setCell World.cell?

set_option maxRecDepth 100000 in
set_option maxHeartbeats 4000000 in
theorem value_c (A B : Option Addr) (n c d : Nat) (al l : Nat → Int) (x : Int) (w : World) (R : Rd w 1 A n c (nv al)) (L : Rd w 1 B n d (nv l)) (hn : 1 ≤ n) (hx : -10000000000 ≤ x ∧ x ≤ 10000000000)
    (hal : ∀ i, i < n → -10000000000 ≤ al i ∧ al i ≤ 10000000000) (hl : ∀ i, i < n → -1000000 ≤ l i ∧ l i ≤ 1000000) :
    Calls Try.prog 88 #[.slice A n c, .slice B n d, .int .i64 x] w fun e w' => e = .returned (.int .i64 (Oz.vW n al l x)) ∧ Below w.heap.size w w' := by
  have r1 := R.le
  have r2 := R.mx
  have l1 := L.le
  have l2 := L.mx
  obtain ⟨x1, x2⟩ := hx
  obtain ⟨b, off, eA, hbl, _⟩ := R.at1 (k := 0) (by omega)
  obtain ⟨b2, off2, eB, hbl2, y0⟩ := L.at1 (k := 0) (by omega)
  subst eA eB
  go_enter Try.func88, Try.ntmps88
  go_wp2_with fail
  go_loopw [7] (fun i wr => ∃ k : Nat, k ≤ n ∧ i = .int .i64 k ∧ Hid (Oz.fk al x k = k) ∧ w = wr) (fun i _ => n - (intOf i).toNat)
  case atStart => exact ⟨0, Nat.zero_le _, rfl, rfl, rfl⟩
  case round =>
    obtain ⟨k, hk, rfl, hf, rfl⟩ := hrel
    by_cases hlt : k < n
    · obtain ⟨_, u0⟩ := R.s1o hlt
      by_cases hx : al k < x
      · have HF := Lib.hid (Oz.fk_step hf.out hx)
        go_wp2_with fail
        go_roundw
        case rel => exact ⟨k + 1, by omega, by go_num, HF, by first | trivial | rfl⟩
        case measure => simp [intOf]; omega
      · have HF := Lib.hid (Oz.fk_at hf.out hx hlt)
        by_cases hz : k = 0
        · subst hz
          have HE := Lib.hid (Oz.vW_0 (l := l) HF.out)
          simp only [Nat.add_zero] at y0 u0
          go_wp2_with fail
          go_returns
          refine ⟨?_, Below.refl _ _⟩
          rw [HE.out]; rfl
        · obtain ⟨j, rfl⟩ : ∃ j, k = j + 1 := ⟨k - 1, by omega⟩
          have HE := Lib.hid (Oz.vW_m (l := l) HF.out (by omega))
          obtain ⟨_, hj⟩ := Oz.fk_prev hf.out
          obtain ⟨_, u1⟩ := R.s1o (k := j) (by omega)
          obtain ⟨_, y1⟩ := L.s1o (k := j) (by omega)
          obtain ⟨_, y2⟩ := L.s1o (k := j + 1) hlt
          obtain ⟨a1, a2⟩ := hal j (by omega)
          obtain ⟨a3, a4⟩ := hal (j + 1) hlt
          obtain ⟨v1, v2⟩ := hl j (by omega)
          obtain ⟨v3, v4⟩ := hl (j + 1) hlt
          have m1 : (l (j + 1) - l j) * (x - al j) ≤ 2000000 * (x - al j) := Int.mul_le_mul_of_nonneg_right (by omega) (by omega)
          have m2 : -2000000 * (x - al j) ≤ (l (j + 1) - l j) * (x - al j) := Int.mul_le_mul_of_nonneg_right (by omega) (by omega)
          have m3 : (l (j + 1) - l j) * (x - al j) ≤ 4611686018427387904 := by omega
          have m4 : -4611686018427387904 ≤ (l (j + 1) - l j) * (x - al j) := by omega
          have qb := quo_bd (c := al (j + 1) - al j) m4 m3 (by omega)
          have i1 : (0 : Int) ≤ (j : Int) := by omega
          have i2 : (j : Int) + 1 < (n : Int) := by omega
          have i3 : (j : Int) < (n : Int) := by omega
          have i4 : (j : Int) + 1 - 1 = (j : Int) := by omega
          have hjn : ((j : Int) + 1 == (n : Int)) = false := by simp; omega
          have hne : ¬ (j : Int) + 1 = (n : Int) := by omega
          have hne2 : ((j : Int) + 1 == 0) = false := by simp; omega
          have KF := floor_o ((l (j + 1) - l j) * (x - al j)) (al (j + 1) - al j)
          have D1 := Lib.hid (show 0 < al (j + 1) - al j by omega)
          have D2 := Lib.hid (show al (j + 1) - al j ≤ 9223372036854775807 by omega)
          clear m1 m2 hlt hk hz
          go_wp2_with fail
          go_quiet (fail)
          go_wp2_with fail
          refine (KF _ m4 m3 D1.out D2.out).mono ?_
          generalize (l (j + 1) - l j) * (x - al j) / (al (j + 1) - al j) = r at *
          rintro e w2 ⟨rfl, h2⟩
          have hB := bt (bdn w ‹Nat›) h2
          go_wp2_with fail
          go_returns
          refine ⟨?_, hB⟩
          rw [HE.out]; rfl
    · obtain ⟨j, rfl⟩ : ∃ j, k = j + 1 := ⟨k - 1, by omega⟩
      have en : n = j + 1 := by omega
      have HE := Lib.hid (Oz.vW_n (l := l) (show Oz.fk al x n = j + 1 by rw [en]; exact hf.out) en)
      obtain ⟨_, y1⟩ := L.s1o (k := j) (by omega)
      have i1 : (0 : Int) ≤ (j : Int) := by omega
      have i2 : (n : Int) = (j : Int) + 1 := by omega
      have i4 : (j : Int) + 1 - 1 = (j : Int) := by omega
      have i5 : (j : Int) < (n : Int) := by omega
      have i6 : ((j : Int) + 1 == 0) = false := by simp; omega
      have hlt2 : ¬ (j : Int) + 1 < (n : Int) := by omega
      clear hlt hk
      subst en
      go_wp2_with fail
      go_returns
      refine ⟨?_, Below.refl _ _⟩
      rw [HE.out]; rfl
end Go.Proofs.Ytoeklllahpegfaa
/-
  Contracts: performance.table.
-/
namespace Go.Proofs.Ytoeklllahpegfaa
set_option linter.unusedVariables false
set_option linter.unusedSimpArgs false
open Go.RowKit
attribute [local irreducible] World.setCell World.cell?

/-- Two slices of numbers made one behind the other. -/
theorem two_n (w : World) (n m : Nat) (hn : n ≤ 512) (hm : m ≤ 512) {base : Nat} (hb : base ≤ w.heap.size) :
    Own ((w.alloc (.cells (madeCells #[.int .i64 0] n) 2)).alloc (.cells (madeCells #[.int .i64 0] m) 2)) base 2 1 (some ⟨w.heap.size, 0, none⟩) n n (nv fun _ => 0) ∧
    Own ((w.alloc (.cells (madeCells #[.int .i64 0] n) 2)).alloc (.cells (madeCells #[.int .i64 0] m) 2)) base 2 1 (some ⟨w.heap.size + 1, 0, none⟩) m m (nv fun _ => 0) := by
  refine ⟨(own_i6 w base n hn hb).alloc _, ?_⟩
  have h := own_i6 (w.alloc (.cells (madeCells #[.int .i64 0] n) 2)) base m hm (by simp; omega)
  have e : (w.alloc (.cells (madeCells #[.int .i64 0] n) 2)).heap.size = w.heap.size + 1 := by simp
  rw [e] at h
  exact h
theorem up_lt {F M : Nat → Int} {j : Nat} (h : ∀ a, a < j → M a = F a) : ∀ a, a < j + 1 → Ce.up M j (F j) a = F a := fun a ha => by
  by_cases e : a = j
  · subst e; exact Ce.up_at _ _ _
  · rw [Ce.up_ne e]; exact h a (by omega)

set_option maxRecDepth 100000 in
set_option maxHeartbeats 4000000 in
theorem table_c (P : PD) (Q : PA) (A : Option Addr) (n c : Nat) (ln : Nat → Nat) (T : Nat → Nat → Int) (alt mass : Int) (w : World) (H : PIn w P Q) (R : Tb w A n c ln T) (hn : n = P.na) (O : Oz.POk P) (hln : ∀ i, i < P.na → ln i = P.nM)
    (hT : ∀ i j, i < P.na → j < P.nM → 0 ≤ T i j ∧ T i j ≤ 50000) (ha : -200000 ≤ alt ∧ alt ≤ 6000000) (hm : 1 ≤ mass ∧ mass ≤ 3000000000) :
    Calls Try.prog 85 #[.agg #[.string P.nm, .int .i64 P.em, .int .i64 P.fu, .slice Q.al P.na Q.alc, .slice Q.ma P.nM Q.mac, .slice Q.tC P.nC Q.tCc, .slice Q.tF P.nF Q.tFc, .slice Q.tR P.nR Q.tRc, .slice Q.dD P.nD Q.dDc, .slice Q.dI P.nI Q.dIc, .slice Q.dX P.nX Q.dXc, .slice Q.dN P.nN Q.dNc, .int .i64 P.rf, .int .i64 P.xt, .int .i64 P.ce], .slice A n c, .int .i64 alt, .int .i64 mass] w fun e w' => e = .returned (.int .i64 (Oz.tabW P T alt mass)) ∧ Below w.heap.size w w' := by
  subst hn
  have o1 := O.na1
  have o2 := O.na2
  have o3 := O.nM1
  have o4 := O.nM2
  have hmk1 := mk_i6 P.nM (by omega)
  have hmk2 := mk_i6 P.na (by omega)
  have x1 := H.al.le
  have x2 := H.al.mx
  have x3 := H.ma.le
  have x4 := H.ma.mx
  have hVW := fun (j : Nat) (hj : j < P.nM) => Oz.vW_bd (al := P.al) (l := fun i => T i j) (x := alt) (lo := 0) (hi := 50000) (by omega : 1 ≤ P.na) fun i hi => hT i j hi hj
  have HVW := Lib.hid hVW
  have HLN := Lib.hid hln
  have HT := Lib.hid hT
  have ALB := Lib.hid O.alb
  have MAB := Lib.hid O.mab
  clear hVW hln hT
  go_enter Try.func85, Try.ntmps85
  try simp only [List.append_eq, List.cons_append, List.nil_append]
  have G := Blk.new w 25 #[.string P.nm, .int .i64 P.em, .int .i64 P.fu, .slice Q.al P.na Q.alc, .slice Q.ma P.nM Q.mac, .slice Q.tC P.nC Q.tCc, .slice Q.tF P.nF Q.tFc, .slice Q.tR P.nR Q.tRc, .slice Q.dD P.nD Q.dDc, .slice Q.dI P.nI Q.dIc, .slice Q.dX P.nX Q.dXc, .slice Q.dN P.nN Q.dNc, .int .i64 P.rf, .int .i64 P.xt, .int .i64 P.ce]
  have hB := ba w (.cells #[.string P.nm, .int .i64 P.em, .int .i64 P.fu, .slice Q.al P.na Q.alc, .slice Q.ma P.nM Q.mac, .slice Q.tC P.nC Q.tCc, .slice Q.tF P.nF Q.tFc, .slice Q.tR P.nR Q.tRc, .slice Q.dD P.nD Q.dDc, .slice Q.dI P.nI Q.dIc, .slice Q.dX P.nX Q.dXc, .slice Q.dN P.nN Q.dNc, .int .i64 P.rf, .int .i64 P.xt, .int .i64 P.ce] 25)
  have hsz0 : w.heap.size < (World.alloc w (.cells #[.string P.nm, .int .i64 P.em, .int .i64 P.fu, .slice Q.al P.na Q.alc, .slice Q.ma P.nM Q.mac, .slice Q.tC P.nC Q.tCc, .slice Q.tF P.nF Q.tFc, .slice Q.tR P.nR Q.tRc, .slice Q.dD P.nD Q.dDc, .slice Q.dI P.nI Q.dIc, .slice Q.dX P.nX Q.dXc, .slice Q.dN P.nN Q.dNc, .int .i64 P.rf, .int .i64 P.xt, .int .i64 P.ce] 25)).heap.size := by simp
  go_upto_region 1 with fail
  generalize World.alloc w _ = wS at G hB hsz0 ⊢
  obtain ⟨d0, d1, d2, d3, d4, d5, d6, d7, d8, d9, d10, d11, d12, d13, d14, d15, d16⟩ := G.open15
  go_upto_region 3 with fail
  obtain ⟨q1, q2⟩ := two_n wS P.nM P.na (by omega) (by omega) (base := w.heap.size) (by omega)
  have hb2 := bal (ba wS (.cells (madeCells #[.int .i64 0] P.nM) 2)) (.cells (madeCells #[.int .i64 0] P.na) 2)
  clear d0 d1 d2 d3 d4 d5 d6 d7 d8 d9 d10 d11 d12 d13 d14 d15 d16 hmk1 hmk2
  generalize World.alloc (World.alloc wS _) _ = w2 at q1 q2 hb2 ⊢
  replace G := G.keep hb2
  replace hB := bt hB hb2
  clear hb2
  generalize wS.heap.size = g1 at *
  go_wp2_with fail
  go_loopw [23] (fun q wr => ∃ (j : Nat) (M N : Nat → Int), j ≤ P.nM ∧ q = .int .i64 j ∧ Own wr w.heap.size 2 1 (some ⟨g1, 0, none⟩) P.nM P.nM (nv M) ∧ Own wr w.heap.size 2 1 (some ⟨g1 + 1, 0, none⟩) P.na P.na (nv N) ∧ Hid (∀ a, a < j → M a = Oz.vW P.na P.al (fun i => T i a) alt) ∧ Blk wr w.heap.size 25 #[.string P.nm, .int .i64 P.em, .int .i64 P.fu, .slice Q.al P.na Q.alc, .slice Q.ma P.nM Q.mac, .slice Q.tC P.nC Q.tCc, .slice Q.tF P.nF Q.tFc, .slice Q.tR P.nR Q.tRc, .slice Q.dD P.nD Q.dDc, .slice Q.dI P.nI Q.dIc, .slice Q.dX P.nX Q.dXc, .slice Q.dN P.nN Q.dNc, .int .i64 P.rf, .int .i64 P.xt, .int .i64 P.ce] ∧ Below w.heap.size w wr) (fun q _ => P.nM - (intOf q).toNat)
  case atStart => exact ⟨0, _, _, Nat.zero_le _, rfl, q1, q2, Lib.hid (fun a h => absurd h (Nat.not_lt_zero _)), G, hB⟩
  case round =>
    clear q1 q2 G hB
    obtain ⟨j, M, N, hj, rfl, q1, q2, hM, G, hB⟩ := hrel
    by_cases hlt : j < P.nM
    · go_wp2_with fail
      go_loopw [28] (fun q wr => ∃ (i : Nat) (N : Nat → Int), i ≤ P.na ∧ q = .int .i64 i ∧ Own wr w.heap.size 2 1 (some ⟨g1, 0, none⟩) P.nM P.nM (nv M) ∧ Own wr w.heap.size 2 1 (some ⟨g1 + 1, 0, none⟩) P.na P.na (nv N) ∧ Hid (∀ a, a < i → N a = T a j) ∧ Blk wr w.heap.size 25 #[.string P.nm, .int .i64 P.em, .int .i64 P.fu, .slice Q.al P.na Q.alc, .slice Q.ma P.nM Q.mac, .slice Q.tC P.nC Q.tCc, .slice Q.tF P.nF Q.tFc, .slice Q.tR P.nR Q.tRc, .slice Q.dD P.nD Q.dDc, .slice Q.dI P.nI Q.dIc, .slice Q.dX P.nX Q.dXc, .slice Q.dN P.nN Q.dNc, .int .i64 P.rf, .int .i64 P.xt, .int .i64 P.ce] ∧ Below w.heap.size w wr) (fun q _ => P.na - (intOf q).toNat)
      case atStart => exact ⟨0, _, Nat.zero_le _, rfl, q1, q2, Lib.hid (fun a h => absurd h (Nat.not_lt_zero _)), G, hB⟩
      case round =>
        clear q1 q2 G hB N
        obtain ⟨i, N, hi, rfl, q1, q2, hN, G, hB⟩ := hrel
        by_cases hli : i < P.na
        · obtain ⟨b, off, X, cp, eA, hbl, y0, RX⟩ := (R.keep hB).at1 hli
          rw [HLN.out i hli] at y0 RX
          obtain ⟨b2, off2, eX, hbl2, y1⟩ := RX.at1 hlt
          have HA := Lib.hid eA
          rw [HA.out]
          subst eX
          clear eA RX
          have y2 := q2.cell1 hli
          have z2 := q2.frozen
          have gl := q2.lt1
          have i1 : (0 : Int) ≤ (j : Int) := by omega
          have i2 : (j : Int) < (P.nM : Int) := by omega
          have hgb : w.heap.size ≤ g1 + 1 := q2.base rfl
          have Q2 := Lib.hid (q2.up1 hli (T i j))
          have Q1 := Lib.hid (q1.far (p := ⟨g1 + 1, i, none⟩) (.inr (by simp [ob])) (.int .i64 (T i j)))
          have HN := Lib.hid (up_lt (F := fun a => T a j) hN.out)
          have G2 := Lib.hid (G.far (p := ⟨g1 + 1, i, none⟩) (by simp; omega) (.int .i64 (T i j)))
          have HB2 := Lib.hid (bst hB (p := ⟨g1 + 1, i, none⟩) hgb (.int .i64 (T i j)))
          clear q1 q2 G hB hN
          go_wp2_with fail
          go_roundw
          case rel => exact ⟨i + 1, _, by omega, by go_num, Q1.out, Q2.out, HN, G2.out, HB2.out⟩
          case measure => simp [intOf]; omega
        · have ei : i = P.na := by omega
          subst ei
          obtain ⟨d0, d1, d2, d3, d4, d5, d6, d7, d8, d9, d10, d11, d12, d13, d14, d15, d16⟩ := G.open15
          go_wp2_with fail
          refine (value_c _ _ _ _ _ _ (fun a => T a j) _ _ (H.keep hB).al ((q2.rd).congr (fun a f ha _ => by unfold nv; rw [hN.out a ha])) (by omega) (by omega) (fun a ha => by have := ALB.out a ha; omega) (fun a ha => by have := HT.out a j ha hlt; omega)).mono ?_
          rintro e w3 ⟨rfl, hb⟩
          clear d0 d1 d2 d3 d4 d5 d6 d7 d8 d9 d10 d11 d12 d13 d14 d15 d16
          have hV := HVW.out j hlt
          replace q1 := q1.keep hb
          replace q2 := q2.keep hb
          replace G := G.keep hb
          replace hB := bt hB hb
          clear hb
          have y1 := q1.cell1 hlt
          have z1 := q1.frozen
          have gl := q1.lt1
          have hgb : w.heap.size ≤ g1 := q1.base rfl
          have hne : w.heap.size ≠ g1 := by have := q2.base rfl; omega
          have Q1 := Lib.hid (q1.up1 hlt (Oz.vW P.na P.al (fun a => T a j) alt))
          have Q2 := Lib.hid (q2.far (p := ⟨g1, j, none⟩) (.inr (by simp [ob])) (.int .i64 (Oz.vW P.na P.al (fun a => T a j) alt)))
          have HM := Lib.hid (up_lt (F := fun a => Oz.vW P.na P.al (fun i => T i a) alt) hM.out)
          have G2 := Lib.hid (G.far (p := ⟨g1, j, none⟩) (by simp; omega) (.int .i64 (Oz.vW P.na P.al (fun a => T a j) alt)))
          have HB2 := Lib.hid (bst hB (p := ⟨g1, j, none⟩) hgb (.int .i64 (Oz.vW P.na P.al (fun a => T a j) alt)))
          clear q1 q2 G hB hN hM
          generalize Oz.vW P.na P.al (fun a => T a j) alt = v at *
          go_wp2_with fail
          go_roundw
          case rel => exact ⟨j + 1, _, _, by omega, by go_num, Q1.out, Q2.out, HM, G2.out, HB2.out⟩
          case measure => simp [intOf]; omega
    · have ej : j = P.nM := by omega
      subst ej
      obtain ⟨d0, d1, d2, d3, d4, d5, d6, d7, d8, d9, d10, d11, d12, d13, d14, d15, d16⟩ := G.open15
      go_wp2_with fail
      refine (value_c _ _ _ _ _ _ (fun a => Oz.vW P.na P.al (fun i => T i a) alt) _ _ (H.keep hB).ma ((q1.rd).congr (fun a f ha _ => by unfold nv; rw [hM.out a ha])) (by omega) (by omega) (fun a ha => by have := MAB.out a ha; omega) (fun a ha => by have := HVW.out a ha; omega)).mono ?_
      rintro e w3 ⟨rfl, hb⟩
      go_wp2_with fail
      go_returns
      exact ⟨rfl, bt hB hb⟩
end Go.Proofs.Ytoeklllahpegfaa
/-
  Contracts: performance.check, CruiseFlow.
-/
namespace Go.Proofs.Ytoeklllahpegfaa
set_option linter.unusedVariables false
set_option linter.unusedSimpArgs false
open Go.RowKit
attribute [local irreducible] World.setCell World.cell?

set_option maxRecDepth 100000 in
set_option maxHeartbeats 4000000 in
theorem pready_c (P : PD) (Q : PA) (alt mass : Int) (w : World) (H : PIn w P Q) (hp : Oz.pck P = 0) (ha : -200000 ≤ alt ∧ alt ≤ 6000000) (hm : 1 ≤ mass ∧ mass ≤ 3000000000) :
    Calls Try.prog 84 #[.agg #[.string P.nm, .int .i64 P.em, .int .i64 P.fu, .slice Q.al P.na Q.alc, .slice Q.ma P.nM Q.mac, .slice Q.tC P.nC Q.tCc, .slice Q.tF P.nF Q.tFc, .slice Q.tR P.nR Q.tRc, .slice Q.dD P.nD Q.dDc, .slice Q.dI P.nI Q.dIc, .slice Q.dX P.nX Q.dXc, .slice Q.dN P.nN Q.dNc, .int .i64 P.rf, .int .i64 P.xt, .int .i64 P.ce], .int .i64 alt, .int .i64 mass] w fun e w' => e = .returned (.int .i64 0) ∧ Below w.heap.size w w' := by
  have K1 := Lib.hid (Oz.inB_iff.2 ha)
  have K2 := Lib.hid (Oz.inB_iff.2 hm)
  have HP := Lib.hid hp
  clear hp ha hm
  go_enter Try.func84, Try.ntmps84
  have G := Blk.new w 25 #[.string P.nm, .int .i64 P.em, .int .i64 P.fu, .slice Q.al P.na Q.alc, .slice Q.ma P.nM Q.mac, .slice Q.tC P.nC Q.tCc, .slice Q.tF P.nF Q.tFc, .slice Q.tR P.nR Q.tRc, .slice Q.dD P.nD Q.dDc, .slice Q.dI P.nI Q.dIc, .slice Q.dX P.nX Q.dXc, .slice Q.dN P.nN Q.dNc, .int .i64 P.rf, .int .i64 P.xt, .int .i64 P.ce]
  have hB := ba w (.cells #[.string P.nm, .int .i64 P.em, .int .i64 P.fu, .slice Q.al P.na Q.alc, .slice Q.ma P.nM Q.mac, .slice Q.tC P.nC Q.tCc, .slice Q.tF P.nF Q.tFc, .slice Q.tR P.nR Q.tRc, .slice Q.dD P.nD Q.dDc, .slice Q.dI P.nI Q.dIc, .slice Q.dX P.nX Q.dXc, .slice Q.dN P.nN Q.dNc, .int .i64 P.rf, .int .i64 P.xt, .int .i64 P.ce] 25)
  go_upto_region 1 with fail
  generalize World.alloc w _ = w1 at G hB ⊢
  obtain ⟨d0, d1, d2, d3, d4, d5, d6, d7, d8, d9, d10, d11, d12, d13, d14, d15, d16⟩ := G.open15
  go_wp2_with fail
  refine (pcheck_c _ _ _ (H.keep hB)).mono ?_
  rw [HP.out]
  rintro e w2 ⟨rfl, hb⟩
  clear d0 d1 d2 d3 d4 d5 d6 d7 d8 d9 d10 d11 d12 d13 d14 d15 d16
  replace hB := bt hB hb
  go_wp2_with fail
  refine (pwithin_c _ _ _ _).mono ?_
  rw [K1.out]
  rintro e w3 ⟨rfl, rfl⟩
  go_wp2_with fail
  refine (pwithin_c _ _ _ _).mono ?_
  rw [K2.out]
  rintro e w3 ⟨rfl, rfl⟩
  go_wp2_with fail
  go_returns
  exact ⟨rfl, hB⟩
end Go.Proofs.Ytoeklllahpegfaa
/-
  Contracts: performance.CruiseFlow.
-/
namespace Go.Proofs.Ytoeklllahpegfaa
set_option linter.unusedVariables false
set_option linter.unusedSimpArgs false
open Go.RowKit
attribute [local irreducible] World.setCell World.cell?

/-- The number of the region, with its wraps. -/
theorem flow_num {P : PD} (O : Oz.POk P) {tas v : Int} (t1 : 0 ≤ tas) (t2 : tas ≤ 4000) (b1 : 0 ≤ v) (b2 : v ≤ 50000) :
    IntKind.i64.wrap ((IntKind.i64.wrap (v * IntKind.i64.wrap (1000 + IntKind.i64.wrap (P.xt * max (IntKind.i64.wrap (tas - P.rf)) 0)))).tdiv 1000) = v * Oz.xtr P tas / 1000 ∧ 0 ≤ v * Oz.xtr P tas / 1000 ∧ v * Oz.xtr P tas / 1000 ≤ 20050000000 := by
  have f := O.rf
  have e := O.xt
  have hx := Oz.xtr_bd O t2
  have x1 : IntKind.i64.wrap (tas - P.rf) = tas - P.rf := IntWalk.i64_in _ (by omega)
  have x2 : max (tas - P.rf) 0 = if P.rf < tas then tas - P.rf else 0 := by split <;> omega
  have x3 : 1000 + P.xt * max (tas - P.rf) 0 = Oz.xtr P tas := by rw [x2]; rfl
  have x4 : IntKind.i64.wrap (P.xt * max (tas - P.rf) 0) = P.xt * max (tas - P.rf) 0 := IntWalk.i64_in _ (by omega)
  have h0 : 0 ≤ v * Oz.xtr P tas := Int.mul_nonneg b1 (by omega)
  have h1 : v * Oz.xtr P tas ≤ 50000 * 401000 := Int.mul_le_mul b2 hx.2 (by omega) (by omega)
  rw [x1, x4, x3, IntWalk.i64_in (Oz.xtr P tas) (by omega), IntWalk.i64_in (v * Oz.xtr P tas) (by omega), IntWalk.i64_quo _ _ (by omega)]
  omega
set_option maxRecDepth 100000 in
set_option maxHeartbeats 4000000 in
theorem cruise_c (P : PD) (Q : PA) (alt mass tas : Int) (w : World) (H : PIn w P Q) (hp : Oz.pck P = 0) (ha : -200000 ≤ alt ∧ alt ≤ 6000000) (hm : 1 ≤ mass ∧ mass ≤ 3000000000) (ht : 0 ≤ tas ∧ tas ≤ 4000) :
    Calls Try.prog 75 #[.agg #[.string P.nm, .int .i64 P.em, .int .i64 P.fu, .slice Q.al P.na Q.alc, .slice Q.ma P.nM Q.mac, .slice Q.tC P.nC Q.tCc, .slice Q.tF P.nF Q.tFc, .slice Q.tR P.nR Q.tRc, .slice Q.dD P.nD Q.dDc, .slice Q.dI P.nI Q.dIc, .slice Q.dX P.nX Q.dXc, .slice Q.dN P.nN Q.dNc, .int .i64 P.rf, .int .i64 P.xt, .int .i64 P.ce], .int .i64 alt, .int .i64 mass, .int .i64 tas] w fun e w' => e = .returned (.tuple #[.int .i64 (Oz.flo P alt mass tas), .int .i64 0]) ∧ Below w.heap.size w w' := by
  have O := Oz.pck_ok hp
  have K1 := Lib.hid (Oz.inB_iff.2 ht)
  obtain ⟨t1, t2⟩ := ht
  obtain ⟨f1, f2⟩ := O.rf
  obtain ⟨e1, e2⟩ := O.xt
  obtain ⟨b1, b2⟩ := Oz.tabW_bd O alt mass
  have hx := Oz.xtr_bd O t2
  have KR := Lib.hid (fun wx (h : PIn wx P Q) => pready_c P Q alt mass wx h hp ha hm)
  have hlR := O.lR
  have hlR := O.lR
  have KT := Lib.hid (fun wx (h : PIn wx P Q) => table_c P Q Q.tR P.nR Q.tRc P.lR P.tR alt mass wx h h.tR O.nR O hlR O.tR ha hm)
  have HF : Hid (Oz.flo P alt mass tas = if 50000 < Oz.tabW P P.tR alt mass * Oz.xtr P tas / 1000 then 50000 else Oz.tabW P P.tR alt mass * Oz.xtr P tas / 1000) := Lib.hid rfl
  generalize Oz.tabW P P.tR alt mass = v at *
  have OO := O
  clear hp ha hm hlR O
  go_enter Try.func75, Try.ntmps75
  try simp only [List.append_eq, List.cons_append, List.nil_append]
  have G := Blk.new w 25 #[.string P.nm, .int .i64 P.em, .int .i64 P.fu, .slice Q.al P.na Q.alc, .slice Q.ma P.nM Q.mac, .slice Q.tC P.nC Q.tCc, .slice Q.tF P.nF Q.tFc, .slice Q.tR P.nR Q.tRc, .slice Q.dD P.nD Q.dDc, .slice Q.dI P.nI Q.dIc, .slice Q.dX P.nX Q.dXc, .slice Q.dN P.nN Q.dNc, .int .i64 P.rf, .int .i64 P.xt, .int .i64 P.ce]
  have hB := ba w (.cells #[.string P.nm, .int .i64 P.em, .int .i64 P.fu, .slice Q.al P.na Q.alc, .slice Q.ma P.nM Q.mac, .slice Q.tC P.nC Q.tCc, .slice Q.tF P.nF Q.tFc, .slice Q.tR P.nR Q.tRc, .slice Q.dD P.nD Q.dDc, .slice Q.dI P.nI Q.dIc, .slice Q.dX P.nX Q.dXc, .slice Q.dN P.nN Q.dNc, .int .i64 P.rf, .int .i64 P.xt, .int .i64 P.ce] 25)
  go_upto_region 1 with fail
  generalize World.alloc w _ = w1 at G hB ⊢
  obtain ⟨d0, d1, d2, d3, d4, d5, d6, d7, d8, d9, d10, d11, d12, d13, d14, d15, d16⟩ := G.open15
  go_wp2_with fail
  refine (KR.out _ (H.keep hB)).mono ?_
  rintro e w2 ⟨rfl, hb⟩
  clear d0 d1 d2 d3 d4 d5 d6 d7 d8 d9 d10 d11 d12 d13 d14 d15 d16
  replace hB := bt hB hb
  replace G := G.keep hb
  clear hb
  go_wp2_with fail
  refine (pwithin_c _ _ _ _).mono ?_
  rw [K1.out]
  rintro e w3 ⟨rfl, rfl⟩
  have KT2 : ∀ (wx : World) {Q' : Prop}, (Below w2.heap.size w2 wx ∧ Q') → Calls _ _ _ wx _ := fun wx _ h => KT.out wx (H.keep (bt hB h.1))
  have hreg : ∀ w', Below w2.heap.size w2 w' → Below w2.heap.size w2 w' ∧ w'.cell? ⟨w.heap.size, 0, none⟩ = some (.string P.nm) ∧ w'.cell? ⟨w.heap.size, 1, none⟩ = some (.int .i64 P.em) ∧ w'.cell? ⟨w.heap.size, 2, none⟩ = some (.int .i64 P.fu) ∧ w'.cell? ⟨w.heap.size, 3, none⟩ = some (.slice Q.al P.na Q.alc) ∧ w'.cell? ⟨w.heap.size, 4, none⟩ = some (.slice Q.ma P.nM Q.mac) ∧ w'.cell? ⟨w.heap.size, 5, none⟩ = some (.slice Q.tC P.nC Q.tCc) ∧ w'.cell? ⟨w.heap.size, 6, none⟩ = some (.slice Q.tF P.nF Q.tFc) ∧ w'.cell? ⟨w.heap.size, 7, none⟩ = some (.slice Q.tR P.nR Q.tRc) ∧ w'.cell? ⟨w.heap.size, 8, none⟩ = some (.slice Q.dD P.nD Q.dDc) ∧ w'.cell? ⟨w.heap.size, 9, none⟩ = some (.slice Q.dI P.nI Q.dIc) ∧ w'.cell? ⟨w.heap.size, 10, none⟩ = some (.slice Q.dX P.nX Q.dXc) ∧ w'.cell? ⟨w.heap.size, 11, none⟩ = some (.slice Q.dN P.nN Q.dNc) ∧ w'.cell? ⟨w.heap.size, 12, none⟩ = some (.int .i64 P.rf) ∧ w'.cell? ⟨w.heap.size, 13, none⟩ = some (.int .i64 P.xt) ∧ w'.cell? ⟨w.heap.size, 14, none⟩ = some (.int .i64 P.ce) :=
    fun w' h => have g := G.keep h; ⟨h, g.cell 0, g.cell 1, g.cell 2, g.cell 3, g.cell 4, g.cell 5, g.cell 6, g.cell 7, g.cell 8, g.cell 9, g.cell 10, g.cell 11, g.cell 12, g.cell 13, g.cell 14⟩
  obtain ⟨fn, n1, n2⟩ := flow_num OO (v := v) t1 t2 b1 b2
  have FN := Lib.hid fn
  clear fn
  generalize hr : v * Oz.xtr P tas / 1000 = r at *
  clear hr
  go_wp2_with fail
  have HM := Lib.hid (HF.out.trans (show (if 50000 < r then 50000 else r) = min r 50000 by split <;> omega))
  go_region_held3 (fun w' => Below w2.heap.size w2 w' ∧ w'.cell? ⟨w.heap.size, 0, none⟩ = some (.string P.nm) ∧ w'.cell? ⟨w.heap.size, 1, none⟩ = some (.int .i64 P.em) ∧ w'.cell? ⟨w.heap.size, 2, none⟩ = some (.int .i64 P.fu) ∧ w'.cell? ⟨w.heap.size, 3, none⟩ = some (.slice Q.al P.na Q.alc) ∧ w'.cell? ⟨w.heap.size, 4, none⟩ = some (.slice Q.ma P.nM Q.mac) ∧ w'.cell? ⟨w.heap.size, 5, none⟩ = some (.slice Q.tC P.nC Q.tCc) ∧ w'.cell? ⟨w.heap.size, 6, none⟩ = some (.slice Q.tF P.nF Q.tFc) ∧ w'.cell? ⟨w.heap.size, 7, none⟩ = some (.slice Q.tR P.nR Q.tRc) ∧ w'.cell? ⟨w.heap.size, 8, none⟩ = some (.slice Q.dD P.nD Q.dDc) ∧ w'.cell? ⟨w.heap.size, 9, none⟩ = some (.slice Q.dI P.nI Q.dIc) ∧ w'.cell? ⟨w.heap.size, 10, none⟩ = some (.slice Q.dX P.nX Q.dXc) ∧ w'.cell? ⟨w.heap.size, 11, none⟩ = some (.slice Q.dN P.nN Q.dNc) ∧ w'.cell? ⟨w.heap.size, 12, none⟩ = some (.int .i64 P.rf) ∧ w'.cell? ⟨w.heap.size, 13, none⟩ = some (.int .i64 P.xt) ∧ w'.cell? ⟨w.heap.size, 14, none⟩ = some (.int .i64 P.ce)) (first | exact hreg _ (Below.refl _ _).drew | exact keepR hreg hbn (by assumption) | assumption) (first | (go_at_call 85; refine (KT2 _ (by assumption)).mono ?_; rintro e wn ⟨rfl, hbn⟩))
  all_goals
    have hB3 := bt hB (bt (bdr (Below.refl _ _)) hbn)
    rw [FN.out]
    go_wp2_with fail
    go_returns
    refine ⟨?_, hB3⟩
    rw [HM.out]; rfl
end Go.Proofs.Ytoeklllahpegfaa
/-
  Contracts: optimize.cost.
-/
namespace Go.Proofs.Ytoeklllahpegfaa
set_option linter.unusedVariables false
set_option linter.unusedSimpArgs false
open Go.RowKit
attribute [local irreducible] World.setCell World.cell?

set_option maxRecDepth 100000 in
set_option maxHeartbeats 4000000 in
theorem cost_o (Z : ZD) (Y : ZA) (k j s : Nat) (w : World) (H : ZIn w Z Y) (hz : Oz.zck Z = 0) (hk : k < Z.nd) (hj : j < Z.nl) (hs : s < Z.ns) :
    Calls Try.prog 42 #[.agg #[.slice Y.ds Z.nd Y.dsc, .slice Y.lv Z.nl Y.lvc, .slice Y.sp Z.ns Y.spc, .slice Y.tl Z.nt Y.tlc, .slice Y.ms Z.nm Y.msc, .string Z.P.nm, .int .i64 Z.P.em, .int .i64 Z.P.fu, .slice Y.Q.al Z.P.na Y.Q.alc, .slice Y.Q.ma Z.P.nM Y.Q.mac, .slice Y.Q.tC Z.P.nC Y.Q.tCc, .slice Y.Q.tF Z.P.nF Y.Q.tFc, .slice Y.Q.tR Z.P.nR Y.Q.tRc, .slice Y.Q.dD Z.P.nD Y.Q.dDc, .slice Y.Q.dI Z.P.nI Y.Q.dIc, .slice Y.Q.dX Z.P.nX Y.Q.dXc, .slice Y.Q.dN Z.P.nN Y.Q.dNc, .int .i64 Z.P.rf, .int .i64 Z.P.xt, .int .i64 Z.P.ce, .int .i64 Z.ix, .int .i64 Z.cc, .int .i64 Z.fi, .int .i64 Z.la], .int .i64 (k : Int), .agg #[.int .i64 (j : Int), .int .i64 (s : Int)]] w fun e w' => e = .returned (.tuple #[.int .i64 (Oz.coV Z k j s), .int .i64 (Oz.coE Z k j s)]) ∧ Below w.heap.size w w' := by
  have O := Oz.zck_ok hz
  have hk2 : k < Z.nm := by have := O.nm; omega
  have hk3 : k < Z.nt := by have := O.nt; omega
  have s1 := O.sp s hs
  have s2 := O.tl k j hk hj
  have s3 := O.ds k hk
  have s4 := O.ix
  have KC := Lib.hid (fun wx (h : PIn wx Z.P Y.Q) => cruise_c Z.P Y.Q (Z.lv j) (Z.ms k) (Z.sp s) wx h O.pk (O.lv j hj) (O.ms k hk) (by omega))
  have HLT := Lib.hid (O.lt k hk)
  have HB1 := Lib.hid (fun q => Oz.tk_bd (j := j) (s := s) O hk q)
  have HB2 := Lib.hid (fun q => Oz.cs_bd (j := j) O hk hs q)
  have HB3 := Lib.hid (Oz.flo_bd (Oz.pck_ok O.pk) (Z.lv j) (Z.ms k) (tas := Z.sp s) (by omega))
  clear O
  go_enter Try.func42, Try.ntmps42
  try simp only [List.append_eq, List.cons_append, List.nil_append]
  have G := (Blk.new w 27 #[.slice Y.ds Z.nd Y.dsc, .slice Y.lv Z.nl Y.lvc, .slice Y.sp Z.ns Y.spc, .slice Y.tl Z.nt Y.tlc, .slice Y.ms Z.nm Y.msc, .string Z.P.nm, .int .i64 Z.P.em, .int .i64 Z.P.fu, .slice Y.Q.al Z.P.na Y.Q.alc, .slice Y.Q.ma Z.P.nM Y.Q.mac, .slice Y.Q.tC Z.P.nC Y.Q.tCc, .slice Y.Q.tF Z.P.nF Y.Q.tFc, .slice Y.Q.tR Z.P.nR Y.Q.tRc, .slice Y.Q.dD Z.P.nD Y.Q.dDc, .slice Y.Q.dI Z.P.nI Y.Q.dIc, .slice Y.Q.dX Z.P.nX Y.Q.dXc, .slice Y.Q.dN Z.P.nN Y.Q.dNc, .int .i64 Z.P.rf, .int .i64 Z.P.xt, .int .i64 Z.P.ce, .int .i64 Z.ix, .int .i64 Z.cc, .int .i64 Z.fi, .int .i64 Z.la]).alloc (.cells #[.int .i64 (j : Int), .int .i64 (s : Int)] 35)
  have C := Blk.new1 w (.cells #[.slice Y.ds Z.nd Y.dsc, .slice Y.lv Z.nl Y.lvc, .slice Y.sp Z.ns Y.spc, .slice Y.tl Z.nt Y.tlc, .slice Y.ms Z.nm Y.msc, .string Z.P.nm, .int .i64 Z.P.em, .int .i64 Z.P.fu, .slice Y.Q.al Z.P.na Y.Q.alc, .slice Y.Q.ma Z.P.nM Y.Q.mac, .slice Y.Q.tC Z.P.nC Y.Q.tCc, .slice Y.Q.tF Z.P.nF Y.Q.tFc, .slice Y.Q.tR Z.P.nR Y.Q.tRc, .slice Y.Q.dD Z.P.nD Y.Q.dDc, .slice Y.Q.dI Z.P.nI Y.Q.dIc, .slice Y.Q.dX Z.P.nX Y.Q.dXc, .slice Y.Q.dN Z.P.nN Y.Q.dNc, .int .i64 Z.P.rf, .int .i64 Z.P.xt, .int .i64 Z.P.ce, .int .i64 Z.ix, .int .i64 Z.cc, .int .i64 Z.fi, .int .i64 Z.la] 27) 35 #[.int .i64 (j : Int), .int .i64 (s : Int)]
  have hB := bal (ba w (.cells #[.slice Y.ds Z.nd Y.dsc, .slice Y.lv Z.nl Y.lvc, .slice Y.sp Z.ns Y.spc, .slice Y.tl Z.nt Y.tlc, .slice Y.ms Z.nm Y.msc, .string Z.P.nm, .int .i64 Z.P.em, .int .i64 Z.P.fu, .slice Y.Q.al Z.P.na Y.Q.alc, .slice Y.Q.ma Z.P.nM Y.Q.mac, .slice Y.Q.tC Z.P.nC Y.Q.tCc, .slice Y.Q.tF Z.P.nF Y.Q.tFc, .slice Y.Q.tR Z.P.nR Y.Q.tRc, .slice Y.Q.dD Z.P.nD Y.Q.dDc, .slice Y.Q.dI Z.P.nI Y.Q.dIc, .slice Y.Q.dX Z.P.nX Y.Q.dXc, .slice Y.Q.dN Z.P.nN Y.Q.dNc, .int .i64 Z.P.rf, .int .i64 Z.P.xt, .int .i64 Z.P.ce, .int .i64 Z.ix, .int .i64 Z.cc, .int .i64 Z.fi, .int .i64 Z.la] 27)) (.cells #[.int .i64 (j : Int), .int .i64 (s : Int)] 35)
  go_upto_region 1 with fail
  generalize World.alloc (World.alloc w _) _ = w1 at G C hB ⊢
  replace H := H.keep hB
  obtain ⟨b1, f1, e1, l1, y1⟩ := H.ds.at1 hk
  obtain ⟨b2, f2, e2, l2, y2⟩ := H.lv.at1 hj
  obtain ⟨b3, f3, e3, l3, y3⟩ := H.sp.at1 hs
  obtain ⟨b4, f4, e4, l4, y4⟩ := H.ms.at1 hk2
  obtain ⟨b5, f5, X, cp, e5, l5, y5, RX⟩ := H.tl.at1 hk3
  rw [HLT.out] at y5 RX
  obtain ⟨b6, f6, e6, l6, y6⟩ := RX.at1 hj
  subst e6
  rw [e1, e2, e3, e4, e5] at G ⊢
  have i1 : (0 : Int) ≤ (k : Int) := by omega
  have i2 : (k : Int) < (Z.nd : Int) := by omega
  have i3 : (k : Int) < (Z.nm : Int) := by omega
  have i4 : (k : Int) < (Z.nt : Int) := by omega
  have j1 : (0 : Int) ≤ (j : Int) := by omega
  have j2 : (j : Int) < (Z.nl : Int) := by omega
  have m1 : (0 : Int) ≤ (s : Int) := by omega
  have m2 : (s : Int) < (Z.ns : Int) := by omega
  have H0 := H
  have HP := H.P
  clear H H0 RX e1 e2 e3 e4 e5 hk hk2 hk3 hj hs HLT hz
  obtain ⟨d0, d1, d2, d3, d4, d5, d6, d7, d8, d9, d10, d11, d12, d13, d14, d15, d16, d17, d18, d19, d20, d21, d22, d23, d24, d25⟩ := G.open24
  obtain ⟨c0, c1, c2, c3⟩ := C.open2
  go_wp2_with fail
  go_quiet (fail)
  have hB1 := bdnl hB ‹Nat›
  have G1 := G.drewN ‹Nat›
  have C1 := C.drewN ‹Nat›
  cases q : Oz.okc Z k j s
  · have E1 := Lib.hid (Oz.coE_f q).1
    have E2 := Lib.hid (Oz.coE_f q).2
    have q1 : Z.sp s + Z.tl k j < 1 := by have := of_decide_eq_false q; unfold Oz.gr at this; omega
    go_wp2_with fail
    go_returns
    refine ⟨?_, hB1⟩
    rw [E1.out, E2.out]; rfl
  have E1 := Lib.hid (Oz.coE_t q).1
  have E2 := Lib.hid (Oz.coE_t q).2
  have q1 : 1 ≤ Z.sp s + Z.tl k j := of_decide_eq_true q
  have q2 : ¬ Z.sp s + Z.tl k j < 1 := by omega
  obtain ⟨t1, t2⟩ := HB1.out q
  have hcs := HB2.out q
  unfold Oz.cs at hcs
  have HE : Hid (Oz.cs Z k j s = Oz.tk Z k j s * (Oz.flo Z.P (Z.lv j) (Z.ms k) (Z.sp s) + Z.ix)) := Lib.hid rfl
  replace E2 := Lib.hid (E2.out.trans HE.out)
  have TK : (Z.ds k + (Z.sp s + Z.tl k j) - 1) / (Z.sp s + Z.tl k j) = Oz.tk Z k j s := rfl
  have TQ : IntKind.i64.wrap ((Z.ds k + (Z.sp s + Z.tl k j) - 1).tdiv (Z.sp s + Z.tl k j)) = Oz.tk Z k j s := by rw [IntWalk.i64_quo _ _ (by omega), TK]
  generalize Oz.tk Z k j s = tk at *
  have hf := HB3.out
  generalize Oz.flo Z.P (Z.lv j) (Z.ms k) (Z.sp s) = fl at *
  clear q HB1 HB2 HB3 HE
  go_upto_region 6 with fail
  clear d0 d1 d2 d3 d4 d5 d6 d7 d8 d9 d10 d11 d12 d13 d14 d15 d16 d17 d18 d19 d20 d21 d22 d23 d24 d25 c0 c1 c2 c3
  try simp only [TK, TQ]
  clear y1 y3 y5 y6
  replace y2 := ((bcell (bdn w1 ‹Nat›)).1 _ _ l2).trans y2
  replace y4 := ((bcell (bdn w1 ‹Nat›)).1 _ _ l4).trans y4
  replace l2 : b2 < (w1.drewN ‹Nat›).heap.size := l2
  replace l4 : b4 < (w1.drewN ‹Nat›).heap.size := l4
  replace HP := HP.keep (bdn _ ‹Nat›)
  generalize w1.drewN _ = W0 at *
  have KT2 : ∀ (wx : World) {Q' : Prop}, (Below W0.heap.size W0 wx ∧ Q') → Calls _ _ _ wx _ := fun wx _ h => KC.out wx (HP.keep h.1)
  have hreg : ∀ w', Below W0.heap.size W0 w' → Below W0.heap.size W0 w' ∧ w'.cell? ⟨w.heap.size, 1, none⟩ = some (.slice (some ⟨b2, f2, none⟩) Z.nl Y.lvc) ∧ w'.cell? ⟨w.heap.size, 4, none⟩ = some (.slice (some ⟨b4, f4, none⟩) Z.nm Y.msc) ∧ w'.cell? ⟨w.heap.size, 5, none⟩ = some (.string Z.P.nm) ∧ w'.cell? ⟨w.heap.size, 6, none⟩ = some (.int .i64 Z.P.em) ∧ w'.cell? ⟨w.heap.size, 7, none⟩ = some (.int .i64 Z.P.fu) ∧ w'.cell? ⟨w.heap.size, 8, none⟩ = some (.slice Y.Q.al Z.P.na Y.Q.alc) ∧ w'.cell? ⟨w.heap.size, 9, none⟩ = some (.slice Y.Q.ma Z.P.nM Y.Q.mac) ∧ w'.cell? ⟨w.heap.size, 10, none⟩ = some (.slice Y.Q.tC Z.P.nC Y.Q.tCc) ∧ w'.cell? ⟨w.heap.size, 11, none⟩ = some (.slice Y.Q.tF Z.P.nF Y.Q.tFc) ∧ w'.cell? ⟨w.heap.size, 12, none⟩ = some (.slice Y.Q.tR Z.P.nR Y.Q.tRc) ∧ w'.cell? ⟨w.heap.size, 13, none⟩ = some (.slice Y.Q.dD Z.P.nD Y.Q.dDc) ∧ w'.cell? ⟨w.heap.size, 14, none⟩ = some (.slice Y.Q.dI Z.P.nI Y.Q.dIc) ∧ w'.cell? ⟨w.heap.size, 15, none⟩ = some (.slice Y.Q.dX Z.P.nX Y.Q.dXc) ∧ w'.cell? ⟨w.heap.size, 16, none⟩ = some (.slice Y.Q.dN Z.P.nN Y.Q.dNc) ∧ w'.cell? ⟨w.heap.size, 17, none⟩ = some (.int .i64 Z.P.rf) ∧ w'.cell? ⟨w.heap.size, 18, none⟩ = some (.int .i64 Z.P.xt) ∧ w'.cell? ⟨w.heap.size, 19, none⟩ = some (.int .i64 Z.P.ce) ∧ w'.cell? ⟨w.heap.size + 1, 0, none⟩ = some (.int .i64 (j : Int)) ∧ w'.cell? ⟨b2, f2 + j, none⟩ = some (.int .i64 (Z.lv j)) ∧ w'.cell? ⟨b4, f4 + k, none⟩ = some (.int .i64 (Z.ms k)) := fun w' h => have g := G1.keep h; ⟨h, g.cell 1, g.cell 4, g.cell 5, g.cell 6, g.cell 7, g.cell 8, g.cell 9, g.cell 10, g.cell 11, g.cell 12, g.cell 13, g.cell 14, g.cell 15, g.cell 16, g.cell 17, g.cell 18, g.cell 19, (C1.keep h).cell 0, ((bcell h).1 _ _ l2).trans y2, ((bcell h).1 _ _ l4).trans y4⟩
  go_region_held3 (fun w' => Below W0.heap.size W0 w' ∧ w'.cell? ⟨w.heap.size, 1, none⟩ = some (.slice (some ⟨b2, f2, none⟩) Z.nl Y.lvc) ∧ w'.cell? ⟨w.heap.size, 4, none⟩ = some (.slice (some ⟨b4, f4, none⟩) Z.nm Y.msc) ∧ w'.cell? ⟨w.heap.size, 5, none⟩ = some (.string Z.P.nm) ∧ w'.cell? ⟨w.heap.size, 6, none⟩ = some (.int .i64 Z.P.em) ∧ w'.cell? ⟨w.heap.size, 7, none⟩ = some (.int .i64 Z.P.fu) ∧ w'.cell? ⟨w.heap.size, 8, none⟩ = some (.slice Y.Q.al Z.P.na Y.Q.alc) ∧ w'.cell? ⟨w.heap.size, 9, none⟩ = some (.slice Y.Q.ma Z.P.nM Y.Q.mac) ∧ w'.cell? ⟨w.heap.size, 10, none⟩ = some (.slice Y.Q.tC Z.P.nC Y.Q.tCc) ∧ w'.cell? ⟨w.heap.size, 11, none⟩ = some (.slice Y.Q.tF Z.P.nF Y.Q.tFc) ∧ w'.cell? ⟨w.heap.size, 12, none⟩ = some (.slice Y.Q.tR Z.P.nR Y.Q.tRc) ∧ w'.cell? ⟨w.heap.size, 13, none⟩ = some (.slice Y.Q.dD Z.P.nD Y.Q.dDc) ∧ w'.cell? ⟨w.heap.size, 14, none⟩ = some (.slice Y.Q.dI Z.P.nI Y.Q.dIc) ∧ w'.cell? ⟨w.heap.size, 15, none⟩ = some (.slice Y.Q.dX Z.P.nX Y.Q.dXc) ∧ w'.cell? ⟨w.heap.size, 16, none⟩ = some (.slice Y.Q.dN Z.P.nN Y.Q.dNc) ∧ w'.cell? ⟨w.heap.size, 17, none⟩ = some (.int .i64 Z.P.rf) ∧ w'.cell? ⟨w.heap.size, 18, none⟩ = some (.int .i64 Z.P.xt) ∧ w'.cell? ⟨w.heap.size, 19, none⟩ = some (.int .i64 Z.P.ce) ∧ w'.cell? ⟨w.heap.size + 1, 0, none⟩ = some (.int .i64 (j : Int)) ∧ w'.cell? ⟨b2, f2 + j, none⟩ = some (.int .i64 (Z.lv j)) ∧ w'.cell? ⟨b4, f4 + k, none⟩ = some (.int .i64 (Z.ms k))) (first | exact hreg _ (Below.refl _ _).drew | exact keepR hreg hbn (by assumption) | assumption) (first | (go_at_call 75; refine (KT2 _ (by assumption)).mono ?_; rintro e wn ⟨rfl, hbn⟩))
  all_goals
    have G2 := (G1.keep ‹Below W0.heap.size W0 wn ∧ _›.1)
    have hB3 := bt hB1 ‹Below W0.heap.size W0 wn ∧ _›.1
    obtain ⟨d0, d1, d2, d3, d4, d5, d6, d7, d8, d9, d10, d11, d12, d13, d14, d15, d16, d17, d18, d19, d20, d21, d22, d23, d24, d25⟩ := G2.open24
    go_wp2_with fail
    go_returns
    refine ⟨?_, hB3⟩
    rw [E1.out, E2.out]; rfl
end Go.Proofs.Ytoeklllahpegfaa
