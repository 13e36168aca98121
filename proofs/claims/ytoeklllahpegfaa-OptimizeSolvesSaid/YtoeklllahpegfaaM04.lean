/-
  Words and contracts, put together: O7, O9, O8p.
-/
import Derived.Test.YtoeklllahpegfaaM01
import Derived.Test.YtoeklllahpegfaaM03
/-
  Contracts: performance.Check.
-/
namespace Go.Proofs.Ytoeklllahpegfaa
set_option linter.unusedVariables false
set_option linter.unusedSimpArgs false
open Go.RowKit
attribute [local irreducible] World.setCell World.cell?

set_option maxRecDepth 100000 in
set_option maxHeartbeats 16000000 in
theorem pcheck_c (P : PD) (Q : PA) (w : World) (H : PIn w P Q) : Calls Try.prog 36 #[.agg #[.string P.nm, .int .i64 P.em, .int .i64 P.fu, .slice Q.al P.na Q.alc, .slice Q.ma P.nM Q.mac, .slice Q.tC P.nC Q.tCc, .slice Q.tF P.nF Q.tFc, .slice Q.tR P.nR Q.tRc, .slice Q.dD P.nD Q.dDc, .slice Q.dI P.nI Q.dIc, .slice Q.dX P.nX Q.dXc, .slice Q.dN P.nN Q.dNc, .int .i64 P.rf, .int .i64 P.xt, .int .i64 P.ce]] w fun e w' => e = .returned (.int .i64 (Oz.pck P)) ∧ Below w.heap.size w w' := by
  have x1 := H.al.le
  have x2 := H.al.mx
  go_enter Try.func36, Try.ntmps36
  go_wp2_with fail
  have G := Blk.new w 25 #[.string P.nm, .int .i64 P.em, .int .i64 P.fu, .slice Q.al P.na Q.alc, .slice Q.ma P.nM Q.mac, .slice Q.tC P.nC Q.tCc, .slice Q.tF P.nF Q.tFc, .slice Q.tR P.nR Q.tRc, .slice Q.dD P.nD Q.dDc, .slice Q.dI P.nI Q.dIc, .slice Q.dX P.nX Q.dXc, .slice Q.dN P.nN Q.dNc, .int .i64 P.rf, .int .i64 P.xt, .int .i64 P.ce]
  have hB := ba w (.cells #[.string P.nm, .int .i64 P.em, .int .i64 P.fu, .slice Q.al P.na Q.alc, .slice Q.ma P.nM Q.mac, .slice Q.tC P.nC Q.tCc, .slice Q.tF P.nF Q.tFc, .slice Q.tR P.nR Q.tRc, .slice Q.dD P.nD Q.dDc, .slice Q.dI P.nI Q.dIc, .slice Q.dX P.nX Q.dXc, .slice Q.dN P.nN Q.dNc, .int .i64 P.rf, .int .i64 P.xt, .int .i64 P.ce] 25)
  replace H := H.keep hB
  have K := Lib.hid (show Oz.pck P = Oz.fst [(Oz.nmB P.nm 8, 5), (Oz.inB P.em 1 3000000000, 2), (Oz.inB P.fu 1 (3000000000 - P.em), 2), (decide (2 ≤ P.na), 3), (decide (P.na ≤ 12), 3), (decide (2 ≤ P.nM), 3), (decide (P.nM ≤ 6), 3), ((Oz.shT P.nC P.lC P.nM && decide (P.nC = P.na)), 1), ((Oz.shT P.nF P.lF P.nM && decide (P.nF = P.na)), 1), ((Oz.shT P.nR P.lR P.nM && decide (P.nR = P.na)), 1), (decide (P.nD = P.na), 1), (decide (P.nI = P.na), 1), (decide (P.nX = P.na), 1), (decide (P.nN = P.nM), 1), (Oz.asB P.na P.al, 9), (Oz.asB P.nM P.ma, 9), (Oz.alB P.na P.al (-200000) 6000000, 2), (Oz.inB P.ce (-200000) 6000000, 2), (Oz.alB P.nM P.ma 1 3000000000, 2), (Oz.alT P.nC P.lC P.tC 0 10000, 2), (Oz.alB P.nD P.dD 1 10000, 2), (Oz.alT P.nF P.lF P.tF 0 50000, 2), (Oz.alT P.nR P.lR P.tR 0 50000, 2), (Oz.alB P.nI P.dI 0 50000, 2), (Oz.alB P.nX P.dX 1 1000, 2), (Oz.alB P.nN P.dN 1 1000, 2), (Oz.inB P.rf 1 1000, 2), (Oz.inB P.xt 0 100, 2), (Oz.grid (Oz.upN P.tC) P.nC P.nM, 11), (Oz.grid (Oz.ge P.al P.tC) P.na P.nM, 11), (Oz.grid (Oz.up1 P.tF) P.nF P.nM, 11), (Oz.grid (Oz.up1 P.tR) P.nR P.nM, 11), (Oz.lvB P.nD P.dD, 11), (Oz.faB P.nI P.dI, 11), (Oz.faB P.nX P.dX, 11), (Oz.lvB P.nN P.dN, 11)] from rfl)
  go_quiet (fail)
  have hB0 := bdnl hB ‹Nat›
  replace H := H.keep (bdn _ ‹Nat›)
  replace G := G.drewN ‹Nat›
  replace hB := hB0
  clear hB0
  obtain ⟨d0, d1, d2, d3, d4, d5, d6, d7, d8, d9, d10, d11, d12, d13, d14, d15, d16⟩ := G.open15
  go_wp2_with fail
  refine (name_c _ _ _ H.nm).mono ?_
  cases q : (Oz.nmB P.nm 8)
  · have HE := Lib.hid (K.out.trans (Oz.fst_f q))
    clear q
    rintro e w_ ⟨rfl, rfl⟩
    go_wp2_with fail
    go_returns
    refine ⟨?_, hB⟩
    rw [HE.out]; rfl
  have t1 := Lib.hid q
  replace K := Lib.hid (K.out.trans (Oz.fst_t q))
  clear q
  rintro e w_ ⟨rfl, rfl⟩
  go_wp2_with fail
  refine (pwithin_c _ _ _ _).mono ?_
  cases q : (Oz.inB P.em 1 3000000000)
  · have HE := Lib.hid (K.out.trans (Oz.fst_f q))
    clear q
    rintro e w_ ⟨rfl, rfl⟩
    go_wp2_with fail
    go_returns
    refine ⟨?_, hB⟩
    rw [HE.out]; rfl
  have t2 := Lib.hid q
  replace K := Lib.hid (K.out.trans (Oz.fst_t q))
  clear q
  rintro e w_ ⟨rfl, rfl⟩
  obtain ⟨em1, em2⟩ := Oz.inB_iff.1 t2.out
  go_wp2_with fail
  refine (pwithin_c _ _ _ _).mono ?_
  cases q : (Oz.inB P.fu 1 (3000000000 - P.em))
  · have HE := Lib.hid (K.out.trans (Oz.fst_f q))
    clear q
    rintro e w_ ⟨rfl, rfl⟩
    go_wp2_with fail
    go_returns
    refine ⟨?_, hB⟩
    rw [HE.out]; rfl
  have t3 := Lib.hid q
  replace K := Lib.hid (K.out.trans (Oz.fst_t q))
  clear q
  rintro e w_ ⟨rfl, rfl⟩
  by_cases q : (P.na : Int) < 2
  · have HE := Lib.hid (K.out.trans (Oz.fst_f (decide_eq_false (by omega))))
    have qn : P.na < 2 := by omega
    go_wp2_with fail
    go_returns
    refine ⟨?_, hB⟩
    rw [HE.out]; rfl
  have qnt4 : ¬ P.na < 2 := by omega
  have t4 := Lib.hid (show (decide (2 ≤ P.na)) = true from decide_eq_true (by omega))
  replace K := Lib.hid (K.out.trans (Oz.fst_t t4.out))
  have qt4 := q
  clear q
  by_cases q : (12 : Int) < (P.na : Int)
  · have HE := Lib.hid (K.out.trans (Oz.fst_f (decide_eq_false (by omega))))
    have qn : 12 < P.na := by omega
    go_wp2_with fail
    go_returns
    refine ⟨?_, hB⟩
    rw [HE.out]; rfl
  have qnt5 : ¬ 12 < P.na := by omega
  have t5 := Lib.hid (show (decide (P.na ≤ 12)) = true from decide_eq_true (by omega))
  replace K := Lib.hid (K.out.trans (Oz.fst_t t5.out))
  have qt5 := q
  clear q
  by_cases q : (P.nM : Int) < 2
  · have HE := Lib.hid (K.out.trans (Oz.fst_f (decide_eq_false (by omega))))
    have qn : P.nM < 2 := by omega
    go_wp2_with fail
    go_returns
    refine ⟨?_, hB⟩
    rw [HE.out]; rfl
  have qnt6 : ¬ P.nM < 2 := by omega
  have t6 := Lib.hid (show (decide (2 ≤ P.nM)) = true from decide_eq_true (by omega))
  replace K := Lib.hid (K.out.trans (Oz.fst_t t6.out))
  have qt6 := q
  clear q
  by_cases q : (6 : Int) < (P.nM : Int)
  · have HE := Lib.hid (K.out.trans (Oz.fst_f (decide_eq_false (by omega))))
    have qn : 6 < P.nM := by omega
    go_wp2_with fail
    go_returns
    refine ⟨?_, hB⟩
    rw [HE.out]; rfl
  have qnt7 : ¬ 6 < P.nM := by omega
  have t7 := Lib.hid (show (decide (P.nM ≤ 6)) = true from decide_eq_true (by omega))
  replace K := Lib.hid (K.out.trans (Oz.fst_t t7.out))
  have qt7 := q
  clear q
  go_wp2_with fail
  refine (pshaped_c P Q _ _ _ _ _ _ H.tC).mono ?_
  cases q : ((Oz.shT P.nC P.lC P.nM && decide (P.nC = P.na)))
  · have HE := Lib.hid (K.out.trans (Oz.fst_f q))
    clear q
    rintro e w8 ⟨rfl, h8⟩
    replace H := H.keep h8
    replace G := G.keep h8
    replace hB := bt hB h8
    clear d0 d1 d2 d3 d4 d5 d6 d7 d8 d9 d10 d11 d12 d13 d14 d15 d16
    obtain ⟨d0, d1, d2, d3, d4, d5, d6, d7, d8, d9, d10, d11, d12, d13, d14, d15, d16⟩ := G.open15
    go_wp2_with fail
    go_returns
    refine ⟨?_, hB⟩
    rw [HE.out]; rfl
  have t8 := Lib.hid q
  replace K := Lib.hid (K.out.trans (Oz.fst_t q))
  clear q
  rintro e w8 ⟨rfl, h8⟩
  replace H := H.keep h8
  replace G := G.keep h8
  replace hB := bt hB h8
  clear d0 d1 d2 d3 d4 d5 d6 d7 d8 d9 d10 d11 d12 d13 d14 d15 d16
  obtain ⟨d0, d1, d2, d3, d4, d5, d6, d7, d8, d9, d10, d11, d12, d13, d14, d15, d16⟩ := G.open15
  go_wp2_with fail
  refine (pshaped_c P Q _ _ _ _ _ _ H.tF).mono ?_
  cases q : ((Oz.shT P.nF P.lF P.nM && decide (P.nF = P.na)))
  · have HE := Lib.hid (K.out.trans (Oz.fst_f q))
    clear q
    rintro e w9 ⟨rfl, h9⟩
    replace H := H.keep h9
    replace G := G.keep h9
    replace hB := bt hB h9
    clear d0 d1 d2 d3 d4 d5 d6 d7 d8 d9 d10 d11 d12 d13 d14 d15 d16
    obtain ⟨d0, d1, d2, d3, d4, d5, d6, d7, d8, d9, d10, d11, d12, d13, d14, d15, d16⟩ := G.open15
    go_wp2_with fail
    go_returns
    refine ⟨?_, hB⟩
    rw [HE.out]; rfl
  have t9 := Lib.hid q
  replace K := Lib.hid (K.out.trans (Oz.fst_t q))
  clear q
  rintro e w9 ⟨rfl, h9⟩
  replace H := H.keep h9
  replace G := G.keep h9
  replace hB := bt hB h9
  clear d0 d1 d2 d3 d4 d5 d6 d7 d8 d9 d10 d11 d12 d13 d14 d15 d16
  obtain ⟨d0, d1, d2, d3, d4, d5, d6, d7, d8, d9, d10, d11, d12, d13, d14, d15, d16⟩ := G.open15
  go_wp2_with fail
  refine (pshaped_c P Q _ _ _ _ _ _ H.tR).mono ?_
  cases q : ((Oz.shT P.nR P.lR P.nM && decide (P.nR = P.na)))
  · have HE := Lib.hid (K.out.trans (Oz.fst_f q))
    clear q
    rintro e w10 ⟨rfl, h10⟩
    replace H := H.keep h10
    replace G := G.keep h10
    replace hB := bt hB h10
    clear d0 d1 d2 d3 d4 d5 d6 d7 d8 d9 d10 d11 d12 d13 d14 d15 d16
    obtain ⟨d0, d1, d2, d3, d4, d5, d6, d7, d8, d9, d10, d11, d12, d13, d14, d15, d16⟩ := G.open15
    go_wp2_with fail
    go_returns
    refine ⟨?_, hB⟩
    rw [HE.out]; rfl
  have t10 := Lib.hid q
  replace K := Lib.hid (K.out.trans (Oz.fst_t q))
  clear q
  rintro e w10 ⟨rfl, h10⟩
  replace H := H.keep h10
  replace G := G.keep h10
  replace hB := bt hB h10
  clear d0 d1 d2 d3 d4 d5 d6 d7 d8 d9 d10 d11 d12 d13 d14 d15 d16
  obtain ⟨d0, d1, d2, d3, d4, d5, d6, d7, d8, d9, d10, d11, d12, d13, d14, d15, d16⟩ := G.open15
  by_cases q : P.nD = P.na
  rotate_left
  · have HE := Lib.hid (K.out.trans (Oz.fst_f (decide_eq_false q)))
    have g1 : ((P.nD : Int) != (P.na : Int)) = true := by simp; omega
    clear q
    go_wp2_with fail
    go_returns
    refine ⟨?_, hB⟩
    rw [HE.out]; rfl
  have t11 := Lib.hid (show (decide (P.nD = P.na)) = true from decide_eq_true q)
  replace K := Lib.hid (K.out.trans (Oz.fst_t t11.out))
  have gt11 : ((P.nD : Int) != (P.na : Int)) = false := by simp; omega
  clear q
  by_cases q : P.nI = P.na
  rotate_left
  · have HE := Lib.hid (K.out.trans (Oz.fst_f (decide_eq_false q)))
    have g1 : ((P.nI : Int) != (P.na : Int)) = true := by simp; omega
    clear q
    go_wp2_with fail
    go_returns
    refine ⟨?_, hB⟩
    rw [HE.out]; rfl
  have t12 := Lib.hid (show (decide (P.nI = P.na)) = true from decide_eq_true q)
  replace K := Lib.hid (K.out.trans (Oz.fst_t t12.out))
  have gt12 : ((P.nI : Int) != (P.na : Int)) = false := by simp; omega
  clear q
  by_cases q : P.nX = P.na
  rotate_left
  · have HE := Lib.hid (K.out.trans (Oz.fst_f (decide_eq_false q)))
    have g1 : ((P.nX : Int) != (P.na : Int)) = true := by simp; omega
    clear q
    go_wp2_with fail
    go_returns
    refine ⟨?_, hB⟩
    rw [HE.out]; rfl
  have t13 := Lib.hid (show (decide (P.nX = P.na)) = true from decide_eq_true q)
  replace K := Lib.hid (K.out.trans (Oz.fst_t t13.out))
  have gt13 : ((P.nX : Int) != (P.na : Int)) = false := by simp; omega
  clear q
  by_cases q : P.nN = P.nM
  rotate_left
  · have HE := Lib.hid (K.out.trans (Oz.fst_f (decide_eq_false q)))
    have g1 : ((P.nN : Int) != (P.nM : Int)) = true := by simp; omega
    clear q
    go_wp2_with fail
    go_returns
    refine ⟨?_, hB⟩
    rw [HE.out]; rfl
  have t14 := Lib.hid (show (decide (P.nN = P.nM)) = true from decide_eq_true q)
  replace K := Lib.hid (K.out.trans (Oz.fst_t t14.out))
  have gt14 : ((P.nN : Int) != (P.nM : Int)) = false := by simp; omega
  clear q
  go_wp2_with fail
  refine (pasc_c _ _ _ _ _ H.al).mono ?_
  cases q : (Oz.asB P.na P.al)
  · have HE := Lib.hid (K.out.trans (Oz.fst_f q))
    clear q
    rintro e w15 ⟨rfl, h15⟩
    replace H := H.keep h15
    replace G := G.keep h15
    replace hB := bt hB h15
    clear d0 d1 d2 d3 d4 d5 d6 d7 d8 d9 d10 d11 d12 d13 d14 d15 d16
    obtain ⟨d0, d1, d2, d3, d4, d5, d6, d7, d8, d9, d10, d11, d12, d13, d14, d15, d16⟩ := G.open15
    go_wp2_with fail
    go_returns
    refine ⟨?_, hB⟩
    rw [HE.out]; rfl
  have t15 := Lib.hid q
  replace K := Lib.hid (K.out.trans (Oz.fst_t q))
  clear q
  rintro e w15 ⟨rfl, h15⟩
  replace H := H.keep h15
  replace G := G.keep h15
  replace hB := bt hB h15
  clear d0 d1 d2 d3 d4 d5 d6 d7 d8 d9 d10 d11 d12 d13 d14 d15 d16
  obtain ⟨d0, d1, d2, d3, d4, d5, d6, d7, d8, d9, d10, d11, d12, d13, d14, d15, d16⟩ := G.open15
  go_wp2_with fail
  refine (pasc_c _ _ _ _ _ H.ma).mono ?_
  cases q : (Oz.asB P.nM P.ma)
  · have HE := Lib.hid (K.out.trans (Oz.fst_f q))
    clear q
    rintro e w16 ⟨rfl, h16⟩
    replace H := H.keep h16
    replace G := G.keep h16
    replace hB := bt hB h16
    clear d0 d1 d2 d3 d4 d5 d6 d7 d8 d9 d10 d11 d12 d13 d14 d15 d16
    obtain ⟨d0, d1, d2, d3, d4, d5, d6, d7, d8, d9, d10, d11, d12, d13, d14, d15, d16⟩ := G.open15
    go_wp2_with fail
    go_returns
    refine ⟨?_, hB⟩
    rw [HE.out]; rfl
  have t16 := Lib.hid q
  replace K := Lib.hid (K.out.trans (Oz.fst_t q))
  clear q
  rintro e w16 ⟨rfl, h16⟩
  replace H := H.keep h16
  replace G := G.keep h16
  replace hB := bt hB h16
  clear d0 d1 d2 d3 d4 d5 d6 d7 d8 d9 d10 d11 d12 d13 d14 d15 d16
  obtain ⟨d0, d1, d2, d3, d4, d5, d6, d7, d8, d9, d10, d11, d12, d13, d14, d15, d16⟩ := G.open15
  go_wp2_with fail
  refine (pall_c _ _ _ _ _ _ _ H.al).mono ?_
  cases q : (Oz.alB P.na P.al (-200000) 6000000)
  · have HE := Lib.hid (K.out.trans (Oz.fst_f q))
    clear q
    rintro e w_ ⟨rfl, rfl⟩
    go_wp2_with fail
    go_returns
    refine ⟨?_, hB⟩
    rw [HE.out]; rfl
  have t17 := Lib.hid q
  replace K := Lib.hid (K.out.trans (Oz.fst_t q))
  clear q
  rintro e w_ ⟨rfl, rfl⟩
  go_wp2_with fail
  refine (pwithin_c _ _ _ _).mono ?_
  cases q : (Oz.inB P.ce (-200000) 6000000)
  · have HE := Lib.hid (K.out.trans (Oz.fst_f q))
    clear q
    rintro e w_ ⟨rfl, rfl⟩
    go_wp2_with fail
    go_returns
    refine ⟨?_, hB⟩
    rw [HE.out]; rfl
  have t18 := Lib.hid q
  replace K := Lib.hid (K.out.trans (Oz.fst_t q))
  clear q
  rintro e w_ ⟨rfl, rfl⟩
  go_wp2_with fail
  refine (pall_c _ _ _ _ _ _ _ H.ma).mono ?_
  cases q : (Oz.alB P.nM P.ma 1 3000000000)
  · have HE := Lib.hid (K.out.trans (Oz.fst_f q))
    clear q
    rintro e w_ ⟨rfl, rfl⟩
    go_wp2_with fail
    go_returns
    refine ⟨?_, hB⟩
    rw [HE.out]; rfl
  have t19 := Lib.hid q
  replace K := Lib.hid (K.out.trans (Oz.fst_t q))
  clear q
  rintro e w_ ⟨rfl, rfl⟩
  go_wp2_with fail
  refine (prows_c _ _ _ _ _ _ _ _ H.tC).mono ?_
  cases q : (Oz.alT P.nC P.lC P.tC 0 10000)
  · have HE := Lib.hid (K.out.trans (Oz.fst_f q))
    clear q
    rintro e w_ ⟨rfl, rfl⟩
    go_wp2_with fail
    go_returns
    refine ⟨?_, hB⟩
    rw [HE.out]; rfl
  have t20 := Lib.hid q
  replace K := Lib.hid (K.out.trans (Oz.fst_t q))
  clear q
  rintro e w_ ⟨rfl, rfl⟩
  go_wp2_with fail
  refine (pall_c _ _ _ _ _ _ _ H.dD).mono ?_
  cases q : (Oz.alB P.nD P.dD 1 10000)
  · have HE := Lib.hid (K.out.trans (Oz.fst_f q))
    clear q
    rintro e w_ ⟨rfl, rfl⟩
    go_wp2_with fail
    go_returns
    refine ⟨?_, hB⟩
    rw [HE.out]; rfl
  have t21 := Lib.hid q
  replace K := Lib.hid (K.out.trans (Oz.fst_t q))
  clear q
  rintro e w_ ⟨rfl, rfl⟩
  go_wp2_with fail
  refine (prows_c _ _ _ _ _ _ _ _ H.tF).mono ?_
  cases q : (Oz.alT P.nF P.lF P.tF 0 50000)
  · have HE := Lib.hid (K.out.trans (Oz.fst_f q))
    clear q
    rintro e w_ ⟨rfl, rfl⟩
    go_wp2_with fail
    go_returns
    refine ⟨?_, hB⟩
    rw [HE.out]; rfl
  have t22 := Lib.hid q
  replace K := Lib.hid (K.out.trans (Oz.fst_t q))
  clear q
  rintro e w_ ⟨rfl, rfl⟩
  go_wp2_with fail
  refine (prows_c _ _ _ _ _ _ _ _ H.tR).mono ?_
  cases q : (Oz.alT P.nR P.lR P.tR 0 50000)
  · have HE := Lib.hid (K.out.trans (Oz.fst_f q))
    clear q
    rintro e w_ ⟨rfl, rfl⟩
    go_wp2_with fail
    go_returns
    refine ⟨?_, hB⟩
    rw [HE.out]; rfl
  have t23 := Lib.hid q
  replace K := Lib.hid (K.out.trans (Oz.fst_t q))
  clear q
  rintro e w_ ⟨rfl, rfl⟩
  go_wp2_with fail
  refine (pall_c _ _ _ _ _ _ _ H.dI).mono ?_
  cases q : (Oz.alB P.nI P.dI 0 50000)
  · have HE := Lib.hid (K.out.trans (Oz.fst_f q))
    clear q
    rintro e w_ ⟨rfl, rfl⟩
    go_wp2_with fail
    go_returns
    refine ⟨?_, hB⟩
    rw [HE.out]; rfl
  have t24 := Lib.hid q
  replace K := Lib.hid (K.out.trans (Oz.fst_t q))
  clear q
  rintro e w_ ⟨rfl, rfl⟩
  go_wp2_with fail
  refine (pall_c _ _ _ _ _ _ _ H.dX).mono ?_
  cases q : (Oz.alB P.nX P.dX 1 1000)
  · have HE := Lib.hid (K.out.trans (Oz.fst_f q))
    clear q
    rintro e w_ ⟨rfl, rfl⟩
    go_wp2_with fail
    go_returns
    refine ⟨?_, hB⟩
    rw [HE.out]; rfl
  have t25 := Lib.hid q
  replace K := Lib.hid (K.out.trans (Oz.fst_t q))
  clear q
  rintro e w_ ⟨rfl, rfl⟩
  go_wp2_with fail
  refine (pall_c _ _ _ _ _ _ _ H.dN).mono ?_
  cases q : (Oz.alB P.nN P.dN 1 1000)
  · have HE := Lib.hid (K.out.trans (Oz.fst_f q))
    clear q
    rintro e w_ ⟨rfl, rfl⟩
    go_wp2_with fail
    go_returns
    refine ⟨?_, hB⟩
    rw [HE.out]; rfl
  have t26 := Lib.hid q
  replace K := Lib.hid (K.out.trans (Oz.fst_t q))
  clear q
  rintro e w_ ⟨rfl, rfl⟩
  go_wp2_with fail
  refine (pwithin_c _ _ _ _).mono ?_
  cases q : (Oz.inB P.rf 1 1000)
  · have HE := Lib.hid (K.out.trans (Oz.fst_f q))
    clear q
    rintro e w_ ⟨rfl, rfl⟩
    go_wp2_with fail
    go_returns
    refine ⟨?_, hB⟩
    rw [HE.out]; rfl
  have t27 := Lib.hid q
  replace K := Lib.hid (K.out.trans (Oz.fst_t q))
  clear q
  rintro e w_ ⟨rfl, rfl⟩
  go_wp2_with fail
  refine (pwithin_c _ _ _ _).mono ?_
  cases q : (Oz.inB P.xt 0 100)
  · have HE := Lib.hid (K.out.trans (Oz.fst_f q))
    clear q
    rintro e w_ ⟨rfl, rfl⟩
    go_wp2_with fail
    go_returns
    refine ⟨?_, hB⟩
    rw [HE.out]; rfl
  have t28 := Lib.hid q
  replace K := Lib.hid (K.out.trans (Oz.fst_t q))
  clear q
  rintro e w_ ⟨rfl, rfl⟩
  go_wp2_with fail
  refine (pleanN_c _ _ _ _ _ _ _ H.tC (Oz.sh_ln t8.out) (Oz.al_bd t8.out t20.out)).mono ?_
  cases q : (Oz.grid (Oz.upN P.tC) P.nC P.nM)
  · have HE := Lib.hid (K.out.trans (Oz.fst_f q))
    clear q
    rintro e w29 ⟨rfl, h29⟩
    replace H := H.keep h29
    replace G := G.keep h29
    replace hB := bt hB h29
    clear d0 d1 d2 d3 d4 d5 d6 d7 d8 d9 d10 d11 d12 d13 d14 d15 d16
    obtain ⟨d0, d1, d2, d3, d4, d5, d6, d7, d8, d9, d10, d11, d12, d13, d14, d15, d16⟩ := G.open15
    go_wp2_with fail
    go_returns
    refine ⟨?_, hB⟩
    rw [HE.out]; rfl
  have t29 := Lib.hid q
  replace K := Lib.hid (K.out.trans (Oz.fst_t q))
  clear q
  rintro e w29 ⟨rfl, h29⟩
  replace H := H.keep h29
  replace G := G.keep h29
  replace hB := bt hB h29
  clear d0 d1 d2 d3 d4 d5 d6 d7 d8 d9 d10 d11 d12 d13 d14 d15 d16
  obtain ⟨d0, d1, d2, d3, d4, d5, d6, d7, d8, d9, d10, d11, d12, d13, d14, d15, d16⟩ := G.open15
  go_wp2_with fail
  refine (pgentle_c P Q _ H (of_decide_eq_true t4.out) (Oz.sh_n t8.out) (Oz.sh_ln' t8.out) (Oz.al_bd' t8.out t20.out) (Oz.l_bd t17.out)).mono ?_
  cases q : (Oz.grid (Oz.ge P.al P.tC) P.na P.nM)
  · have HE := Lib.hid (K.out.trans (Oz.fst_f q))
    clear q
    rintro e w30 ⟨rfl, h30⟩
    replace H := H.keep h30
    replace G := G.keep h30
    replace hB := bt hB h30
    clear d0 d1 d2 d3 d4 d5 d6 d7 d8 d9 d10 d11 d12 d13 d14 d15 d16
    obtain ⟨d0, d1, d2, d3, d4, d5, d6, d7, d8, d9, d10, d11, d12, d13, d14, d15, d16⟩ := G.open15
    go_wp2_with fail
    go_returns
    refine ⟨?_, hB⟩
    rw [HE.out]; rfl
  have t30 := Lib.hid q
  replace K := Lib.hid (K.out.trans (Oz.fst_t q))
  clear q
  rintro e w30 ⟨rfl, h30⟩
  replace H := H.keep h30
  replace G := G.keep h30
  replace hB := bt hB h30
  clear d0 d1 d2 d3 d4 d5 d6 d7 d8 d9 d10 d11 d12 d13 d14 d15 d16
  obtain ⟨d0, d1, d2, d3, d4, d5, d6, d7, d8, d9, d10, d11, d12, d13, d14, d15, d16⟩ := G.open15
  go_wp2_with fail
  refine (plean1_c _ _ _ _ _ _ _ H.tF (Oz.sh_ln t9.out) (Oz.al_bd t9.out t22.out)).mono ?_
  cases q : (Oz.grid (Oz.up1 P.tF) P.nF P.nM)
  · have HE := Lib.hid (K.out.trans (Oz.fst_f q))
    clear q
    rintro e w31 ⟨rfl, h31⟩
    replace H := H.keep h31
    replace G := G.keep h31
    replace hB := bt hB h31
    clear d0 d1 d2 d3 d4 d5 d6 d7 d8 d9 d10 d11 d12 d13 d14 d15 d16
    obtain ⟨d0, d1, d2, d3, d4, d5, d6, d7, d8, d9, d10, d11, d12, d13, d14, d15, d16⟩ := G.open15
    go_wp2_with fail
    go_returns
    refine ⟨?_, hB⟩
    rw [HE.out]; rfl
  have t31 := Lib.hid q
  replace K := Lib.hid (K.out.trans (Oz.fst_t q))
  clear q
  rintro e w31 ⟨rfl, h31⟩
  replace H := H.keep h31
  replace G := G.keep h31
  replace hB := bt hB h31
  clear d0 d1 d2 d3 d4 d5 d6 d7 d8 d9 d10 d11 d12 d13 d14 d15 d16
  obtain ⟨d0, d1, d2, d3, d4, d5, d6, d7, d8, d9, d10, d11, d12, d13, d14, d15, d16⟩ := G.open15
  go_wp2_with fail
  refine (plean1_c _ _ _ _ _ _ _ H.tR (Oz.sh_ln t10.out) (Oz.al_bd t10.out t23.out)).mono ?_
  cases q : (Oz.grid (Oz.up1 P.tR) P.nR P.nM)
  · have HE := Lib.hid (K.out.trans (Oz.fst_f q))
    clear q
    rintro e w32 ⟨rfl, h32⟩
    replace H := H.keep h32
    replace G := G.keep h32
    replace hB := bt hB h32
    clear d0 d1 d2 d3 d4 d5 d6 d7 d8 d9 d10 d11 d12 d13 d14 d15 d16
    obtain ⟨d0, d1, d2, d3, d4, d5, d6, d7, d8, d9, d10, d11, d12, d13, d14, d15, d16⟩ := G.open15
    go_wp2_with fail
    go_returns
    refine ⟨?_, hB⟩
    rw [HE.out]; rfl
  have t32 := Lib.hid q
  replace K := Lib.hid (K.out.trans (Oz.fst_t q))
  clear q
  rintro e w32 ⟨rfl, h32⟩
  replace H := H.keep h32
  replace G := G.keep h32
  replace hB := bt hB h32
  clear d0 d1 d2 d3 d4 d5 d6 d7 d8 d9 d10 d11 d12 d13 d14 d15 d16
  obtain ⟨d0, d1, d2, d3, d4, d5, d6, d7, d8, d9, d10, d11, d12, d13, d14, d15, d16⟩ := G.open15
  go_wp2_with fail
  refine (prise_c _ _ _ _ _ H.dD (Oz.l_bd t21.out)).mono ?_
  cases q : (Oz.lvB P.nD P.dD)
  · have HE := Lib.hid (K.out.trans (Oz.fst_f q))
    clear q
    rintro e w33 ⟨rfl, h33⟩
    replace H := H.keep h33
    replace G := G.keep h33
    replace hB := bt hB h33
    clear d0 d1 d2 d3 d4 d5 d6 d7 d8 d9 d10 d11 d12 d13 d14 d15 d16
    obtain ⟨d0, d1, d2, d3, d4, d5, d6, d7, d8, d9, d10, d11, d12, d13, d14, d15, d16⟩ := G.open15
    go_wp2_with fail
    go_returns
    refine ⟨?_, hB⟩
    rw [HE.out]; rfl
  have t33 := Lib.hid q
  replace K := Lib.hid (K.out.trans (Oz.fst_t q))
  clear q
  rintro e w33 ⟨rfl, h33⟩
  replace H := H.keep h33
  replace G := G.keep h33
  replace hB := bt hB h33
  clear d0 d1 d2 d3 d4 d5 d6 d7 d8 d9 d10 d11 d12 d13 d14 d15 d16
  obtain ⟨d0, d1, d2, d3, d4, d5, d6, d7, d8, d9, d10, d11, d12, d13, d14, d15, d16⟩ := G.open15
  go_wp2_with fail
  refine (pfall_c _ _ _ _ _ H.dI (Oz.l_bd t24.out)).mono ?_
  cases q : (Oz.faB P.nI P.dI)
  · have HE := Lib.hid (K.out.trans (Oz.fst_f q))
    clear q
    rintro e w34 ⟨rfl, h34⟩
    replace H := H.keep h34
    replace G := G.keep h34
    replace hB := bt hB h34
    clear d0 d1 d2 d3 d4 d5 d6 d7 d8 d9 d10 d11 d12 d13 d14 d15 d16
    obtain ⟨d0, d1, d2, d3, d4, d5, d6, d7, d8, d9, d10, d11, d12, d13, d14, d15, d16⟩ := G.open15
    go_wp2_with fail
    go_returns
    refine ⟨?_, hB⟩
    rw [HE.out]; rfl
  have t34 := Lib.hid q
  replace K := Lib.hid (K.out.trans (Oz.fst_t q))
  clear q
  rintro e w34 ⟨rfl, h34⟩
  replace H := H.keep h34
  replace G := G.keep h34
  replace hB := bt hB h34
  clear d0 d1 d2 d3 d4 d5 d6 d7 d8 d9 d10 d11 d12 d13 d14 d15 d16
  obtain ⟨d0, d1, d2, d3, d4, d5, d6, d7, d8, d9, d10, d11, d12, d13, d14, d15, d16⟩ := G.open15
  go_wp2_with fail
  refine (pfall_c _ _ _ _ _ H.dX (Oz.l_bd t25.out)).mono ?_
  cases q : (Oz.faB P.nX P.dX)
  · have HE := Lib.hid (K.out.trans (Oz.fst_f q))
    clear q
    rintro e w35 ⟨rfl, h35⟩
    replace H := H.keep h35
    replace G := G.keep h35
    replace hB := bt hB h35
    clear d0 d1 d2 d3 d4 d5 d6 d7 d8 d9 d10 d11 d12 d13 d14 d15 d16
    obtain ⟨d0, d1, d2, d3, d4, d5, d6, d7, d8, d9, d10, d11, d12, d13, d14, d15, d16⟩ := G.open15
    go_wp2_with fail
    go_returns
    refine ⟨?_, hB⟩
    rw [HE.out]; rfl
  have t35 := Lib.hid q
  replace K := Lib.hid (K.out.trans (Oz.fst_t q))
  clear q
  rintro e w35 ⟨rfl, h35⟩
  replace H := H.keep h35
  replace G := G.keep h35
  replace hB := bt hB h35
  clear d0 d1 d2 d3 d4 d5 d6 d7 d8 d9 d10 d11 d12 d13 d14 d15 d16
  obtain ⟨d0, d1, d2, d3, d4, d5, d6, d7, d8, d9, d10, d11, d12, d13, d14, d15, d16⟩ := G.open15
  go_wp2_with fail
  refine (prise_c _ _ _ _ _ H.dN (Oz.l_bd t26.out)).mono ?_
  cases q : (Oz.lvB P.nN P.dN)
  · have HE := Lib.hid (K.out.trans (Oz.fst_f q))
    clear q
    rintro e w36 ⟨rfl, h36⟩
    replace H := H.keep h36
    replace G := G.keep h36
    replace hB := bt hB h36
    clear d0 d1 d2 d3 d4 d5 d6 d7 d8 d9 d10 d11 d12 d13 d14 d15 d16
    obtain ⟨d0, d1, d2, d3, d4, d5, d6, d7, d8, d9, d10, d11, d12, d13, d14, d15, d16⟩ := G.open15
    go_wp2_with fail
    go_returns
    refine ⟨?_, hB⟩
    rw [HE.out]; rfl
  have t36 := Lib.hid q
  replace K := Lib.hid (K.out.trans (Oz.fst_t q))
  clear q
  rintro e w36 ⟨rfl, h36⟩
  replace H := H.keep h36
  replace G := G.keep h36
  replace hB := bt hB h36
  clear d0 d1 d2 d3 d4 d5 d6 d7 d8 d9 d10 d11 d12 d13 d14 d15 d16
  obtain ⟨d0, d1, d2, d3, d4, d5, d6, d7, d8, d9, d10, d11, d12, d13, d14, d15, d16⟩ := G.open15
  have HE := Lib.hid (K.out.trans (show Oz.fst [] = 0 from rfl))
  go_wp2_with fail
  go_returns
  refine ⟨?_, hB⟩
  rw [HE.out]; rfl
end Go.Proofs.Ytoeklllahpegfaa
/-
  Contracts: index, known, change; the reference's named, gap.
-/
namespace Go.Proofs.Ytoeklllahpegfaa
set_option linter.unusedVariables false
set_option linter.unusedSimpArgs false
open Go.RowKit
attribute [local irreducible] World.setCell World.cell?

set_option maxHeartbeats 1000000 in
theorem index_o (i n : Int) (w : World) : Calls Try.prog 33 #[.int .i64 i, .int .i64 n] w fun e w' => e = .returned (.bool (Oz.ixB i n)) ∧ w = w' := by
  by_cases h1 : 0 ≤ i
  · by_cases h2 : i < n
    · rw [show Oz.ixB i n = true from decide_eq_true ⟨h1, h2⟩]
      go_enter Try.func33, Try.ntmps33
      go_wp2
      go_ret
      exact ⟨rfl, rfl⟩
    · rw [show Oz.ixB i n = false from decide_eq_false (by omega)]
      go_enter Try.func33, Try.ntmps33
      go_wp2
      go_ret
      exact ⟨rfl, rfl⟩
  · rw [show Oz.ixB i n = false from decide_eq_false (by omega)]
    go_enter Try.func33, Try.ntmps33
    go_wp2
    go_ret
    exact ⟨rfl, rfl⟩
set_option maxHeartbeats 1000000 in
theorem change_c (i j : Int) (w : World) (h0 : -4611686018427387904 ≤ i ∧ i ≤ 4611686018427387903) (h1 : -4611686018427387904 ≤ j ∧ j ≤ 4611686018427387903) : Calls Try.prog 41 #[.int .i64 i, .int .i64 j] w fun e w' => e = .returned (.int .i64 (Oz.dfW i j)) ∧ w = w' := by
  obtain ⟨a1, a2⟩ := h0
  obtain ⟨a3, a4⟩ := h1
  by_cases h : i < j
  · rw [show Oz.dfW i j = j - i from if_pos h]
    go_enter Try.func41, Try.ntmps41
    go_wp2
    go_ret
    exact ⟨rfl, rfl⟩
  · rw [show Oz.dfW i j = i - j from if_neg h]
    go_enter Try.func41, Try.ntmps41
    go_wp2
    go_ret
    exact ⟨rfl, rfl⟩
set_option maxHeartbeats 1000000 in
theorem gap_c (i j : Int) (w : World) (h0 : -4611686018427387904 ≤ i ∧ i ≤ 4611686018427387903) (h1 : -4611686018427387904 ≤ j ∧ j ≤ 4611686018427387903) : Calls Try.prog 44 #[.int .i64 i, .int .i64 j] w fun e w' => e = .returned (.int .i64 (Oz.dfW i j)) ∧ w = w' := by
  obtain ⟨a1, a2⟩ := h0
  obtain ⟨a3, a4⟩ := h1
  by_cases h : i < j
  · rw [show Oz.dfW i j = j - i from if_pos h]
    have g : i - j < j - i := by omega
    go_enter Try.func44, Try.ntmps44
    go_wp2
    go_ret
    exact ⟨rfl, rfl⟩
  · rw [show Oz.dfW i j = i - j from if_neg h]
    have g : ¬ i - j < j - i := by omega
    go_enter Try.func44, Try.ntmps44
    go_wp2
    go_ret
    exact ⟨rfl, rfl⟩
set_option maxRecDepth 100000 in
set_option maxHeartbeats 4000000 in
theorem known_c (Z : ZD) (Y : ZA) (a b : Int) (w : World) : Calls Try.prog 40 #[.agg #[.slice Y.ds Z.nd Y.dsc, .slice Y.lv Z.nl Y.lvc, .slice Y.sp Z.ns Y.spc, .slice Y.tl Z.nt Y.tlc, .slice Y.ms Z.nm Y.msc, .string Z.P.nm, .int .i64 Z.P.em, .int .i64 Z.P.fu, .slice Y.Q.al Z.P.na Y.Q.alc, .slice Y.Q.ma Z.P.nM Y.Q.mac, .slice Y.Q.tC Z.P.nC Y.Q.tCc, .slice Y.Q.tF Z.P.nF Y.Q.tFc, .slice Y.Q.tR Z.P.nR Y.Q.tRc, .slice Y.Q.dD Z.P.nD Y.Q.dDc, .slice Y.Q.dI Z.P.nI Y.Q.dIc, .slice Y.Q.dX Z.P.nX Y.Q.dXc, .slice Y.Q.dN Z.P.nN Y.Q.dNc, .int .i64 Z.P.rf, .int .i64 Z.P.xt, .int .i64 Z.P.ce, .int .i64 Z.ix, .int .i64 Z.cc, .int .i64 Z.fi, .int .i64 Z.la], .agg #[.int .i64 a, .int .i64 b]] w fun e w' => e = .returned (.bool (Oz.knB Z a b)) ∧ Below w.heap.size w w' := by
  go_enter Try.func40, Try.ntmps40
  go_wp2_with fail
  have G := (Blk.new w 27 #[.slice Y.ds Z.nd Y.dsc, .slice Y.lv Z.nl Y.lvc, .slice Y.sp Z.ns Y.spc, .slice Y.tl Z.nt Y.tlc, .slice Y.ms Z.nm Y.msc, .string Z.P.nm, .int .i64 Z.P.em, .int .i64 Z.P.fu, .slice Y.Q.al Z.P.na Y.Q.alc, .slice Y.Q.ma Z.P.nM Y.Q.mac, .slice Y.Q.tC Z.P.nC Y.Q.tCc, .slice Y.Q.tF Z.P.nF Y.Q.tFc, .slice Y.Q.tR Z.P.nR Y.Q.tRc, .slice Y.Q.dD Z.P.nD Y.Q.dDc, .slice Y.Q.dI Z.P.nI Y.Q.dIc, .slice Y.Q.dX Z.P.nX Y.Q.dXc, .slice Y.Q.dN Z.P.nN Y.Q.dNc, .int .i64 Z.P.rf, .int .i64 Z.P.xt, .int .i64 Z.P.ce, .int .i64 Z.ix, .int .i64 Z.cc, .int .i64 Z.fi, .int .i64 Z.la]).alloc (.cells #[.int .i64 a, .int .i64 b] 35)
  have hB := bal (ba w (.cells #[.slice Y.ds Z.nd Y.dsc, .slice Y.lv Z.nl Y.lvc, .slice Y.sp Z.ns Y.spc, .slice Y.tl Z.nt Y.tlc, .slice Y.ms Z.nm Y.msc, .string Z.P.nm, .int .i64 Z.P.em, .int .i64 Z.P.fu, .slice Y.Q.al Z.P.na Y.Q.alc, .slice Y.Q.ma Z.P.nM Y.Q.mac, .slice Y.Q.tC Z.P.nC Y.Q.tCc, .slice Y.Q.tF Z.P.nF Y.Q.tFc, .slice Y.Q.tR Z.P.nR Y.Q.tRc, .slice Y.Q.dD Z.P.nD Y.Q.dDc, .slice Y.Q.dI Z.P.nI Y.Q.dIc, .slice Y.Q.dX Z.P.nX Y.Q.dXc, .slice Y.Q.dN Z.P.nN Y.Q.dNc, .int .i64 Z.P.rf, .int .i64 Z.P.xt, .int .i64 Z.P.ce, .int .i64 Z.ix, .int .i64 Z.cc, .int .i64 Z.fi, .int .i64 Z.la] 27)) (.cells #[.int .i64 a, .int .i64 b] 35)
  refine (index_o _ _ _).mono ?_
  cases q : Oz.ixB a Z.nl
  · have HE := Lib.hid (show Oz.knB Z a b = false by unfold Oz.knB; rw [q]; rfl)
    clear q
    rintro e w_ ⟨rfl, rfl⟩
    go_wp2_with fail
    go_returns
    refine ⟨?_, hB⟩
    rw [HE.out]; rfl
  have HE := Lib.hid (show Oz.knB Z a b = Oz.ixB b Z.ns by unfold Oz.knB; rw [q]; rfl)
  clear q
  rintro e w_ ⟨rfl, rfl⟩
  go_wp2_with fail
  refine (index_o _ _ _).mono ?_
  rintro e w_ ⟨rfl, rfl⟩
  go_wp2_with fail
  go_returns
  refine ⟨?_, hB⟩
  rw [HE.out]; rfl
set_option maxRecDepth 100000 in
set_option maxHeartbeats 4000000 in
theorem named_c (Z : ZD) (Y : ZA) (a b : Int) (w : World) : Calls Try.prog 43 #[.agg #[.slice Y.ds Z.nd Y.dsc, .slice Y.lv Z.nl Y.lvc, .slice Y.sp Z.ns Y.spc, .slice Y.tl Z.nt Y.tlc, .slice Y.ms Z.nm Y.msc, .string Z.P.nm, .int .i64 Z.P.em, .int .i64 Z.P.fu, .slice Y.Q.al Z.P.na Y.Q.alc, .slice Y.Q.ma Z.P.nM Y.Q.mac, .slice Y.Q.tC Z.P.nC Y.Q.tCc, .slice Y.Q.tF Z.P.nF Y.Q.tFc, .slice Y.Q.tR Z.P.nR Y.Q.tRc, .slice Y.Q.dD Z.P.nD Y.Q.dDc, .slice Y.Q.dI Z.P.nI Y.Q.dIc, .slice Y.Q.dX Z.P.nX Y.Q.dXc, .slice Y.Q.dN Z.P.nN Y.Q.dNc, .int .i64 Z.P.rf, .int .i64 Z.P.xt, .int .i64 Z.P.ce, .int .i64 Z.ix, .int .i64 Z.cc, .int .i64 Z.fi, .int .i64 Z.la], .agg #[.int .i64 a, .int .i64 b]] w fun e w' => e = .returned (.bool (Oz.knB Z a b)) ∧ Below w.heap.size w w' := by
  by_cases q1 : 0 ≤ a
  rotate_left
  · have HE := Lib.hid (show Oz.knB Z a b = false by unfold Oz.knB Oz.ixB; simp; omega)
    go_enter Try.func43, Try.ntmps43
    go_wp2_with fail
    have hB := bal (ba w (.cells #[.slice Y.ds Z.nd Y.dsc, .slice Y.lv Z.nl Y.lvc, .slice Y.sp Z.ns Y.spc, .slice Y.tl Z.nt Y.tlc, .slice Y.ms Z.nm Y.msc, .string Z.P.nm, .int .i64 Z.P.em, .int .i64 Z.P.fu, .slice Y.Q.al Z.P.na Y.Q.alc, .slice Y.Q.ma Z.P.nM Y.Q.mac, .slice Y.Q.tC Z.P.nC Y.Q.tCc, .slice Y.Q.tF Z.P.nF Y.Q.tFc, .slice Y.Q.tR Z.P.nR Y.Q.tRc, .slice Y.Q.dD Z.P.nD Y.Q.dDc, .slice Y.Q.dI Z.P.nI Y.Q.dIc, .slice Y.Q.dX Z.P.nX Y.Q.dXc, .slice Y.Q.dN Z.P.nN Y.Q.dNc, .int .i64 Z.P.rf, .int .i64 Z.P.xt, .int .i64 Z.P.ce, .int .i64 Z.ix, .int .i64 Z.cc, .int .i64 Z.fi, .int .i64 Z.la] 27)) (.cells #[.int .i64 a, .int .i64 b] 35)
    go_returns
    refine ⟨?_, hB⟩
    rw [HE.out]; try rfl
  by_cases q2 : a < (Z.nl : Int)
  rotate_left
  · have HE := Lib.hid (show Oz.knB Z a b = false by unfold Oz.knB Oz.ixB; simp; omega)
    go_enter Try.func43, Try.ntmps43
    go_wp2_with fail
    have hB := bal (ba w (.cells #[.slice Y.ds Z.nd Y.dsc, .slice Y.lv Z.nl Y.lvc, .slice Y.sp Z.ns Y.spc, .slice Y.tl Z.nt Y.tlc, .slice Y.ms Z.nm Y.msc, .string Z.P.nm, .int .i64 Z.P.em, .int .i64 Z.P.fu, .slice Y.Q.al Z.P.na Y.Q.alc, .slice Y.Q.ma Z.P.nM Y.Q.mac, .slice Y.Q.tC Z.P.nC Y.Q.tCc, .slice Y.Q.tF Z.P.nF Y.Q.tFc, .slice Y.Q.tR Z.P.nR Y.Q.tRc, .slice Y.Q.dD Z.P.nD Y.Q.dDc, .slice Y.Q.dI Z.P.nI Y.Q.dIc, .slice Y.Q.dX Z.P.nX Y.Q.dXc, .slice Y.Q.dN Z.P.nN Y.Q.dNc, .int .i64 Z.P.rf, .int .i64 Z.P.xt, .int .i64 Z.P.ce, .int .i64 Z.ix, .int .i64 Z.cc, .int .i64 Z.fi, .int .i64 Z.la] 27)) (.cells #[.int .i64 a, .int .i64 b] 35)
    go_returns
    refine ⟨?_, hB⟩
    rw [HE.out]; try rfl
  by_cases q3 : 0 ≤ b
  rotate_left
  · have HE := Lib.hid (show Oz.knB Z a b = false by unfold Oz.knB Oz.ixB; simp; omega)
    go_enter Try.func43, Try.ntmps43
    go_wp2_with fail
    have hB := bal (ba w (.cells #[.slice Y.ds Z.nd Y.dsc, .slice Y.lv Z.nl Y.lvc, .slice Y.sp Z.ns Y.spc, .slice Y.tl Z.nt Y.tlc, .slice Y.ms Z.nm Y.msc, .string Z.P.nm, .int .i64 Z.P.em, .int .i64 Z.P.fu, .slice Y.Q.al Z.P.na Y.Q.alc, .slice Y.Q.ma Z.P.nM Y.Q.mac, .slice Y.Q.tC Z.P.nC Y.Q.tCc, .slice Y.Q.tF Z.P.nF Y.Q.tFc, .slice Y.Q.tR Z.P.nR Y.Q.tRc, .slice Y.Q.dD Z.P.nD Y.Q.dDc, .slice Y.Q.dI Z.P.nI Y.Q.dIc, .slice Y.Q.dX Z.P.nX Y.Q.dXc, .slice Y.Q.dN Z.P.nN Y.Q.dNc, .int .i64 Z.P.rf, .int .i64 Z.P.xt, .int .i64 Z.P.ce, .int .i64 Z.ix, .int .i64 Z.cc, .int .i64 Z.fi, .int .i64 Z.la] 27)) (.cells #[.int .i64 a, .int .i64 b] 35)
    go_returns
    refine ⟨?_, hB⟩
    rw [HE.out]; try rfl
  by_cases q4 : b < (Z.ns : Int)
  rotate_left
  · have HE := Lib.hid (show Oz.knB Z a b = false by unfold Oz.knB Oz.ixB; simp; omega)
    go_enter Try.func43, Try.ntmps43
    go_wp2_with fail
    have hB := bal (ba w (.cells #[.slice Y.ds Z.nd Y.dsc, .slice Y.lv Z.nl Y.lvc, .slice Y.sp Z.ns Y.spc, .slice Y.tl Z.nt Y.tlc, .slice Y.ms Z.nm Y.msc, .string Z.P.nm, .int .i64 Z.P.em, .int .i64 Z.P.fu, .slice Y.Q.al Z.P.na Y.Q.alc, .slice Y.Q.ma Z.P.nM Y.Q.mac, .slice Y.Q.tC Z.P.nC Y.Q.tCc, .slice Y.Q.tF Z.P.nF Y.Q.tFc, .slice Y.Q.tR Z.P.nR Y.Q.tRc, .slice Y.Q.dD Z.P.nD Y.Q.dDc, .slice Y.Q.dI Z.P.nI Y.Q.dIc, .slice Y.Q.dX Z.P.nX Y.Q.dXc, .slice Y.Q.dN Z.P.nN Y.Q.dNc, .int .i64 Z.P.rf, .int .i64 Z.P.xt, .int .i64 Z.P.ce, .int .i64 Z.ix, .int .i64 Z.cc, .int .i64 Z.fi, .int .i64 Z.la] 27)) (.cells #[.int .i64 a, .int .i64 b] 35)
    go_returns
    refine ⟨?_, hB⟩
    rw [HE.out]; try rfl
  have HE := Lib.hid (show Oz.knB Z a b = true by unfold Oz.knB Oz.ixB; simp; omega)
  go_enter Try.func43, Try.ntmps43
  go_wp2_with fail
  have hB := bal (ba w (.cells #[.slice Y.ds Z.nd Y.dsc, .slice Y.lv Z.nl Y.lvc, .slice Y.sp Z.ns Y.spc, .slice Y.tl Z.nt Y.tlc, .slice Y.ms Z.nm Y.msc, .string Z.P.nm, .int .i64 Z.P.em, .int .i64 Z.P.fu, .slice Y.Q.al Z.P.na Y.Q.alc, .slice Y.Q.ma Z.P.nM Y.Q.mac, .slice Y.Q.tC Z.P.nC Y.Q.tCc, .slice Y.Q.tF Z.P.nF Y.Q.tFc, .slice Y.Q.tR Z.P.nR Y.Q.tRc, .slice Y.Q.dD Z.P.nD Y.Q.dDc, .slice Y.Q.dI Z.P.nI Y.Q.dIc, .slice Y.Q.dX Z.P.nX Y.Q.dXc, .slice Y.Q.dN Z.P.nN Y.Q.dNc, .int .i64 Z.P.rf, .int .i64 Z.P.xt, .int .i64 Z.P.ce, .int .i64 Z.ix, .int .i64 Z.cc, .int .i64 Z.fi, .int .i64 Z.la] 27)) (.cells #[.int .i64 a, .int .i64 b] 35)
  go_returns
  refine ⟨?_, hB⟩
  rw [HE.out]; try rfl
end Go.Proofs.Ytoeklllahpegfaa
/-
  Plain: the reference's first error of performance tables is the program's.
-/
namespace Go.Proofs.Ytoeklllahpegfaa
set_option linter.unusedVariables false
set_option linter.unusedSimpArgs false
open Go.RowKit

theorem rd_lit1 (w : World) (t : TypeId) (a : Int) {H : Nat} (hH : w.heap.size = H) : Rd (w.alloc (.cells #[.int .i64 a] t)) 1 (some ⟨H, 0, none⟩) 1 1 (nv fun _ => a) := by
  subst hH
  exact Rd.of_blk (Blk.new w t _) (Nat.le_refl _) (by omega) fun i j hi hj => by
    match i, j, hi, hj with
    | 0, 0, _, _ => rfl
namespace Oz
theorem fst_cong {b : Bool} {c : Int} {t t' : List (Bool × Int)} (h : b = true → fst t = fst t') : fst ((b, c) :: t) = fst ((b, c) :: t') := by
  cases b
  · rfl
  · exact h rfl
theorem fst_and {a b : Bool} {c : Int} {t : List (Bool × Int)} : fst ((a, c) :: (b, c) :: t) = fst ((a && b, c) :: t) := by cases a <;> cases b <;> rfl
theorem alB_one {x lo hi : Int} : alB 1 (fun _ => x) lo hi = inB x lo hi := rfl
def rck (P : PD) : Int := fst [(Oz.nmB P.nm 8, 5), (decide (1 ≤ P.em), 2), (decide (P.em ≤ 3000000000), 2), (decide (1 ≤ P.fu), 2), (decide (P.fu ≤ 3000000000 - P.em), 2), (decide (2 ≤ P.na), 3), (decide (P.na ≤ 12), 3), (decide (2 ≤ P.nM), 3), (decide (P.nM ≤ 6), 3), ((Oz.shT P.nC P.lC P.nM && decide (P.nC = P.na)), 1), ((Oz.shT P.nF P.lF P.nM && decide (P.nF = P.na)), 1), ((Oz.shT P.nR P.lR P.nM && decide (P.nR = P.na)), 1), (decide (P.nD = P.na), 1), (decide (P.nI = P.na), 1), (decide (P.nX = P.na), 1), (decide (P.nN = P.nM), 1), (Oz.asB P.na P.al, 9), (Oz.asB P.nM P.ma, 9), (Oz.alB P.na P.al (-200000) 6000000, 2), (Oz.alB 1 (fun _ => P.ce) (-200000) 6000000, 2), (Oz.alB P.nM P.ma 1 3000000000, 2), (Oz.alT P.nC P.lC P.tC 0 10000, 2), (Oz.alB P.nD P.dD 1 10000, 2), (Oz.alT P.nF P.lF P.tF 0 50000, 2), (Oz.alT P.nR P.lR P.tR 0 50000, 2), (Oz.alB P.nI P.dI 0 50000, 2), (Oz.alB P.nX P.dX 1 1000, 2), (Oz.alB P.nN P.dN 1 1000, 2), (Oz.alB 1 (fun _ => P.rf) 1 1000, 2), (Oz.alB 1 (fun _ => P.xt) 0 100, 2), (Oz.grid (Oz.cb P.al P.tC) P.na P.nM, 11), (Oz.grid (Oz.up1 P.tF) P.nF P.nM, 11), (Oz.grid (Oz.up1 P.tR) P.nR P.nM, 11), (Oz.lvB P.nD P.dD, 11), (Oz.faB P.nI P.dI, 11), (Oz.faB P.nX P.dX, 11), (Oz.lvB P.nN P.dN, 11)]
theorem ck_same (P : PD) : rck P = pck P := by
  unfold rck pck
  refine fst_cong fun h1 => ?_
  rw [fst_and, show (decide (1 ≤ P.em) && decide (P.em ≤ 3000000000)) = inB P.em 1 3000000000 from by unfold inB; rw [← Bool.decide_and]]
  refine fst_cong fun h2 => ?_
  rw [fst_and, show (decide (1 ≤ P.fu) && decide (P.fu ≤ 3000000000 - P.em)) = inB P.fu 1 (3000000000 - P.em) from by unfold inB; rw [← Bool.decide_and]]
  refine fst_cong fun h3 => ?_
  refine fst_cong fun h_t4 => ?_
  refine fst_cong fun h_t5 => ?_
  refine fst_cong fun h_t6 => ?_
  refine fst_cong fun h_t7 => ?_
  refine fst_cong fun h_t8 => ?_
  refine fst_cong fun h_t9 => ?_
  refine fst_cong fun h_t10 => ?_
  refine fst_cong fun h_t11 => ?_
  refine fst_cong fun h_t12 => ?_
  refine fst_cong fun h_t13 => ?_
  refine fst_cong fun h_t14 => ?_
  refine fst_cong fun h_t15 => ?_
  refine fst_cong fun h_t16 => ?_
  refine fst_cong fun h_t17 => ?_
  rw [alB_one]
  refine fst_cong fun h_t18 => ?_
  refine fst_cong fun h_t19 => ?_
  refine fst_cong fun h_t20 => ?_
  refine fst_cong fun h_t21 => ?_
  refine fst_cong fun h_t22 => ?_
  refine fst_cong fun h_t23 => ?_
  refine fst_cong fun h_t24 => ?_
  refine fst_cong fun h_t25 => ?_
  refine fst_cong fun h_t26 => ?_
  rw [alB_one]
  refine fst_cong fun h_t27 => ?_
  rw [alB_one]
  refine fst_cong fun h_t28 => ?_
  rw [show cb P.al P.tC = (fun i j => upN P.tC i j && ge P.al P.tC i j) from rfl, grid_and, ← sh_n h_t8, ← fst_and]
end Oz
end Go.Proofs.Ytoeklllahpegfaa
