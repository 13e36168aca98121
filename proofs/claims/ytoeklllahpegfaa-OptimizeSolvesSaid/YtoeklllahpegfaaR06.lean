/-
  Words and contracts, put together: OKr, ON3.
-/
import Derived.Test.YtoeklllahpegfaaM02
import Derived.Test.YtoeklllahpegfaaM13
import Derived.Test.YtoeklllahpegfaaR02
import Derived.Test.YtoeklllahpegfaaR04
import Derived.Test.YtoeklllahpegfaaR05
/-
  Contract: the reference's Solve.
-/
namespace Go.Proofs.Ytoeklllahpegfaa
set_option linter.unusedVariables false
set_option linter.unusedSimpArgs false
open Go.RowKit
attribute [local irreducible] World.setCell World.cell?

set_option maxRecDepth 100000 in
set_option maxHeartbeats 4000000 in
theorem rsolve_z (Z : ZD) (Y : ZA) (w : World) (H : ZIn w Z Y) (h : Oz.zck Z ≠ 0) : Calls Try.prog 25 #[.agg #[.slice Y.ds Z.nd Y.dsc, .slice Y.lv Z.nl Y.lvc, .slice Y.sp Z.ns Y.spc, .slice Y.tl Z.nt Y.tlc, .slice Y.ms Z.nm Y.msc, .string Z.P.nm, .int .i64 Z.P.em, .int .i64 Z.P.fu, .slice Y.Q.al Z.P.na Y.Q.alc, .slice Y.Q.ma Z.P.nM Y.Q.mac, .slice Y.Q.tC Z.P.nC Y.Q.tCc, .slice Y.Q.tF Z.P.nF Y.Q.tFc, .slice Y.Q.tR Z.P.nR Y.Q.tRc, .slice Y.Q.dD Z.P.nD Y.Q.dDc, .slice Y.Q.dI Z.P.nI Y.Q.dIc, .slice Y.Q.dX Z.P.nX Y.Q.dXc, .slice Y.Q.dN Z.P.nN Y.Q.dNc, .int .i64 Z.P.rf, .int .i64 Z.P.xt, .int .i64 Z.P.ce, .int .i64 Z.ix, .int .i64 Z.cc, .int .i64 Z.fi, .int .i64 Z.la]] w fun e w' => e = .returned (.tuple #[.slice none 0 0, .int .i64 0, .slice none 0 0, .int .i64 (Oz.zck Z)]) ∧ Below w.heap.size w w' := by
  obtain ⟨z, ez⟩ : ∃ z, Hid (Oz.zck Z = z) := ⟨_, rfl⟩
  have Krcheck_z := Lib.hid (fun wx (h : ZIn wx Z Y) => rcheck_z Z Y wx h)
  rw [ez.out] at Krcheck_z h ⊢
  have hz1 : (z != 0) = true := by simpa using h
  clear h
  go_enter Try.func25, Try.ntmps25
  try simp only [List.append_eq, List.cons_append, List.nil_append]
  have PB := Blk.new w 27 #[.slice Y.ds Z.nd Y.dsc, .slice Y.lv Z.nl Y.lvc, .slice Y.sp Z.ns Y.spc, .slice Y.tl Z.nt Y.tlc, .slice Y.ms Z.nm Y.msc, .string Z.P.nm, .int .i64 Z.P.em, .int .i64 Z.P.fu, .slice Y.Q.al Z.P.na Y.Q.alc, .slice Y.Q.ma Z.P.nM Y.Q.mac, .slice Y.Q.tC Z.P.nC Y.Q.tCc, .slice Y.Q.tF Z.P.nF Y.Q.tFc, .slice Y.Q.tR Z.P.nR Y.Q.tRc, .slice Y.Q.dD Z.P.nD Y.Q.dDc, .slice Y.Q.dI Z.P.nI Y.Q.dIc, .slice Y.Q.dX Z.P.nX Y.Q.dXc, .slice Y.Q.dN Z.P.nN Y.Q.dNc, .int .i64 Z.P.rf, .int .i64 Z.P.xt, .int .i64 Z.P.ce, .int .i64 Z.ix, .int .i64 Z.cc, .int .i64 Z.fi, .int .i64 Z.la]
  have hB := ba w (.cells #[.slice Y.ds Z.nd Y.dsc, .slice Y.lv Z.nl Y.lvc, .slice Y.sp Z.ns Y.spc, .slice Y.tl Z.nt Y.tlc, .slice Y.ms Z.nm Y.msc, .string Z.P.nm, .int .i64 Z.P.em, .int .i64 Z.P.fu, .slice Y.Q.al Z.P.na Y.Q.alc, .slice Y.Q.ma Z.P.nM Y.Q.mac, .slice Y.Q.tC Z.P.nC Y.Q.tCc, .slice Y.Q.tF Z.P.nF Y.Q.tFc, .slice Y.Q.tR Z.P.nR Y.Q.tRc, .slice Y.Q.dD Z.P.nD Y.Q.dDc, .slice Y.Q.dI Z.P.nI Y.Q.dIc, .slice Y.Q.dX Z.P.nX Y.Q.dXc, .slice Y.Q.dN Z.P.nN Y.Q.dNc, .int .i64 Z.P.rf, .int .i64 Z.P.xt, .int .i64 Z.P.ce, .int .i64 Z.ix, .int .i64 Z.cc, .int .i64 Z.fi, .int .i64 Z.la] 27)
  go_upto_region 1 with fail
  generalize World.alloc w _ = w1 at PB hB ⊢
  obtain ⟨d0, d1, d2, d20, d21, d22, d23, d24, d25⟩ := PB.ow24
  go_wp2_with (with_reducible show wpList _ _ _ _ _ _; refine wpList_B _ rfl rfl rfl (by with_reducible assumption) ?_)
  refine (Krcheck_z.out _ (H.keep hB)).mono ?_
  rintro e w2 ⟨rfl, hb⟩
  clear d0 d1 d2 d20 d21 d22 d23 d24 d25
  replace hB := bt hB hb
  replace PB := PB.keep hb
  clear hb PB
  go_wp2_with fail
  go_returns
  exact ⟨rfl, hB⟩
set_option maxRecDepth 100000 in
set_option maxHeartbeats 4000000 in
theorem rsolve_o (Z : ZD) (Y : ZA) (w : World) (H : ZIn w Z Y) (hz : Oz.zck Z = 0) : Calls Try.prog 25 #[.agg #[.slice Y.ds Z.nd Y.dsc, .slice Y.lv Z.nl Y.lvc, .slice Y.sp Z.ns Y.spc, .slice Y.tl Z.nt Y.tlc, .slice Y.ms Z.nm Y.msc, .string Z.P.nm, .int .i64 Z.P.em, .int .i64 Z.P.fu, .slice Y.Q.al Z.P.na Y.Q.alc, .slice Y.Q.ma Z.P.nM Y.Q.mac, .slice Y.Q.tC Z.P.nC Y.Q.tCc, .slice Y.Q.tF Z.P.nF Y.Q.tFc, .slice Y.Q.tR Z.P.nR Y.Q.tRc, .slice Y.Q.dD Z.P.nD Y.Q.dDc, .slice Y.Q.dI Z.P.nI Y.Q.dIc, .slice Y.Q.dX Z.P.nX Y.Q.dXc, .slice Y.Q.dN Z.P.nN Y.Q.dNc, .int .i64 Z.P.rf, .int .i64 Z.P.xt, .int .i64 Z.P.ce, .int .i64 Z.ix, .int .i64 Z.cc, .int .i64 Z.fi, .int .i64 Z.la]] w fun e w' => ∃ (C D : Nat → Int), Hid (Ce.Lab (Oz.gN Z) (Oz.gL Z).length (Oz.gE Z) 0 C D) ∧ Below w.heap.size w w' ∧ ((C (Oz.gN Z - 1) < 0 ∧ e = .returned (.tuple #[.slice none 0 0, .int .i64 0, .slice none 0 0, .int .i64 6])) ∨
    (0 ≤ C (Oz.gN Z - 1) ∧ ∃ (A1 : Option Addr) (c1 : Nat) (A2 : Option Addr) (c2 : Nat), e = .returned (.tuple #[.slice A1 Z.nd c1, .int .i64 (C (Oz.gN Z - 1)), .slice A2 (Oz.gN Z) c2, .int .i64 0]) ∧ Rd w' 2 A1 Z.nd c1 (iv (Oz.rC Z (Ce.rt (Oz.gL Z).length (Oz.gE Z) C D ((Oz.gN Z - 1 : Nat) : Int)))) ∧ Rd w' 1 A2 (Oz.gN Z) c2 (nv (Ce.pot (Oz.gN Z) C)))) := by
  have O := Oz.zck_ok hz
  have ng := Oz.gN_bd O
  have hOk := Oz.g_ok O
  have Krcheck_z := Lib.hid (fun wx (h : ZIn wx Z Y) => rcheck_z Z Y wx h)
  rw [hz] at Krcheck_z
  have HZ := Lib.hid hz
  clear hz
  go_enter Try.func25, Try.ntmps25
  try simp only [List.append_eq, List.cons_append, List.nil_append]
  have PB := Blk.new w 27 #[.slice Y.ds Z.nd Y.dsc, .slice Y.lv Z.nl Y.lvc, .slice Y.sp Z.ns Y.spc, .slice Y.tl Z.nt Y.tlc, .slice Y.ms Z.nm Y.msc, .string Z.P.nm, .int .i64 Z.P.em, .int .i64 Z.P.fu, .slice Y.Q.al Z.P.na Y.Q.alc, .slice Y.Q.ma Z.P.nM Y.Q.mac, .slice Y.Q.tC Z.P.nC Y.Q.tCc, .slice Y.Q.tF Z.P.nF Y.Q.tFc, .slice Y.Q.tR Z.P.nR Y.Q.tRc, .slice Y.Q.dD Z.P.nD Y.Q.dDc, .slice Y.Q.dI Z.P.nI Y.Q.dIc, .slice Y.Q.dX Z.P.nX Y.Q.dXc, .slice Y.Q.dN Z.P.nN Y.Q.dNc, .int .i64 Z.P.rf, .int .i64 Z.P.xt, .int .i64 Z.P.ce, .int .i64 Z.ix, .int .i64 Z.cc, .int .i64 Z.fi, .int .i64 Z.la]
  have hB := ba w (.cells #[.slice Y.ds Z.nd Y.dsc, .slice Y.lv Z.nl Y.lvc, .slice Y.sp Z.ns Y.spc, .slice Y.tl Z.nt Y.tlc, .slice Y.ms Z.nm Y.msc, .string Z.P.nm, .int .i64 Z.P.em, .int .i64 Z.P.fu, .slice Y.Q.al Z.P.na Y.Q.alc, .slice Y.Q.ma Z.P.nM Y.Q.mac, .slice Y.Q.tC Z.P.nC Y.Q.tCc, .slice Y.Q.tF Z.P.nF Y.Q.tFc, .slice Y.Q.tR Z.P.nR Y.Q.tRc, .slice Y.Q.dD Z.P.nD Y.Q.dDc, .slice Y.Q.dI Z.P.nI Y.Q.dIc, .slice Y.Q.dX Z.P.nX Y.Q.dXc, .slice Y.Q.dN Z.P.nN Y.Q.dNc, .int .i64 Z.P.rf, .int .i64 Z.P.xt, .int .i64 Z.P.ce, .int .i64 Z.ix, .int .i64 Z.cc, .int .i64 Z.fi, .int .i64 Z.la] 27)
  go_upto_region 1 with fail
  generalize World.alloc w _ = w1 at PB hB ⊢
  obtain ⟨d0, d1, d2, d20, d21, d22, d23, d24, d25⟩ := PB.ow24
  go_wp2_with (with_reducible show wpList _ _ _ _ _ _; refine wpList_B _ rfl rfl rfl (by with_reducible assumption) ?_)
  refine (Krcheck_z.out _ (H.keep hB)).mono ?_
  rintro e w2 ⟨rfl, hb⟩
  clear d0 d1 d2 d20 d21 d22 d23 d24 d25
  replace hB := bt hB hb
  replace PB := PB.keep hb
  clear hb
  obtain ⟨d0, d1, d2, d20, d21, d22, d23, d24, d25⟩ := PB.ow24
  go_wp2_with (with_reducible show wpList _ _ _ _ _ _; refine wpList_B _ rfl rfl rfl (by with_reducible assumption) ?_)
  refine (rbuild_c Z Y _ (H.keep hB) HZ.out).mono ?_
  rintro e w3 ⟨A, AC, c, cC, rfl, oe, oq, hb⟩
  clear d0 d1 d2 d20 d21 d22 d23 d24 d25
  have T := oe.rd.keep (ba w3 (.cells #[.int .i64 (Oz.gN Z : Int), .slice A (Oz.gL Z).length c] 41))
  replace hB := bal (bt hB hb) (.cells #[.int .i64 (Oz.gN Z : Int), .slice A (Oz.gL Z).length c] 41)
  replace PB := (PB.keep hb).alloc (.cells #[.int .i64 (Oz.gN Z : Int), .slice A (Oz.gL Z).length c] 41)
  have GX := Blk.new w3 41 #[.int .i64 (Oz.gN Z : Int), .slice A (Oz.gL Z).length c]
  clear hb oe oq
  obtain ⟨c0, c1, c2, c3⟩ := GX.open2
  have KS := rsolve_c A (Oz.gN Z) (Oz.gL Z).length c (Oz.gE Z) 0 _ T hOk (by omega) (Oz.gN Z - 1) (by omega)
  rw [Oz.gN_1] at KS
  go_wp2_with fail
  refine KS.mono ?_
  rintro e w4 ⟨C, D, HL, hb, ⟨hc, rfl⟩ | ⟨hc, A1, c1_, A2, c2_, rfl, R1, R2⟩⟩
  · go_wp2_with fail
    go_returns
    exact ⟨C, D, HL, bt hB hb, .inl ⟨hc, rfl⟩⟩
  clear KS c0 c1 c2 c3
  replace hB := bt hB hb
  replace GX := GX.keep hb
  replace PB := PB.keep hb
  replace T := T.keep hb
  clear hb
  obtain ⟨s1, s2, s3, s4⟩ := Oz.sol_ok HZ.out HL.out hc
  have S1 := Lib.hid s1
  have E1 := Lib.hid (Ce.cer_ok.2 ⟨Oz.g_en O, s1⟩)
  have E2 := Lib.hid ((Ce.cst_yes E1.out).trans s2)
  have HC := Lib.hid hc
  clear s1 s2 s3 s4
  rw [← Oz.gN_1] at R1
  obtain ⟨c0, c1, c2, c3⟩ := GX.open2
  go_wp2_with fail
  refine (rcost_c A (Oz.gN Z : Int) (Oz.gL Z).length c (Oz.gE Z) _ T (by omega) (by omega) 0 ((Oz.gN Z : Int) - 1) _ _ _ _ R1).mono ?_
  rintro e w5 ⟨rfl, hb⟩
  rw [E1.out, E2.out]
  clear c0 c1 c2 c3
  replace hB := bt hB hb
  replace PB := PB.keep hb
  replace R1 := R1.keep hb
  replace R2 := R2.keep hb
  clear hb T GX
  obtain ⟨d0, d1, d2, d20, d21, d22, d23, d24, d25⟩ := PB.ow24
  go_wp2_with (with_reducible show wpList _ _ _ _ _ _; refine wpList_B _ rfl rfl rfl (by with_reducible assumption) ?_)
  refine (rroute_c Z Y A1 _ c1_ _ _ (H.keep hB) R1 HZ.out S1.out).mono ?_
  rintro e w6 ⟨A', c', rfl, R3, hb⟩
  go_wp2_with fail
  go_returns
  exact ⟨C, D, HL, bt hB hb, .inr ⟨HC.out, A', c', A2, c2_, rfl, R3, R2.keep hb⟩⟩
end Go.Proofs.Ytoeklllahpegfaa
/-
  The walk of OptimizeSolves.
-/
namespace Go.Proofs.Ytoeklllahpegfaa
set_option linter.unusedVariables false
set_option linter.unusedSimpArgs false
open Go.RowKit
attribute [local irreducible] World.setCell World.cell?

/-- Two searches find the same. -/
theorem rC_same {Z : ZD} {C D C' D' : Nat → Int} (hz : Oz.zck Z = 0) (h : Ce.Lab (Oz.gN Z) (Oz.gL Z).length (Oz.gE Z) 0 C D) (h' : Ce.Lab (Oz.gN Z) (Oz.gL Z).length (Oz.gE Z) 0 C' D') (hc : 0 ≤ C (Oz.gN Z - 1)) {p : Nat} (hp : p < Z.nd) (f : Nat) :
    Oz.rC Z (Ce.rt (Oz.gL Z).length (Oz.gE Z) C' D' ((Oz.gN Z - 1 : Nat) : Int)) p f = Oz.rC Z (Ce.rt (Oz.gL Z).length (Oz.gE Z) C D ((Oz.gN Z - 1 : Nat) : Int)) p f := by
  have O := Oz.zck_ok hz
  have n2 := Oz.gN_2 Z
  obtain ⟨r1, _⟩ := Oz.sol_ok hz h hc
  have hl := (Oz.route_len O r1).1
  unfold Oz.rC
  rw [Ce.rt_congr (Oz.g_ok O) h h' (b := ((Oz.gN Z - 1 : Nat) : Int)) (by omega) (by omega) (by simpa using hc) (by rw [Int.toNat_natCast]; omega)]
set_option maxRecDepth 100000 in
set_option maxHeartbeats 8000000 in
theorem law_solves (Z : ZD) (Y : ZA) (w : World) (H : ZIn w Z Y) : Calls Try.prog 5 #[.agg #[.slice Y.ds Z.nd Y.dsc, .slice Y.lv Z.nl Y.lvc, .slice Y.sp Z.ns Y.spc, .slice Y.tl Z.nt Y.tlc, .slice Y.ms Z.nm Y.msc, .string Z.P.nm, .int .i64 Z.P.em, .int .i64 Z.P.fu, .slice Y.Q.al Z.P.na Y.Q.alc, .slice Y.Q.ma Z.P.nM Y.Q.mac, .slice Y.Q.tC Z.P.nC Y.Q.tCc, .slice Y.Q.tF Z.P.nF Y.Q.tFc, .slice Y.Q.tR Z.P.nR Y.Q.tRc, .slice Y.Q.dD Z.P.nD Y.Q.dDc, .slice Y.Q.dI Z.P.nI Y.Q.dIc, .slice Y.Q.dX Z.P.nX Y.Q.dXc, .slice Y.Q.dN Z.P.nN Y.Q.dNc, .int .i64 Z.P.rf, .int .i64 Z.P.xt, .int .i64 Z.P.ce, .int .i64 Z.ix, .int .i64 Z.cc, .int .i64 Z.fi, .int .i64 Z.la]] w fun e w' => e = .returned (.bool true) ∧ Below w.heap.size w w' := by
  go_enter Try.func5, Try.ntmps5
  try simp only [List.append_eq, List.cons_append, List.nil_append]
  have PB := Blk.new w 27 #[.slice Y.ds Z.nd Y.dsc, .slice Y.lv Z.nl Y.lvc, .slice Y.sp Z.ns Y.spc, .slice Y.tl Z.nt Y.tlc, .slice Y.ms Z.nm Y.msc, .string Z.P.nm, .int .i64 Z.P.em, .int .i64 Z.P.fu, .slice Y.Q.al Z.P.na Y.Q.alc, .slice Y.Q.ma Z.P.nM Y.Q.mac, .slice Y.Q.tC Z.P.nC Y.Q.tCc, .slice Y.Q.tF Z.P.nF Y.Q.tFc, .slice Y.Q.tR Z.P.nR Y.Q.tRc, .slice Y.Q.dD Z.P.nD Y.Q.dDc, .slice Y.Q.dI Z.P.nI Y.Q.dIc, .slice Y.Q.dX Z.P.nX Y.Q.dXc, .slice Y.Q.dN Z.P.nN Y.Q.dNc, .int .i64 Z.P.rf, .int .i64 Z.P.xt, .int .i64 Z.P.ce, .int .i64 Z.ix, .int .i64 Z.cc, .int .i64 Z.fi, .int .i64 Z.la]
  have hB := ba w (.cells #[.slice Y.ds Z.nd Y.dsc, .slice Y.lv Z.nl Y.lvc, .slice Y.sp Z.ns Y.spc, .slice Y.tl Z.nt Y.tlc, .slice Y.ms Z.nm Y.msc, .string Z.P.nm, .int .i64 Z.P.em, .int .i64 Z.P.fu, .slice Y.Q.al Z.P.na Y.Q.alc, .slice Y.Q.ma Z.P.nM Y.Q.mac, .slice Y.Q.tC Z.P.nC Y.Q.tCc, .slice Y.Q.tF Z.P.nF Y.Q.tFc, .slice Y.Q.tR Z.P.nR Y.Q.tRc, .slice Y.Q.dD Z.P.nD Y.Q.dDc, .slice Y.Q.dI Z.P.nI Y.Q.dIc, .slice Y.Q.dX Z.P.nX Y.Q.dXc, .slice Y.Q.dN Z.P.nN Y.Q.dNc, .int .i64 Z.P.rf, .int .i64 Z.P.xt, .int .i64 Z.P.ce, .int .i64 Z.ix, .int .i64 Z.cc, .int .i64 Z.fi, .int .i64 Z.la] 27)
  go_upto_region 1 with fail
  generalize World.alloc w _ = w1 at PB hB ⊢
  go_wp2_with fail
  refine (awake_c _).mono ?_
  rintro e w2 ⟨rfl, hb⟩
  replace hB := bt hB hb
  replace PB := PB.keep hb
  clear hb
  by_cases hz : Oz.zck Z = 0
  rotate_left
  · obtain ⟨z, ez⟩ : ∃ z, Hid (Oz.zck Z = z) := ⟨_, rfl⟩
    have K1 := Lib.hid (fun wx (h : ZIn wx Z Y) => solve_z Z Y wx h hz)
    have K2 := Lib.hid (fun wx (h : ZIn wx Z Y) => rsolve_z Z Y wx h hz)
    rw [ez.out] at K1 K2
    clear hz
    obtain ⟨d0, d1, d2, d20, d21, d22, d23, d24, d25⟩ := PB.ow24
    go_wp2_with (with_reducible show wpList _ _ _ _ _ _; refine wpList_B _ rfl rfl rfl (by with_reducible assumption) ?_)
    refine (K1.out _ (H.keep hB)).mono ?_
    rintro e w3 ⟨rfl, hb⟩
    clear d0 d1 d2 d20 d21 d22 d23 d24 d25
    replace PB := PB.keep hb
    replace hB := bt hB hb
    clear hb
    obtain ⟨d0, d1, d2, d20, d21, d22, d23, d24, d25⟩ := PB.ow24
    go_wp2_with (with_reducible show wpList _ _ _ _ _ _; refine wpList_B _ rfl rfl rfl (by with_reducible assumption) ?_)
    refine (K2.out _ (H.keep hB)).mono ?_
    rintro e w4 ⟨rfl, hb⟩
    clear d0 d1 d2 d20 d21 d22 d23 d24 d25
    replace hB := bt hB hb
    clear hb PB
    go_wp2_with fail
    refine (choices_c none none 0 0 0 (fun _ _ => 0) _ (Rd.nil _ _ _) (Rd.nil _ _ _)).mono ?_
    rintro e w5 ⟨rfl, hb⟩
    replace hB := bt hB hb
    clear hb
    go_wp2_with fail
    go_loopw [11, 51] (fun s_ i_ wr => i_ = .int .i64 0 ∧ wr = w5) (fun _ i_ _ => 0)
    case atStart => exact ⟨rfl, rfl⟩
    case round =>
      obtain ⟨rfl, rfl⟩ := hrel
      go_wp2_with fail
      go_returns
      first | exact ⟨rfl, hB⟩ | exact hB
  have HZ := Lib.hid hz
  have O := Oz.zck_ok hz
  have ng := Oz.gN_bd O
  have n2 := Oz.gN_2 Z
  clear hz
  obtain ⟨d0, d1, d2, d20, d21, d22, d23, d24, d25⟩ := PB.ow24
  go_wp2_with (with_reducible show wpList _ _ _ _ _ _; refine wpList_B _ rfl rfl rfl (by with_reducible assumption) ?_)
  refine (solve_o Z Y _ (H.keep hB) HZ.out).mono ?_
  rintro e w3 ⟨C, D, HL, hb, hcase⟩
  clear d0 d1 d2 d20 d21 d22 d23 d24 d25
  replace hB := bt hB hb
  replace PB := PB.keep hb
  clear hb
  have KS := Lib.hid (fun wx (h : ZIn wx Z Y) => rsolve_o Z Y wx h HZ.out)
  rcases hcase with ⟨hc, rfl⟩ | ⟨hc, A1, c1, A2, c2, rfl, R1, R2, FR⟩
  · obtain ⟨d0, d1, d2, d20, d21, d22, d23, d24, d25⟩ := PB.ow24
    go_wp2_with (with_reducible show wpList _ _ _ _ _ _; refine wpList_B _ rfl rfl rfl (by with_reducible assumption) ?_)
    refine (KS.out _ (H.keep hB)).mono ?_
    rintro e w4 ⟨C', D', HL', hb, hcase⟩
    clear d0 d1 d2 d20 d21 d22 d23 d24 d25
    replace hB := bt hB hb
    clear hb PB
    have hu := HL.out.C_eq (Oz.g_ok O) HL'.out (Oz.gN Z - 1) (by omega)
    rcases hcase with ⟨hc', rfl⟩ | ⟨hc', _⟩
    rotate_left
    · omega
    clear hu hc hc'
    go_wp2_with fail
    refine (choices_c none none 0 0 0 (fun _ _ => 0) _ (Rd.nil _ _ _) (Rd.nil _ _ _)).mono ?_
    rintro e w5 ⟨rfl, hb⟩
    replace hB := bt hB hb
    clear hb
    go_wp2_with fail
    go_loopw [11, 51] (fun s_ i_ wr => i_ = .int .i64 0 ∧ wr = w5) (fun _ i_ _ => 0)
    case atStart => exact ⟨rfl, rfl⟩
    case round =>
      obtain ⟨rfl, rfl⟩ := hrel
      go_wp2_with fail
      go_returns
      first | exact ⟨rfl, hB⟩ | exact hB
  obtain ⟨d0, d1, d2, d20, d21, d22, d23, d24, d25⟩ := PB.ow24
  go_wp2_with (with_reducible show wpList _ _ _ _ _ _; refine wpList_B _ rfl rfl rfl (by with_reducible assumption) ?_)
  refine (KS.out _ (H.keep hB)).mono ?_
  rintro e w4 ⟨C', D', HL', hb, hcase⟩
  clear d0 d1 d2 d20 d21 d22 d23 d24 d25
  replace hB := bt hB hb
  replace R1 := R1.keep hb
  replace R2 := R2.keep hb
  clear hb PB FR
  have hu := HL.out.C_eq (Oz.g_ok O) HL'.out (Oz.gN Z - 1) (by omega)
  rcases hcase with ⟨hc', _⟩ | ⟨hc', A3, c3, A4, c4, rfl, R3, R4⟩
  · omega
  have R5 : Rd w4 2 A3 Z.nd c3 (iv (Oz.rC Z (Ce.rt (Oz.gL Z).length (Oz.gE Z) C D ((Oz.gN Z - 1 : Nat) : Int)))) := R3.congr fun i j hi _ => by
    unfold iv
    rw [rC_same HZ.out HL.out HL'.out hc hi j]
  have R6 : Rd w4 1 A4 (Oz.gN Z) c4 (nv (Ce.pot (Oz.gN Z) C)) := R4.congr fun i j hi _ => by
    unfold nv
    rw [Ce.pot_congr (Oz.g_ok O) HL'.out HL.out hi]
  rw [← hu]
  clear R3 R4 hu hc hc' KS
  generalize C (Oz.gN Z - 1) = cv at *
  go_wp2_with fail
  refine (choices_c _ _ _ _ _ _ _ R1 R5).mono ?_
  rintro e w5 ⟨rfl, hb⟩
  replace hB := bt hB hb
  replace R2 := R2.keep hb
  replace R6 := R6.keep hb
  clear hb R1 R5
  generalize Ce.pot (Oz.gN Z) C = P at *
  have ra := R2.le
  have rb := R2.mx
  have rc := R6.le
  have rd := R6.mx
  go_wp2_with fail
  go_loopw [11, 51] (fun s_ i_ wr => ∃ k : Nat, k ≤ Oz.gN Z ∧ i_ = .int .i64 (k : Int) ∧ Below w5.heap.size w5 wr) (fun _ i_ _ => Oz.gN Z - (intOf i_).toNat)
  case atStart => exact ⟨0, Nat.zero_le _, rfl, Below.refl _ _⟩
  case round =>
    obtain ⟨k, hk, rfl, hW⟩ := hrel
    by_cases hlt : k < Oz.gN Z
    · obtain ⟨b1, o1, eA, hbl1, x0⟩ := (R2.keep hW).at1 hlt
      obtain ⟨b2, o2, eB, hbl2, y0⟩ := (R6.keep hW).at1 hlt
      have HA := Lib.hid eA
      have HB := Lib.hid eB
      rw [HA.out, HB.out]
      clear eA eB
      go_wp2_with fail
      go_quiet (fail)
      go_wp2_with fail
      first
        | exact ⟨⟨k + 1, by omega, by go_num, bdnl hW _⟩, by simp [intOf]; omega⟩
        | (rw [← HA.out, ← HB.out]; go_roundw; case rel => exact ⟨k + 1, by omega, by go_num, bdnl hW _⟩; case measure => simp [intOf]; omega)
    · obtain rfl : k = Oz.gN Z := by omega
      go_wp2_with fail
      go_returns
      first | exact ⟨rfl, bt hB hW⟩ | exact bt hB hW
end Go.Proofs.Ytoeklllahpegfaa
