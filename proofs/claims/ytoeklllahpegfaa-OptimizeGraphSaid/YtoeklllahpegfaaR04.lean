/-
  Words and contracts, put together: OJr, ON2.
-/
import Derived.Test.YtoeklllahpegfaaM09
import Derived.Test.YtoeklllahpegfaaM12
import Derived.Test.YtoeklllahpegfaaM13
import Derived.Test.YtoeklllahpegfaaR02
import Derived.Test.YtoeklllahpegfaaR03
/-
  Contract: the reference's Route.
-/
namespace Go.Proofs.Ytoeklllahpegfaa
set_option linter.unusedVariables false
set_option linter.unusedSimpArgs false
open Go.RowKit
attribute [local irreducible] World.setCell World.cell?

namespace Oz
theorem rC_nn {Z : ZD} {R : Nat → Int} {l : Nat} (O : ZOk Z) (h : Ce.Rt (gL Z).length (gE Z) 0 ((gN Z : Int) - 1) l R) {p : Nat} (hp : p < Z.nd) : 0 ≤ rC Z R p 0 ∧ 0 ≤ rC Z R p 1 := by
  obtain ⟨i, j, s, _, _, _, h4, h5⟩ := rd_in O h hp
  rw [rC_0, rC_1]
  rw [h4]; exact ⟨by omega, by rw [h5]; omega⟩
end Oz
set_option maxRecDepth 100000 in
set_option maxHeartbeats 4000000 in
theorem rroute_z (Z : ZD) (Y : ZA) (B : Option Addr) (l d : Nat) (R : Nat → Int) (w : World) (H : ZIn w Z Y) (U : Rd w 1 B l d (nv R)) (h : Oz.zck Z ≠ 0) : Calls Try.prog 22 #[.agg #[.slice Y.ds Z.nd Y.dsc, .slice Y.lv Z.nl Y.lvc, .slice Y.sp Z.ns Y.spc, .slice Y.tl Z.nt Y.tlc, .slice Y.ms Z.nm Y.msc, .string Z.P.nm, .int .i64 Z.P.em, .int .i64 Z.P.fu, .slice Y.Q.al Z.P.na Y.Q.alc, .slice Y.Q.ma Z.P.nM Y.Q.mac, .slice Y.Q.tC Z.P.nC Y.Q.tCc, .slice Y.Q.tF Z.P.nF Y.Q.tFc, .slice Y.Q.tR Z.P.nR Y.Q.tRc, .slice Y.Q.dD Z.P.nD Y.Q.dDc, .slice Y.Q.dI Z.P.nI Y.Q.dIc, .slice Y.Q.dX Z.P.nX Y.Q.dXc, .slice Y.Q.dN Z.P.nN Y.Q.dNc, .int .i64 Z.P.rf, .int .i64 Z.P.xt, .int .i64 Z.P.ce, .int .i64 Z.ix, .int .i64 Z.cc, .int .i64 Z.fi, .int .i64 Z.la], .slice B l d] w fun e w' => e = .returned (.tuple #[.slice none 0 0, .int .i64 (Oz.zck Z)]) ∧ Below w.heap.size w w' := by
  obtain ⟨z, ez⟩ : ∃ z, Hid (Oz.zck Z = z) := ⟨_, rfl⟩
  have Krcheck_z := Lib.hid (fun wx (h : ZIn wx Z Y) => rcheck_z Z Y wx h)
  rw [ez.out] at Krcheck_z h ⊢
  have hz1 : (z != 0) = true := by simpa using h
  clear h
  go_enter Try.func22, Try.ntmps22
  try simp only [List.append_eq, List.cons_append, List.nil_append]
  have PB := Blk.new w 27 #[.slice Y.ds Z.nd Y.dsc, .slice Y.lv Z.nl Y.lvc, .slice Y.sp Z.ns Y.spc, .slice Y.tl Z.nt Y.tlc, .slice Y.ms Z.nm Y.msc, .string Z.P.nm, .int .i64 Z.P.em, .int .i64 Z.P.fu, .slice Y.Q.al Z.P.na Y.Q.alc, .slice Y.Q.ma Z.P.nM Y.Q.mac, .slice Y.Q.tC Z.P.nC Y.Q.tCc, .slice Y.Q.tF Z.P.nF Y.Q.tFc, .slice Y.Q.tR Z.P.nR Y.Q.tRc, .slice Y.Q.dD Z.P.nD Y.Q.dDc, .slice Y.Q.dI Z.P.nI Y.Q.dIc, .slice Y.Q.dX Z.P.nX Y.Q.dXc, .slice Y.Q.dN Z.P.nN Y.Q.dNc, .int .i64 Z.P.rf, .int .i64 Z.P.xt, .int .i64 Z.P.ce, .int .i64 Z.ix, .int .i64 Z.cc, .int .i64 Z.fi, .int .i64 Z.la]
  have hB := ba w (.cells #[.slice Y.ds Z.nd Y.dsc, .slice Y.lv Z.nl Y.lvc, .slice Y.sp Z.ns Y.spc, .slice Y.tl Z.nt Y.tlc, .slice Y.ms Z.nm Y.msc, .string Z.P.nm, .int .i64 Z.P.em, .int .i64 Z.P.fu, .slice Y.Q.al Z.P.na Y.Q.alc, .slice Y.Q.ma Z.P.nM Y.Q.mac, .slice Y.Q.tC Z.P.nC Y.Q.tCc, .slice Y.Q.tF Z.P.nF Y.Q.tFc, .slice Y.Q.tR Z.P.nR Y.Q.tRc, .slice Y.Q.dD Z.P.nD Y.Q.dDc, .slice Y.Q.dI Z.P.nI Y.Q.dIc, .slice Y.Q.dX Z.P.nX Y.Q.dXc, .slice Y.Q.dN Z.P.nN Y.Q.dNc, .int .i64 Z.P.rf, .int .i64 Z.P.xt, .int .i64 Z.P.ce, .int .i64 Z.ix, .int .i64 Z.cc, .int .i64 Z.fi, .int .i64 Z.la] 27)
  go_upto_region 1 with fail
  generalize World.alloc w _ = w1 at PB hB ⊢
  obtain ⟨d0, d1, d2, d20, d21, d22, d23, d24, d25⟩ := PB.ow24
  go_wp2_with (with_reducible show wpList _ _ _ _ _ _; refine wpList_B _ rfl rfl rfl (by with_reducible assumption) ?_)
  refine (Krcheck_z.out _ (H.keep hB)).mono ?_
  rintro e w2 ⟨rfl, hb⟩
  clear d0 d1 d2 d20 d21 d22 d23 d24 d25
  replace hB := bt hB hb
  replace PB := PB.keep hb
  clear hb PB
  go_wp2_with fail
  go_returns
  exact ⟨rfl, hB⟩
set_option maxRecDepth 100000 in
set_option maxHeartbeats 4000000 in
theorem rroute_no (Z : ZD) (Y : ZA) (B : Option Addr) (l d : Nat) (R : Nat → Int) (w : World) (H : ZIn w Z Y) (U : Rd w 1 B l d (nv R)) (hz : Oz.zck Z = 0) (h : Ce.cer (Oz.gN Z : Int) (Oz.gL Z).length (Oz.gE Z) 0 ((Oz.gN Z : Int) - 1) l R ≠ 0) : Calls Try.prog 22 #[.agg #[.slice Y.ds Z.nd Y.dsc, .slice Y.lv Z.nl Y.lvc, .slice Y.sp Z.ns Y.spc, .slice Y.tl Z.nt Y.tlc, .slice Y.ms Z.nm Y.msc, .string Z.P.nm, .int .i64 Z.P.em, .int .i64 Z.P.fu, .slice Y.Q.al Z.P.na Y.Q.alc, .slice Y.Q.ma Z.P.nM Y.Q.mac, .slice Y.Q.tC Z.P.nC Y.Q.tCc, .slice Y.Q.tF Z.P.nF Y.Q.tFc, .slice Y.Q.tR Z.P.nR Y.Q.tRc, .slice Y.Q.dD Z.P.nD Y.Q.dDc, .slice Y.Q.dI Z.P.nI Y.Q.dIc, .slice Y.Q.dX Z.P.nX Y.Q.dXc, .slice Y.Q.dN Z.P.nN Y.Q.dNc, .int .i64 Z.P.rf, .int .i64 Z.P.xt, .int .i64 Z.P.ce, .int .i64 Z.ix, .int .i64 Z.cc, .int .i64 Z.fi, .int .i64 Z.la], .slice B l d] w fun e w' => e = .returned (.tuple #[.slice none 0 0, .int .i64 (Ce.cer (Oz.gN Z : Int) (Oz.gL Z).length (Oz.gE Z) 0 ((Oz.gN Z : Int) - 1) l R)]) ∧ Below w.heap.size w w' := by
  have h1 : (Ce.cer (Oz.gN Z : Int) (Oz.gL Z).length (Oz.gE Z) 0 ((Oz.gN Z : Int) - 1) l R != 0) = true := by simpa using h
  clear h
  have ng := Oz.gN_bd (Oz.zck_ok hz)
  have Krcheck_z := Lib.hid (fun wx (h : ZIn wx Z Y) => rcheck_z Z Y wx h)
  rw [hz] at Krcheck_z
  go_enter Try.func22, Try.ntmps22
  try simp only [List.append_eq, List.cons_append, List.nil_append]
  have PB := Blk.new w 27 #[.slice Y.ds Z.nd Y.dsc, .slice Y.lv Z.nl Y.lvc, .slice Y.sp Z.ns Y.spc, .slice Y.tl Z.nt Y.tlc, .slice Y.ms Z.nm Y.msc, .string Z.P.nm, .int .i64 Z.P.em, .int .i64 Z.P.fu, .slice Y.Q.al Z.P.na Y.Q.alc, .slice Y.Q.ma Z.P.nM Y.Q.mac, .slice Y.Q.tC Z.P.nC Y.Q.tCc, .slice Y.Q.tF Z.P.nF Y.Q.tFc, .slice Y.Q.tR Z.P.nR Y.Q.tRc, .slice Y.Q.dD Z.P.nD Y.Q.dDc, .slice Y.Q.dI Z.P.nI Y.Q.dIc, .slice Y.Q.dX Z.P.nX Y.Q.dXc, .slice Y.Q.dN Z.P.nN Y.Q.dNc, .int .i64 Z.P.rf, .int .i64 Z.P.xt, .int .i64 Z.P.ce, .int .i64 Z.ix, .int .i64 Z.cc, .int .i64 Z.fi, .int .i64 Z.la]
  have hB := ba w (.cells #[.slice Y.ds Z.nd Y.dsc, .slice Y.lv Z.nl Y.lvc, .slice Y.sp Z.ns Y.spc, .slice Y.tl Z.nt Y.tlc, .slice Y.ms Z.nm Y.msc, .string Z.P.nm, .int .i64 Z.P.em, .int .i64 Z.P.fu, .slice Y.Q.al Z.P.na Y.Q.alc, .slice Y.Q.ma Z.P.nM Y.Q.mac, .slice Y.Q.tC Z.P.nC Y.Q.tCc, .slice Y.Q.tF Z.P.nF Y.Q.tFc, .slice Y.Q.tR Z.P.nR Y.Q.tRc, .slice Y.Q.dD Z.P.nD Y.Q.dDc, .slice Y.Q.dI Z.P.nI Y.Q.dIc, .slice Y.Q.dX Z.P.nX Y.Q.dXc, .slice Y.Q.dN Z.P.nN Y.Q.dNc, .int .i64 Z.P.rf, .int .i64 Z.P.xt, .int .i64 Z.P.ce, .int .i64 Z.ix, .int .i64 Z.cc, .int .i64 Z.fi, .int .i64 Z.la] 27)
  go_upto_region 1 with fail
  generalize World.alloc w _ = w1 at PB hB ⊢
  obtain ⟨d0, d1, d2, d20, d21, d22, d23, d24, d25⟩ := PB.ow24
  go_wp2_with (with_reducible show wpList _ _ _ _ _ _; refine wpList_B _ rfl rfl rfl (by with_reducible assumption) ?_)
  refine (Krcheck_z.out _ (H.keep hB)).mono ?_
  rintro e w2 ⟨rfl, hb⟩
  clear d0 d1 d2 d20 d21 d22 d23 d24 d25
  replace hB := bt hB hb
  replace PB := PB.keep hb
  clear hb
  obtain ⟨d0, d1, d2, d20, d21, d22, d23, d24, d25⟩ := PB.ow24
  go_wp2_with (with_reducible show wpList _ _ _ _ _ _; refine wpList_B _ rfl rfl rfl (by with_reducible assumption) ?_)
  refine (rbuild_c Z Y _ (H.keep hB) hz).mono ?_
  rintro e w3 ⟨A, AC, c, cC, rfl, oe, oq, hb⟩
  clear d0 d1 d2 d20 d21 d22 d23 d24 d25
  replace hB := bt hB hb
  have re := oe.rd
  have rq := oq.rd
  clear hb PB oe oq
  have GX := Blk.new w3 41 #[.int .i64 (Oz.gN Z : Int), .slice A (Oz.gL Z).length c]
  have hg := bal hB (.cells #[.int .i64 (Oz.gN Z : Int), .slice A (Oz.gL Z).length c] 41)
  replace re := re.keep (ba w3 (.cells #[.int .i64 (Oz.gN Z : Int), .slice A (Oz.gL Z).length c] 41))
  replace rq := rq.keep (ba w3 (.cells #[.int .i64 (Oz.gN Z : Int), .slice A (Oz.gL Z).length c] 41))
  obtain ⟨c0, c1, c2, c3⟩ := GX.open2
  go_wp2_with fail
  refine (rcost_c A (Oz.gN Z : Int) (Oz.gL Z).length c (Oz.gE Z) _ re (by omega) (by omega) 0 ((Oz.gN Z : Int) - 1) B l d R (U.keep hg)).mono ?_
  rintro e w4 ⟨rfl, hb⟩
  replace hg := bt hg hb
  replace rq := rq.keep hb
  clear hb re GX c0 c1 c2 c3 hB
  go_wp2_with fail
  go_returns
  exact ⟨rfl, hg⟩
set_option maxRecDepth 100000 in
set_option maxHeartbeats 8000000 in
theorem rroute_c (Z : ZD) (Y : ZA) (B : Option Addr) (l d : Nat) (R : Nat → Int) (w : World) (H : ZIn w Z Y) (U : Rd w 1 B l d (nv R)) (hz : Oz.zck Z = 0) (h : Ce.Rt (Oz.gL Z).length (Oz.gE Z) 0 ((Oz.gN Z : Int) - 1) l R) : Calls Try.prog 22 #[.agg #[.slice Y.ds Z.nd Y.dsc, .slice Y.lv Z.nl Y.lvc, .slice Y.sp Z.ns Y.spc, .slice Y.tl Z.nt Y.tlc, .slice Y.ms Z.nm Y.msc, .string Z.P.nm, .int .i64 Z.P.em, .int .i64 Z.P.fu, .slice Y.Q.al Z.P.na Y.Q.alc, .slice Y.Q.ma Z.P.nM Y.Q.mac, .slice Y.Q.tC Z.P.nC Y.Q.tCc, .slice Y.Q.tF Z.P.nF Y.Q.tFc, .slice Y.Q.tR Z.P.nR Y.Q.tRc, .slice Y.Q.dD Z.P.nD Y.Q.dDc, .slice Y.Q.dI Z.P.nI Y.Q.dIc, .slice Y.Q.dX Z.P.nX Y.Q.dXc, .slice Y.Q.dN Z.P.nN Y.Q.dNc, .int .i64 Z.P.rf, .int .i64 Z.P.xt, .int .i64 Z.P.ce, .int .i64 Z.ix, .int .i64 Z.cc, .int .i64 Z.fi, .int .i64 Z.la], .slice B l d] w fun e w' => ∃ (A' : Option Addr) (c' : Nat), e = .returned (.tuple #[.slice A' Z.nd c', .int .i64 0]) ∧ Rd w' 2 A' Z.nd c' (iv (Oz.rC Z R)) ∧ Below w.heap.size w w' := by
  have O := Oz.zck_ok hz
  have hen := Oz.g_en O
  have hcer : Ce.cer (Oz.gN Z : Int) (Oz.gL Z).length (Oz.gE Z) 0 ((Oz.gN Z : Int) - 1) l R = 0 := Ce.cer_ok.2 ⟨hen, h⟩
  have hin := Lib.hid (fun p (hp : p < Z.nd) => Oz.rC_nn O h hp)
  have hR := Lib.hid h.i
  have n2 := O.nd2
  have hm := Oz.len_gL O
  obtain rfl : l = Z.nd + 1 := (Oz.route_len O h).1
  have u1 := U.le
  have u2 := U.mx
  clear h hen
  obtain ⟨i2, hi0, hz0, hz1, hz2⟩ := info_parts infoC
  have KI := Lib.hid hi0
  have KZ0 := Lib.hid hz0
  have KZ1 := Lib.hid hz1
  have KZ2 := Lib.hid hz2
  clear hi0 hz0 hz1 hz2
  have ng := Oz.gN_bd (Oz.zck_ok hz)
  have Krcheck_z := Lib.hid (fun wx (h : ZIn wx Z Y) => rcheck_z Z Y wx h)
  rw [hz] at Krcheck_z
  go_enter Try.func22, Try.ntmps22
  try simp only [List.append_eq, List.cons_append, List.nil_append]
  have PB := Blk.new w 27 #[.slice Y.ds Z.nd Y.dsc, .slice Y.lv Z.nl Y.lvc, .slice Y.sp Z.ns Y.spc, .slice Y.tl Z.nt Y.tlc, .slice Y.ms Z.nm Y.msc, .string Z.P.nm, .int .i64 Z.P.em, .int .i64 Z.P.fu, .slice Y.Q.al Z.P.na Y.Q.alc, .slice Y.Q.ma Z.P.nM Y.Q.mac, .slice Y.Q.tC Z.P.nC Y.Q.tCc, .slice Y.Q.tF Z.P.nF Y.Q.tFc, .slice Y.Q.tR Z.P.nR Y.Q.tRc, .slice Y.Q.dD Z.P.nD Y.Q.dDc, .slice Y.Q.dI Z.P.nI Y.Q.dIc, .slice Y.Q.dX Z.P.nX Y.Q.dXc, .slice Y.Q.dN Z.P.nN Y.Q.dNc, .int .i64 Z.P.rf, .int .i64 Z.P.xt, .int .i64 Z.P.ce, .int .i64 Z.ix, .int .i64 Z.cc, .int .i64 Z.fi, .int .i64 Z.la]
  have hB := ba w (.cells #[.slice Y.ds Z.nd Y.dsc, .slice Y.lv Z.nl Y.lvc, .slice Y.sp Z.ns Y.spc, .slice Y.tl Z.nt Y.tlc, .slice Y.ms Z.nm Y.msc, .string Z.P.nm, .int .i64 Z.P.em, .int .i64 Z.P.fu, .slice Y.Q.al Z.P.na Y.Q.alc, .slice Y.Q.ma Z.P.nM Y.Q.mac, .slice Y.Q.tC Z.P.nC Y.Q.tCc, .slice Y.Q.tF Z.P.nF Y.Q.tFc, .slice Y.Q.tR Z.P.nR Y.Q.tRc, .slice Y.Q.dD Z.P.nD Y.Q.dDc, .slice Y.Q.dI Z.P.nI Y.Q.dIc, .slice Y.Q.dX Z.P.nX Y.Q.dXc, .slice Y.Q.dN Z.P.nN Y.Q.dNc, .int .i64 Z.P.rf, .int .i64 Z.P.xt, .int .i64 Z.P.ce, .int .i64 Z.ix, .int .i64 Z.cc, .int .i64 Z.fi, .int .i64 Z.la] 27)
  go_upto_region 1 with fail
  generalize World.alloc w _ = w1 at PB hB ⊢
  obtain ⟨d0, d1, d2, d20, d21, d22, d23, d24, d25⟩ := PB.ow24
  go_wp2_with (with_reducible show wpList _ _ _ _ _ _; refine wpList_B _ rfl rfl rfl (by with_reducible assumption) ?_)
  refine (Krcheck_z.out _ (H.keep hB)).mono ?_
  rintro e w2 ⟨rfl, hb⟩
  clear d0 d1 d2 d20 d21 d22 d23 d24 d25
  replace hB := bt hB hb
  replace PB := PB.keep hb
  clear hb
  obtain ⟨d0, d1, d2, d20, d21, d22, d23, d24, d25⟩ := PB.ow24
  go_wp2_with (with_reducible show wpList _ _ _ _ _ _; refine wpList_B _ rfl rfl rfl (by with_reducible assumption) ?_)
  refine (rbuild_c Z Y _ (H.keep hB) hz).mono ?_
  rintro e w3 ⟨A, AC, c, cC, rfl, oe, oq, hb⟩
  clear d0 d1 d2 d20 d21 d22 d23 d24 d25
  replace hB := bt hB hb
  have re := oe.rd
  have rq := oq.rd
  clear hb PB oe oq
  have GX := Blk.new w3 41 #[.int .i64 (Oz.gN Z : Int), .slice A (Oz.gL Z).length c]
  have hg := bal hB (.cells #[.int .i64 (Oz.gN Z : Int), .slice A (Oz.gL Z).length c] 41)
  replace re := re.keep (ba w3 (.cells #[.int .i64 (Oz.gN Z : Int), .slice A (Oz.gL Z).length c] 41))
  replace rq := rq.keep (ba w3 (.cells #[.int .i64 (Oz.gN Z : Int), .slice A (Oz.gL Z).length c] 41))
  obtain ⟨c0, c1, c2, c3⟩ := GX.open2
  go_wp2_with fail
  refine (rcost_c A (Oz.gN Z : Int) (Oz.gL Z).length c (Oz.gE Z) _ re (by omega) (by omega) 0 ((Oz.gN Z : Int) - 1) B (Z.nd + 1) d R (U.keep hg)).mono ?_
  rintro e w4 ⟨rfl, hb⟩
  replace hg := bt hg hb
  replace rq := rq.keep hb
  clear hb re GX c0 c1 c2 c3 hB
  rw [hcer]
  have rq1 := rq.le
  have rq2 := rq.mx
  obtain ⟨b0, off0, eB0, hbl0, v00⟩ := (U.keep hg).at1 (k := 0) (by omega)
  have HB_ := Lib.hid eB0
  rw [HB_.out]
  clear eB0 v00
  have i4 : (Z.nd : Int) + 1 - 1 = (Z.nd : Int) := by omega
  have i5 : (0 : Int) ≤ (Z.nd : Int) := by omega
  have i6 : (Z.nd : Int) ≤ (d : Int) := by omega
  have i7 : ¬ d = 0 := by omega
  go_wp2_with fail
  go_loopw [11, 42] (fun s11 i_ wr => ∃ (k c' : Nat) (A' : Option Addr), k ≤ Z.nd ∧ i_ = .int .i64 (k : Int) ∧ s11 = .slice A' k c' ∧ Own wr w4.heap.size 35 2 A' k c' (iv (Oz.rC Z R)) ∧ Below w4.heap.size w4 wr) (fun _ i_ _ => Z.nd - (intOf i_).toNat)
  case atStart => exact ⟨0, 0, none, Nat.zero_le _, rfl, rfl, Own.nil _ _ _ _ _, Below.refl _ _⟩
  case round =>
    obtain ⟨k, c', A', hk, rfl, rfl, own, hB⟩ := hrel
    by_cases hlt : k < Z.nd
    · obtain ⟨b, off, eB, hbl, v0⟩ := ((U.keep hg).keep hB).at1 (k := k) (by omega)
      rw [HB_.out] at eB
      injection eB with eB
      injection eB with e1 e2
      subst e1 e2
      have hRk := hR.out k (by omega)
      obtain ⟨r, hr⟩ : ∃ r : Nat, R k = r := ⟨(R k).toNat, by omega⟩
      rw [hr] at v0 hRk
      obtain ⟨b2, off2, eC, hbl2, x0, x1⟩ := (rq.keep hB).at2 (k := r) (by omega)
      have HC_ := Lib.hid eC
      rw [HC_.out]
      clear eC
      obtain ⟨p0, p1⟩ := hin.out k hlt
      have hv0 : Oz.cR (Oz.gL Z) r 0 = Oz.rC Z R k 0 := by
        have e : Oz.rC Z R k 0 = Oz.cN (Oz.gL Z) r 0 := by unfold Oz.rC; rw [hr, Int.toNat_natCast]
        rw [e] at p0 ⊢
        unfold Oz.cR
        rw [if_neg (by omega)]
      have hv1 : Oz.cR (Oz.gL Z) r 1 = Oz.rC Z R k 1 := by
        have e : Oz.rC Z R k 1 = Oz.cN (Oz.gL Z) r 1 := by unfold Oz.rC; rw [hr, Int.toNat_natCast]
        rw [e] at p1 ⊢
        unfold Oz.cR
        rw [if_neg (by omega)]
      rw [hv0] at x0
      rw [hv1] at x1
      clear hv0 hv1 hr p0 p1
      obtain ⟨x, hx⟩ : ∃ x, Oz.rC Z R k 0 = x := ⟨_, rfl⟩
      obtain ⟨y, hy⟩ : ∃ y, Oz.rC Z R k 1 = y := ⟨_, rfl⟩
      have HX := Lib.hid hx
      have HY := Lib.hid hy
      rw [hx] at x0
      rw [hy] at x1
      clear hx hy
      have hBs := hB.size
      have j1 : (0 : Int) ≤ (k : Int) := by omega
      have j2 : (k : Int) < (Z.nd : Int) := by omega
      have j3 : (0 : Int) ≤ (r : Int) := by omega
      go_wp2_with (at_builtin; refine wpList_append_Rd _ rfl _ _ 28 rfl w4.heap.size 35 i2 _ 2 16 Try.underlying28 KI.out KZ0.out KZ1.out KZ2.out rfl (by decide) rfl (own.alloc _) rfl (rd_row2 _ _ _ _ rfl) (one_iv _) (by omega) (by omega) (by simp; omega) ?_; intro A3 c3_ w5 own' hgr hob)
      have own3 := own_rc own' HX.out HY.out
      have hB2 : Below w4.heap.size w4 w5 := (bal hB _).trans (below_grown hgr (fun g hg => own.base hg) (by simp; omega))
      clear own' own hgr hob hB
      first
        | exact ⟨⟨k + 1, c3_, A3, by omega, by go_num, rfl, own3, hB2⟩, by simp [intOf]; omega⟩
        | (rw [← HC_.out]; go_roundw; case rel => exact ⟨k + 1, c3_, A3, by omega, by go_num, rfl, own3, hB2⟩; case measure => simp [intOf]; omega)
    · obtain rfl : k = Z.nd := by omega
      go_wp2_with fail
      go_returns
      exact ⟨A', c', rfl, own.rd, bt hg hB⟩
end Go.Proofs.Ytoeklllahpegfaa
/-
  The walk of OptimizeGraph.
-/
namespace Go.Proofs.Ytoeklllahpegfaa
set_option linter.unusedVariables false
set_option linter.unusedSimpArgs false
open Go.RowKit
attribute [local irreducible] World.setCell World.cell?

set_option maxRecDepth 100000 in
set_option maxHeartbeats 8000000 in
theorem law_graph (Z : ZD) (Y : ZA) (B : Option Addr) (l d : Nat) (R : Nat → Int) (w : World) (H : ZIn w Z Y) (U : Rd w 1 B l d (nv R)) : Calls Try.prog 4 #[.agg #[.slice Y.ds Z.nd Y.dsc, .slice Y.lv Z.nl Y.lvc, .slice Y.sp Z.ns Y.spc, .slice Y.tl Z.nt Y.tlc, .slice Y.ms Z.nm Y.msc, .string Z.P.nm, .int .i64 Z.P.em, .int .i64 Z.P.fu, .slice Y.Q.al Z.P.na Y.Q.alc, .slice Y.Q.ma Z.P.nM Y.Q.mac, .slice Y.Q.tC Z.P.nC Y.Q.tCc, .slice Y.Q.tF Z.P.nF Y.Q.tFc, .slice Y.Q.tR Z.P.nR Y.Q.tRc, .slice Y.Q.dD Z.P.nD Y.Q.dDc, .slice Y.Q.dI Z.P.nI Y.Q.dIc, .slice Y.Q.dX Z.P.nX Y.Q.dXc, .slice Y.Q.dN Z.P.nN Y.Q.dNc, .int .i64 Z.P.rf, .int .i64 Z.P.xt, .int .i64 Z.P.ce, .int .i64 Z.ix, .int .i64 Z.cc, .int .i64 Z.fi, .int .i64 Z.la], .slice B l d] w fun e w' => e = .returned (.bool true) ∧ Below w.heap.size w w' := by
  go_enter Try.func4, Try.ntmps4
  try simp only [List.append_eq, List.cons_append, List.nil_append]
  have PB := Blk.new w 27 #[.slice Y.ds Z.nd Y.dsc, .slice Y.lv Z.nl Y.lvc, .slice Y.sp Z.ns Y.spc, .slice Y.tl Z.nt Y.tlc, .slice Y.ms Z.nm Y.msc, .string Z.P.nm, .int .i64 Z.P.em, .int .i64 Z.P.fu, .slice Y.Q.al Z.P.na Y.Q.alc, .slice Y.Q.ma Z.P.nM Y.Q.mac, .slice Y.Q.tC Z.P.nC Y.Q.tCc, .slice Y.Q.tF Z.P.nF Y.Q.tFc, .slice Y.Q.tR Z.P.nR Y.Q.tRc, .slice Y.Q.dD Z.P.nD Y.Q.dDc, .slice Y.Q.dI Z.P.nI Y.Q.dIc, .slice Y.Q.dX Z.P.nX Y.Q.dXc, .slice Y.Q.dN Z.P.nN Y.Q.dNc, .int .i64 Z.P.rf, .int .i64 Z.P.xt, .int .i64 Z.P.ce, .int .i64 Z.ix, .int .i64 Z.cc, .int .i64 Z.fi, .int .i64 Z.la]
  have hB := ba w (.cells #[.slice Y.ds Z.nd Y.dsc, .slice Y.lv Z.nl Y.lvc, .slice Y.sp Z.ns Y.spc, .slice Y.tl Z.nt Y.tlc, .slice Y.ms Z.nm Y.msc, .string Z.P.nm, .int .i64 Z.P.em, .int .i64 Z.P.fu, .slice Y.Q.al Z.P.na Y.Q.alc, .slice Y.Q.ma Z.P.nM Y.Q.mac, .slice Y.Q.tC Z.P.nC Y.Q.tCc, .slice Y.Q.tF Z.P.nF Y.Q.tFc, .slice Y.Q.tR Z.P.nR Y.Q.tRc, .slice Y.Q.dD Z.P.nD Y.Q.dDc, .slice Y.Q.dI Z.P.nI Y.Q.dIc, .slice Y.Q.dX Z.P.nX Y.Q.dXc, .slice Y.Q.dN Z.P.nN Y.Q.dNc, .int .i64 Z.P.rf, .int .i64 Z.P.xt, .int .i64 Z.P.ce, .int .i64 Z.ix, .int .i64 Z.cc, .int .i64 Z.fi, .int .i64 Z.la] 27)
  go_upto_region 1 with fail
  generalize World.alloc w _ = w1 at PB hB ⊢
  go_wp2_with fail
  refine (awake_c _).mono ?_
  rintro e w2 ⟨rfl, hb⟩
  replace hB := bt hB hb
  replace PB := PB.keep hb
  clear hb
  by_cases hz : Oz.zck Z = 0
  rotate_left
  · obtain ⟨z, ez⟩ : ∃ z, Hid (Oz.zck Z = z) := ⟨_, rfl⟩
    have HZ := Lib.hid hz
    have K1 := Lib.hid (fun wx (h : ZIn wx Z Y) => graph_no Z Y wx h hz)
    have K2 := Lib.hid (fun wx (h : ZIn wx Z Y) => rgraph_no Z Y wx h hz)
    have K3 := Lib.hid (fun wx (h : ZIn wx Z Y) (u : Rd wx 1 B l d (nv R)) => route_z Z Y B l d R wx h u hz)
    have K4 := Lib.hid (fun wx (h : ZIn wx Z Y) (u : Rd wx 1 B l d (nv R)) => rroute_z Z Y B l d R wx h u hz)
    rw [ez.out] at K1 K2 K3 K4
    clear hz
    obtain ⟨d0, d1, d2, d20, d21, d22, d23, d24, d25⟩ := PB.ow24
    go_wp2_with (with_reducible show wpList _ _ _ _ _ _; refine wpList_B _ rfl rfl rfl (by with_reducible assumption) ?_)
    refine (K1.out _ (H.keep hB)).mono ?_
    rintro e w3 ⟨rfl, hb⟩
    clear d0 d1 d2 d20 d21 d22 d23 d24 d25
    have GX := Blk.new w3 41 #[.int .i64 0, .slice none 0 0]
    replace PB := (PB.keep hb).alloc (.cells #[.int .i64 0, .slice none 0 0] 41)
    replace hB := bal (bt hB hb) (.cells #[.int .i64 0, .slice none 0 0] 41)
    clear hb
    obtain ⟨d0, d1, d2, d20, d21, d22, d23, d24, d25⟩ := PB.ow24
    go_wp2_with (with_reducible show wpList _ _ _ _ _ _; refine wpList_B _ rfl rfl rfl (by with_reducible assumption) ?_)
    refine (K2.out _ (H.keep hB)).mono ?_
    rintro e w4 ⟨rfl, hb⟩
    clear d0 d1 d2 d20 d21 d22 d23 d24 d25
    have GY := Blk.new w4 41 #[.int .i64 0, .slice none 0 0]
    replace PB := (PB.keep hb).alloc (.cells #[.int .i64 0, .slice none 0 0] 41)
    replace GX := (GX.keep hb).alloc (.cells #[.int .i64 0, .slice none 0 0] 41)
    replace hB := bal (bt hB hb) (.cells #[.int .i64 0, .slice none 0 0] 41)
    clear hb
    obtain ⟨c0, c1, c2, c3⟩ := GX.open2
    obtain ⟨e0, e1, e2, e3⟩ := GY.open2
    go_wp2_with fail
    refine (graphs_c none none 0 0 0 0 (fun _ _ => 0) _ (Rd.nil _ _ _) (Rd.nil _ _ _)).mono ?_
    rintro e w5 ⟨rfl, hb⟩
    clear c0 c1 c2 c3 e0 e1 e2 e3 GX GY
    replace PB := PB.keep hb
    replace hB := bt hB hb
    clear hb
    obtain ⟨d0, d1, d2, d20, d21, d22, d23, d24, d25⟩ := PB.ow24
    go_wp2_with (with_reducible show wpList _ _ _ _ _ _; refine wpList_B _ rfl rfl rfl (by with_reducible assumption) ?_)
    refine (K3.out _ (H.keep hB) (U.keep hB)).mono ?_
    rintro e w6 ⟨rfl, hb⟩
    clear d0 d1 d2 d20 d21 d22 d23 d24 d25
    replace PB := PB.keep hb
    replace hB := bt hB hb
    clear hb
    obtain ⟨d0, d1, d2, d20, d21, d22, d23, d24, d25⟩ := PB.ow24
    go_wp2_with (with_reducible show wpList _ _ _ _ _ _; refine wpList_B _ rfl rfl rfl (by with_reducible assumption) ?_)
    refine (K4.out _ (H.keep hB) (U.keep hB)).mono ?_
    rintro e w7 ⟨rfl, hb⟩
    clear d0 d1 d2 d20 d21 d22 d23 d24 d25
    replace hB := bt hB hb
    clear hb PB
    go_wp2_with fail
    refine (choices_c none none 0 0 0 (fun _ _ => 0) _ (Rd.nil _ _ _) (Rd.nil _ _ _)).mono ?_
    rintro e w8 ⟨rfl, hb⟩
    go_wp2_with fail
    go_returns
    first | exact ⟨rfl, bt hB hb⟩ | exact bt hB hb
  have HZ := Lib.hid hz
  have O := Oz.zck_ok hz
  have ng := Oz.gN_bd O
  clear hz
  obtain ⟨d0, d1, d2, d20, d21, d22, d23, d24, d25⟩ := PB.ow24
  go_wp2_with (with_reducible show wpList _ _ _ _ _ _; refine wpList_B _ rfl rfl rfl (by with_reducible assumption) ?_)
  refine (graph_c Z Y _ (H.keep hB) HZ.out).mono ?_
  rintro e w3 ⟨A, c, rfl, T, hb⟩
  clear d0 d1 d2 d20 d21 d22 d23 d24 d25
  have GX := Blk.new w3 41 #[.int .i64 (Oz.gN Z : Int), .slice A (Oz.gL Z).length c]
  replace PB := (PB.keep hb).alloc (.cells #[.int .i64 (Oz.gN Z : Int), .slice A (Oz.gL Z).length c] 41)
  replace hB := bal (bt hB hb) (.cells #[.int .i64 (Oz.gN Z : Int), .slice A (Oz.gL Z).length c] 41)
  replace T := T.alloc (.cells #[.int .i64 (Oz.gN Z : Int), .slice A (Oz.gL Z).length c] 41)
  clear hb
  obtain ⟨d0, d1, d2, d20, d21, d22, d23, d24, d25⟩ := PB.ow24
  go_wp2_with (with_reducible show wpList _ _ _ _ _ _; refine wpList_B _ rfl rfl rfl (by with_reducible assumption) ?_)
  refine (rgraph_c Z Y _ (H.keep hB) HZ.out).mono ?_
  rintro e w4 ⟨A2, c2, rfl, T2, hb⟩
  clear d0 d1 d2 d20 d21 d22 d23 d24 d25
  have GY := Blk.new w4 41 #[.int .i64 (Oz.gN Z : Int), .slice A2 (Oz.gL Z).length c2]
  replace PB := (PB.keep hb).alloc (.cells #[.int .i64 (Oz.gN Z : Int), .slice A2 (Oz.gL Z).length c2] 41)
  replace GX := (GX.keep hb).alloc (.cells #[.int .i64 (Oz.gN Z : Int), .slice A2 (Oz.gL Z).length c2] 41)
  replace T := (T.keep hb).alloc (.cells #[.int .i64 (Oz.gN Z : Int), .slice A2 (Oz.gL Z).length c2] 41)
  replace T2 := T2.alloc (.cells #[.int .i64 (Oz.gN Z : Int), .slice A2 (Oz.gL Z).length c2] 41)
  replace hB := bal (bt hB hb) (.cells #[.int .i64 (Oz.gN Z : Int), .slice A2 (Oz.gL Z).length c2] 41)
  clear hb
  obtain ⟨c0, c1, c2_, c3⟩ := GX.open2
  obtain ⟨e0, e1, e2, e3⟩ := GY.open2
  go_wp2_with fail
  refine (graphs_c A A2 (Oz.gN Z : Int) (Oz.gL Z).length c c2 (Oz.gE Z) _ T T2).mono ?_
  rintro e w5 ⟨rfl, hb⟩
  clear c0 c1 c2_ c3 e0 e1 e2 e3 GX GY T T2
  replace PB := PB.keep hb
  replace hB := bt hB hb
  clear hb
  by_cases hc : Ce.cer (Oz.gN Z : Int) (Oz.gL Z).length (Oz.gE Z) 0 ((Oz.gN Z : Int) - 1) l R = 0
  · have hen := (Ce.cer_ok.1 hc).2
    have HR := Lib.hid hen
    clear hc hen
    obtain ⟨d0, d1, d2, d20, d21, d22, d23, d24, d25⟩ := PB.ow24
    go_wp2_with (with_reducible show wpList _ _ _ _ _ _; refine wpList_B _ rfl rfl rfl (by with_reducible assumption) ?_)
    refine (route_c Z Y B l d R _ (H.keep hB) (U.keep hB) HZ.out HR.out).mono ?_
    rintro e w6 ⟨A3, c3, rfl, R3, hb⟩
    clear d0 d1 d2 d20 d21 d22 d23 d24 d25
    replace PB := PB.keep hb
    replace hB := bt hB hb
    clear hb
    obtain ⟨d0, d1, d2, d20, d21, d22, d23, d24, d25⟩ := PB.ow24
    go_wp2_with (with_reducible show wpList _ _ _ _ _ _; refine wpList_B _ rfl rfl rfl (by with_reducible assumption) ?_)
    refine (rroute_c Z Y B l d R _ (H.keep hB) (U.keep hB) HZ.out HR.out).mono ?_
    rintro e w7 ⟨A4, c4, rfl, R4, hb⟩
    clear d0 d1 d2 d20 d21 d22 d23 d24 d25
    replace hB := bt hB hb
    replace R3 := R3.keep hb
    clear hb PB
    go_wp2_with fail
    refine (choices_c _ _ _ _ _ _ _ R3 R4).mono ?_
    rintro e w8 ⟨rfl, hb⟩
    go_wp2_with fail
    go_returns
    first | exact ⟨rfl, bt hB hb⟩ | exact bt hB hb
  · have K3 := Lib.hid (fun wx (h : ZIn wx Z Y) (u : Rd wx 1 B l d (nv R)) => route_no Z Y B l d R wx h u HZ.out hc)
    have K4 := Lib.hid (fun wx (h : ZIn wx Z Y) (u : Rd wx 1 B l d (nv R)) => rroute_no Z Y B l d R wx h u HZ.out hc)
    clear hc
    generalize Ce.cer (Oz.gN Z : Int) (Oz.gL Z).length (Oz.gE Z) 0 ((Oz.gN Z : Int) - 1) l R = er at *
    obtain ⟨d0, d1, d2, d20, d21, d22, d23, d24, d25⟩ := PB.ow24
    go_wp2_with (with_reducible show wpList _ _ _ _ _ _; refine wpList_B _ rfl rfl rfl (by with_reducible assumption) ?_)
    refine (K3.out _ (H.keep hB) (U.keep hB)).mono ?_
    rintro e w6 ⟨rfl, hb⟩
    clear d0 d1 d2 d20 d21 d22 d23 d24 d25
    replace PB := PB.keep hb
    replace hB := bt hB hb
    clear hb
    obtain ⟨d0, d1, d2, d20, d21, d22, d23, d24, d25⟩ := PB.ow24
    go_wp2_with (with_reducible show wpList _ _ _ _ _ _; refine wpList_B _ rfl rfl rfl (by with_reducible assumption) ?_)
    refine (K4.out _ (H.keep hB) (U.keep hB)).mono ?_
    rintro e w7 ⟨rfl, hb⟩
    clear d0 d1 d2 d20 d21 d22 d23 d24 d25
    replace hB := bt hB hb
    clear hb PB
    go_wp2_with fail
    refine (choices_c none none 0 0 0 (fun _ _ => 0) _ (Rd.nil _ _ _) (Rd.nil _ _ _)).mono ?_
    rintro e w8 ⟨rfl, hb⟩
    go_wp2_with fail
    go_returns
    first | exact ⟨rfl, bt hB hb⟩ | exact bt hB hb
end Go.Proofs.Ytoeklllahpegfaa
