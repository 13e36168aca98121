/-
  Words and contracts, put together: OJ, OK, OG, OXa, OL, ORt, OTg, OTp.
-/
import Derived.Test.YtoeklllahpegfaaM02
import Derived.Test.YtoeklllahpegfaaM08
import Derived.Test.YtoeklllahpegfaaM09
import Derived.Test.YtoeklllahpegfaaM11
import Derived.Test.YtoeklllahpegfaaM12
import Derived.Deep.DeepCutAuto
/-
  Contract: optimize.Route.
-/
namespace Go.Proofs.Ytoeklllahpegfaa
set_option linter.unusedVariables false
set_option linter.unusedSimpArgs false
open Go.RowKit
attribute [local irreducible] World.setCell World.cell?

theorem own_rc {w : World} {b : Nat} {t : TypeId} {A : Option Addr} {c k : Nat} {M : Nat → Nat → Int} {x y : Int} (h : Own w b t 2 A (k + 1) c (app k (iv M) (iv (Oz.row2 x y)))) (hx : M k 0 = x) (hy : M k 1 = y) : Own w b t 2 A (k + 1) c (iv M) := by
  refine h.congr fun i f hi hf => ?_
  rw [app_int]
  unfold iv
  by_cases q : i < k
  · simp only [if_pos q]
  · obtain rfl : i = k := by omega
    simp only [if_neg q, Nat.sub_self]
    subst hx hy
    match f, hf with
    | 0, _ => rfl
    | 1, _ => rfl
set_option maxRecDepth 100000 in
set_option maxHeartbeats 4000000 in
theorem route_z (Z : ZD) (Y : ZA) (B : Option Addr) (l d : Nat) (R : Nat → Int) (w : World) (H : ZIn w Z Y) (U : Rd w 1 B l d (nv R)) (h : Oz.zck Z ≠ 0) : Calls Try.prog 21 #[.agg #[.slice Y.ds Z.nd Y.dsc, .slice Y.lv Z.nl Y.lvc, .slice Y.sp Z.ns Y.spc, .slice Y.tl Z.nt Y.tlc, .slice Y.ms Z.nm Y.msc, .string Z.P.nm, .int .i64 Z.P.em, .int .i64 Z.P.fu, .slice Y.Q.al Z.P.na Y.Q.alc, .slice Y.Q.ma Z.P.nM Y.Q.mac, .slice Y.Q.tC Z.P.nC Y.Q.tCc, .slice Y.Q.tF Z.P.nF Y.Q.tFc, .slice Y.Q.tR Z.P.nR Y.Q.tRc, .slice Y.Q.dD Z.P.nD Y.Q.dDc, .slice Y.Q.dI Z.P.nI Y.Q.dIc, .slice Y.Q.dX Z.P.nX Y.Q.dXc, .slice Y.Q.dN Z.P.nN Y.Q.dNc, .int .i64 Z.P.rf, .int .i64 Z.P.xt, .int .i64 Z.P.ce, .int .i64 Z.ix, .int .i64 Z.cc, .int .i64 Z.fi, .int .i64 Z.la], .slice B l d] w fun e w' => e = .returned (.tuple #[.slice none 0 0, .int .i64 (Oz.zck Z)]) ∧ Below w.heap.size w w' := by
  obtain ⟨z, ez⟩ : ∃ z, Hid (Oz.zck Z = z) := ⟨_, rfl⟩
  have Kocheck_c := Lib.hid (fun wx (h : ZIn wx Z Y) => ocheck_c Z Y wx h)
  rw [ez.out] at Kocheck_c h ⊢
  have hz1 : (z != 0) = true := by simpa using h
  clear h
  go_enter Try.func21, Try.ntmps21
  try simp only [List.append_eq, List.cons_append, List.nil_append]
  have PB := Blk.new w 27 #[.slice Y.ds Z.nd Y.dsc, .slice Y.lv Z.nl Y.lvc, .slice Y.sp Z.ns Y.spc, .slice Y.tl Z.nt Y.tlc, .slice Y.ms Z.nm Y.msc, .string Z.P.nm, .int .i64 Z.P.em, .int .i64 Z.P.fu, .slice Y.Q.al Z.P.na Y.Q.alc, .slice Y.Q.ma Z.P.nM Y.Q.mac, .slice Y.Q.tC Z.P.nC Y.Q.tCc, .slice Y.Q.tF Z.P.nF Y.Q.tFc, .slice Y.Q.tR Z.P.nR Y.Q.tRc, .slice Y.Q.dD Z.P.nD Y.Q.dDc, .slice Y.Q.dI Z.P.nI Y.Q.dIc, .slice Y.Q.dX Z.P.nX Y.Q.dXc, .slice Y.Q.dN Z.P.nN Y.Q.dNc, .int .i64 Z.P.rf, .int .i64 Z.P.xt, .int .i64 Z.P.ce, .int .i64 Z.ix, .int .i64 Z.cc, .int .i64 Z.fi, .int .i64 Z.la]
  have hB := ba w (.cells #[.slice Y.ds Z.nd Y.dsc, .slice Y.lv Z.nl Y.lvc, .slice Y.sp Z.ns Y.spc, .slice Y.tl Z.nt Y.tlc, .slice Y.ms Z.nm Y.msc, .string Z.P.nm, .int .i64 Z.P.em, .int .i64 Z.P.fu, .slice Y.Q.al Z.P.na Y.Q.alc, .slice Y.Q.ma Z.P.nM Y.Q.mac, .slice Y.Q.tC Z.P.nC Y.Q.tCc, .slice Y.Q.tF Z.P.nF Y.Q.tFc, .slice Y.Q.tR Z.P.nR Y.Q.tRc, .slice Y.Q.dD Z.P.nD Y.Q.dDc, .slice Y.Q.dI Z.P.nI Y.Q.dIc, .slice Y.Q.dX Z.P.nX Y.Q.dXc, .slice Y.Q.dN Z.P.nN Y.Q.dNc, .int .i64 Z.P.rf, .int .i64 Z.P.xt, .int .i64 Z.P.ce, .int .i64 Z.ix, .int .i64 Z.cc, .int .i64 Z.fi, .int .i64 Z.la] 27)
  go_upto_region 1 with fail
  generalize World.alloc w _ = w1 at PB hB ⊢
  obtain ⟨d0, d1, d2, d20, d21, d22, d23, d24, d25⟩ := PB.ow24
  go_wp2_with (with_reducible show wpList _ _ _ _ _ _; refine wpList_B _ rfl rfl rfl (by with_reducible assumption) ?_)
  refine (Kocheck_c.out _ (H.keep hB)).mono ?_
  rintro e w2 ⟨rfl, hb⟩
  clear d0 d1 d2 d20 d21 d22 d23 d24 d25
  replace hB := bt hB hb
  replace PB := PB.keep hb
  clear hb PB
  go_wp2_with fail
  go_returns
  exact ⟨rfl, hB⟩
set_option maxRecDepth 100000 in
set_option maxHeartbeats 4000000 in
theorem route_no (Z : ZD) (Y : ZA) (B : Option Addr) (l d : Nat) (R : Nat → Int) (w : World) (H : ZIn w Z Y) (U : Rd w 1 B l d (nv R)) (hz : Oz.zck Z = 0) (h : Ce.cer (Oz.gN Z : Int) (Oz.gL Z).length (Oz.gE Z) 0 ((Oz.gN Z : Int) - 1) l R ≠ 0) : Calls Try.prog 21 #[.agg #[.slice Y.ds Z.nd Y.dsc, .slice Y.lv Z.nl Y.lvc, .slice Y.sp Z.ns Y.spc, .slice Y.tl Z.nt Y.tlc, .slice Y.ms Z.nm Y.msc, .string Z.P.nm, .int .i64 Z.P.em, .int .i64 Z.P.fu, .slice Y.Q.al Z.P.na Y.Q.alc, .slice Y.Q.ma Z.P.nM Y.Q.mac, .slice Y.Q.tC Z.P.nC Y.Q.tCc, .slice Y.Q.tF Z.P.nF Y.Q.tFc, .slice Y.Q.tR Z.P.nR Y.Q.tRc, .slice Y.Q.dD Z.P.nD Y.Q.dDc, .slice Y.Q.dI Z.P.nI Y.Q.dIc, .slice Y.Q.dX Z.P.nX Y.Q.dXc, .slice Y.Q.dN Z.P.nN Y.Q.dNc, .int .i64 Z.P.rf, .int .i64 Z.P.xt, .int .i64 Z.P.ce, .int .i64 Z.ix, .int .i64 Z.cc, .int .i64 Z.fi, .int .i64 Z.la], .slice B l d] w fun e w' => e = .returned (.tuple #[.slice none 0 0, .int .i64 (Ce.cer (Oz.gN Z : Int) (Oz.gL Z).length (Oz.gE Z) 0 ((Oz.gN Z : Int) - 1) l R)]) ∧ Below w.heap.size w w' := by
  have h1 : (Ce.cer (Oz.gN Z : Int) (Oz.gL Z).length (Oz.gE Z) 0 ((Oz.gN Z : Int) - 1) l R != 0) = true := by simpa using h
  clear h
  have ng := Oz.gN_bd (Oz.zck_ok hz)
  have Kocheck_c := Lib.hid (fun wx (h : ZIn wx Z Y) => ocheck_c Z Y wx h)
  rw [hz] at Kocheck_c
  go_enter Try.func21, Try.ntmps21
  try simp only [List.append_eq, List.cons_append, List.nil_append]
  have PB := Blk.new w 27 #[.slice Y.ds Z.nd Y.dsc, .slice Y.lv Z.nl Y.lvc, .slice Y.sp Z.ns Y.spc, .slice Y.tl Z.nt Y.tlc, .slice Y.ms Z.nm Y.msc, .string Z.P.nm, .int .i64 Z.P.em, .int .i64 Z.P.fu, .slice Y.Q.al Z.P.na Y.Q.alc, .slice Y.Q.ma Z.P.nM Y.Q.mac, .slice Y.Q.tC Z.P.nC Y.Q.tCc, .slice Y.Q.tF Z.P.nF Y.Q.tFc, .slice Y.Q.tR Z.P.nR Y.Q.tRc, .slice Y.Q.dD Z.P.nD Y.Q.dDc, .slice Y.Q.dI Z.P.nI Y.Q.dIc, .slice Y.Q.dX Z.P.nX Y.Q.dXc, .slice Y.Q.dN Z.P.nN Y.Q.dNc, .int .i64 Z.P.rf, .int .i64 Z.P.xt, .int .i64 Z.P.ce, .int .i64 Z.ix, .int .i64 Z.cc, .int .i64 Z.fi, .int .i64 Z.la]
  have hB := ba w (.cells #[.slice Y.ds Z.nd Y.dsc, .slice Y.lv Z.nl Y.lvc, .slice Y.sp Z.ns Y.spc, .slice Y.tl Z.nt Y.tlc, .slice Y.ms Z.nm Y.msc, .string Z.P.nm, .int .i64 Z.P.em, .int .i64 Z.P.fu, .slice Y.Q.al Z.P.na Y.Q.alc, .slice Y.Q.ma Z.P.nM Y.Q.mac, .slice Y.Q.tC Z.P.nC Y.Q.tCc, .slice Y.Q.tF Z.P.nF Y.Q.tFc, .slice Y.Q.tR Z.P.nR Y.Q.tRc, .slice Y.Q.dD Z.P.nD Y.Q.dDc, .slice Y.Q.dI Z.P.nI Y.Q.dIc, .slice Y.Q.dX Z.P.nX Y.Q.dXc, .slice Y.Q.dN Z.P.nN Y.Q.dNc, .int .i64 Z.P.rf, .int .i64 Z.P.xt, .int .i64 Z.P.ce, .int .i64 Z.ix, .int .i64 Z.cc, .int .i64 Z.fi, .int .i64 Z.la] 27)
  go_upto_region 1 with fail
  generalize World.alloc w _ = w1 at PB hB ⊢
  obtain ⟨d0, d1, d2, d20, d21, d22, d23, d24, d25⟩ := PB.ow24
  go_wp2_with (with_reducible show wpList _ _ _ _ _ _; refine wpList_B _ rfl rfl rfl (by with_reducible assumption) ?_)
  refine (Kocheck_c.out _ (H.keep hB)).mono ?_
  rintro e w2 ⟨rfl, hb⟩
  clear d0 d1 d2 d20 d21 d22 d23 d24 d25
  replace hB := bt hB hb
  replace PB := PB.keep hb
  clear hb
  obtain ⟨d0, d1, d2, d20, d21, d22, d23, d24, d25⟩ := PB.ow24
  go_wp2_with (with_reducible show wpList _ _ _ _ _ _; refine wpList_B _ rfl rfl rfl (by with_reducible assumption) ?_)
  refine (build_c Z Y _ (H.keep hB) hz).mono ?_
  rintro e w3 ⟨A, AC, c, cC, rfl, oe, oq, hb⟩
  clear d0 d1 d2 d20 d21 d22 d23 d24 d25
  replace hB := bt hB hb
  have re := oe.rd
  have rq := oq.rd
  clear hb PB oe oq
  have GB := Blk.new w3 41 #[.int .i64 (Oz.gN Z : Int), .slice A (Oz.gL Z).length c]
  have hg := bal hB (.cells #[.int .i64 (Oz.gN Z : Int), .slice A (Oz.gL Z).length c] 41)
  replace re := re.keep (ba w3 (.cells #[.int .i64 (Oz.gN Z : Int), .slice A (Oz.gL Z).length c] 41))
  replace rq := rq.keep (ba w3 (.cells #[.int .i64 (Oz.gN Z : Int), .slice A (Oz.gL Z).length c] 41))
  obtain ⟨c0, c1, c2, c3⟩ := GB.open2
  go_wp2_with fail
  refine (cost_c A (Oz.gN Z : Int) (Oz.gL Z).length c (Oz.gE Z) _ re (by omega) (by omega) 0 ((Oz.gN Z : Int) - 1) B l d R (U.keep hg)).mono ?_
  rintro e w4 ⟨rfl, hb⟩
  replace hg := bt hg hb
  replace rq := rq.keep hb
  clear hb re GB c0 c1 c2 c3 hB
  go_wp2_with fail
  go_returns
  exact ⟨rfl, hg⟩
set_option maxRecDepth 100000 in
set_option maxHeartbeats 8000000 in
theorem route_c (Z : ZD) (Y : ZA) (B : Option Addr) (l d : Nat) (R : Nat → Int) (w : World) (H : ZIn w Z Y) (U : Rd w 1 B l d (nv R)) (hz : Oz.zck Z = 0) (h : Ce.Rt (Oz.gL Z).length (Oz.gE Z) 0 ((Oz.gN Z : Int) - 1) l R) : Calls Try.prog 21 #[.agg #[.slice Y.ds Z.nd Y.dsc, .slice Y.lv Z.nl Y.lvc, .slice Y.sp Z.ns Y.spc, .slice Y.tl Z.nt Y.tlc, .slice Y.ms Z.nm Y.msc, .string Z.P.nm, .int .i64 Z.P.em, .int .i64 Z.P.fu, .slice Y.Q.al Z.P.na Y.Q.alc, .slice Y.Q.ma Z.P.nM Y.Q.mac, .slice Y.Q.tC Z.P.nC Y.Q.tCc, .slice Y.Q.tF Z.P.nF Y.Q.tFc, .slice Y.Q.tR Z.P.nR Y.Q.tRc, .slice Y.Q.dD Z.P.nD Y.Q.dDc, .slice Y.Q.dI Z.P.nI Y.Q.dIc, .slice Y.Q.dX Z.P.nX Y.Q.dXc, .slice Y.Q.dN Z.P.nN Y.Q.dNc, .int .i64 Z.P.rf, .int .i64 Z.P.xt, .int .i64 Z.P.ce, .int .i64 Z.ix, .int .i64 Z.cc, .int .i64 Z.fi, .int .i64 Z.la], .slice B l d] w fun e w' => ∃ (A' : Option Addr) (c' : Nat), e = .returned (.tuple #[.slice A' Z.nd c', .int .i64 0]) ∧ Rd w' 2 A' Z.nd c' (iv (Oz.rC Z R)) ∧ Below w.heap.size w w' := by
  have O := Oz.zck_ok hz
  have hen := Oz.g_en O
  have hcer : Ce.cer (Oz.gN Z : Int) (Oz.gL Z).length (Oz.gE Z) 0 ((Oz.gN Z : Int) - 1) l R = 0 := Ce.cer_ok.2 ⟨hen, h⟩
  have HLEN := Lib.hid (Oz.route_len O h).1
  have hin := Lib.hid (fun p (hp : p < Z.nd) => Oz.rC_in O h hp)
  have hno := Lib.hid (Oz.rC_no O h)
  have hR := Lib.hid h.i
  have n2 := O.nd2
  have hm := Oz.len_gL O
  have u1 := U.le
  have u2 := U.mx
  clear h hen
  obtain ⟨i2, hi0, hz0, hz1, hz2⟩ := info_parts infoC
  have KI := Lib.hid hi0
  have KZ0 := Lib.hid hz0
  have KZ1 := Lib.hid hz1
  have KZ2 := Lib.hid hz2
  clear hi0 hz0 hz1 hz2
  have ng := Oz.gN_bd (Oz.zck_ok hz)
  have Kocheck_c := Lib.hid (fun wx (h : ZIn wx Z Y) => ocheck_c Z Y wx h)
  rw [hz] at Kocheck_c
  go_enter Try.func21, Try.ntmps21
  try simp only [List.append_eq, List.cons_append, List.nil_append]
  have PB := Blk.new w 27 #[.slice Y.ds Z.nd Y.dsc, .slice Y.lv Z.nl Y.lvc, .slice Y.sp Z.ns Y.spc, .slice Y.tl Z.nt Y.tlc, .slice Y.ms Z.nm Y.msc, .string Z.P.nm, .int .i64 Z.P.em, .int .i64 Z.P.fu, .slice Y.Q.al Z.P.na Y.Q.alc, .slice Y.Q.ma Z.P.nM Y.Q.mac, .slice Y.Q.tC Z.P.nC Y.Q.tCc, .slice Y.Q.tF Z.P.nF Y.Q.tFc, .slice Y.Q.tR Z.P.nR Y.Q.tRc, .slice Y.Q.dD Z.P.nD Y.Q.dDc, .slice Y.Q.dI Z.P.nI Y.Q.dIc, .slice Y.Q.dX Z.P.nX Y.Q.dXc, .slice Y.Q.dN Z.P.nN Y.Q.dNc, .int .i64 Z.P.rf, .int .i64 Z.P.xt, .int .i64 Z.P.ce, .int .i64 Z.ix, .int .i64 Z.cc, .int .i64 Z.fi, .int .i64 Z.la]
  have hB := ba w (.cells #[.slice Y.ds Z.nd Y.dsc, .slice Y.lv Z.nl Y.lvc, .slice Y.sp Z.ns Y.spc, .slice Y.tl Z.nt Y.tlc, .slice Y.ms Z.nm Y.msc, .string Z.P.nm, .int .i64 Z.P.em, .int .i64 Z.P.fu, .slice Y.Q.al Z.P.na Y.Q.alc, .slice Y.Q.ma Z.P.nM Y.Q.mac, .slice Y.Q.tC Z.P.nC Y.Q.tCc, .slice Y.Q.tF Z.P.nF Y.Q.tFc, .slice Y.Q.tR Z.P.nR Y.Q.tRc, .slice Y.Q.dD Z.P.nD Y.Q.dDc, .slice Y.Q.dI Z.P.nI Y.Q.dIc, .slice Y.Q.dX Z.P.nX Y.Q.dXc, .slice Y.Q.dN Z.P.nN Y.Q.dNc, .int .i64 Z.P.rf, .int .i64 Z.P.xt, .int .i64 Z.P.ce, .int .i64 Z.ix, .int .i64 Z.cc, .int .i64 Z.fi, .int .i64 Z.la] 27)
  go_upto_region 1 with fail
  generalize World.alloc w _ = w1 at PB hB ⊢
  obtain ⟨d0, d1, d2, d20, d21, d22, d23, d24, d25⟩ := PB.ow24
  go_wp2_with (with_reducible show wpList _ _ _ _ _ _; refine wpList_B _ rfl rfl rfl (by with_reducible assumption) ?_)
  refine (Kocheck_c.out _ (H.keep hB)).mono ?_
  rintro e w2 ⟨rfl, hb⟩
  clear d0 d1 d2 d20 d21 d22 d23 d24 d25
  replace hB := bt hB hb
  replace PB := PB.keep hb
  clear hb
  obtain ⟨d0, d1, d2, d20, d21, d22, d23, d24, d25⟩ := PB.ow24
  go_wp2_with (with_reducible show wpList _ _ _ _ _ _; refine wpList_B _ rfl rfl rfl (by with_reducible assumption) ?_)
  refine (build_c Z Y _ (H.keep hB) hz).mono ?_
  rintro e w3 ⟨A, AC, c, cC, rfl, oe, oq, hb⟩
  clear d0 d1 d2 d20 d21 d22 d23 d24 d25
  replace hB := bt hB hb
  have re := oe.rd
  have rq := oq.rd
  clear hb PB oe oq
  have GB := Blk.new w3 41 #[.int .i64 (Oz.gN Z : Int), .slice A (Oz.gL Z).length c]
  have hg := bal hB (.cells #[.int .i64 (Oz.gN Z : Int), .slice A (Oz.gL Z).length c] 41)
  replace re := re.keep (ba w3 (.cells #[.int .i64 (Oz.gN Z : Int), .slice A (Oz.gL Z).length c] 41))
  replace rq := rq.keep (ba w3 (.cells #[.int .i64 (Oz.gN Z : Int), .slice A (Oz.gL Z).length c] 41))
  obtain ⟨c0, c1, c2, c3⟩ := GB.open2
  go_wp2_with fail
  refine (cost_c A (Oz.gN Z : Int) (Oz.gL Z).length c (Oz.gE Z) _ re (by omega) (by omega) 0 ((Oz.gN Z : Int) - 1) B l d R (U.keep hg)).mono ?_
  rintro e w4 ⟨rfl, hb⟩
  replace hg := bt hg hb
  replace rq := rq.keep hb
  clear hb re GB c0 c1 c2 c3 hB
  rw [hcer]
  have rq1 := rq.le
  have rq2 := rq.mx
  go_wp2_with fail
  go_loopw [11, 39] (fun s11 i_ wr => ∃ (k q c' : Nat) (A' : Option Addr), k ≤ l ∧ q = min k Z.nd ∧ i_ = .int .i64 (k : Int) ∧ s11 = .slice A' q c' ∧ Own wr w4.heap.size 35 2 A' q c' (iv (Oz.rC Z R)) ∧ Below w4.heap.size w4 wr) (fun _ i_ _ => l - (intOf i_).toNat)
  case atStart => exact ⟨0, 0, 0, none, Nat.zero_le _, by omega, rfl, rfl, Own.nil _ _ _ _ _, Below.refl _ _⟩
  case round =>
    obtain ⟨k, q, c', A', hk, hq, rfl, rfl, own, hB⟩ := hrel
    have HQ := Lib.hid hq
    clear hq
    by_cases hlt : k < l
    · obtain ⟨b, off, eB, hbl, v0⟩ := ((U.keep hg).keep hB).at1 hlt
      have HB_ := Lib.hid eB
      rw [HB_.out]
      clear eB
      have hRk := hR.out k hlt
      obtain ⟨r, hr⟩ : ∃ r : Nat, R k = r := ⟨(R k).toNat, by omega⟩
      rw [hr] at v0 hRk
      obtain ⟨b2, off2, eC, hbl2, x0, x1⟩ := (rq.keep hB).at2 (k := r) (by omega)
      have HC_ := Lib.hid eC
      rw [HC_.out]
      clear eC
      have hv0 : Oz.cN (Oz.gL Z) r 0 = Oz.rC Z R k 0 := by unfold Oz.rC; rw [hr, Int.toNat_natCast]
      have hv1 : Oz.cN (Oz.gL Z) r 1 = Oz.rC Z R k 1 := by unfold Oz.rC; rw [hr, Int.toNat_natCast]
      rw [hv0] at x0
      rw [hv1] at x1
      clear hv0 hv1 hr
      have C := Blk.new wr 35 #[.int .i64 (Oz.rC Z R k 0), .int .i64 (Oz.rC Z R k 1)]
      replace own := own.alloc (.cells #[.int .i64 (Oz.rC Z R k 0), .int .i64 (Oz.rC Z R k 1)] 35)
      replace hB := bal hB (.cells #[.int .i64 (Oz.rC Z R k 0), .int .i64 (Oz.rC Z R k 1)] 35)
      go_upto_region 13 with fail
      clear v0 x0 x1
      generalize hP : World.alloc wr _ = wp at C own hB ⊢
      clear hP
      obtain ⟨x, hx⟩ : ∃ x, Oz.rC Z R k 0 = x := ⟨_, rfl⟩
      obtain ⟨y, hy⟩ : ∃ y, Oz.rC Z R k 1 = y := ⟨_, rfl⟩
      have HX := Lib.hid hx
      have HY := Lib.hid hy
      rw [hx, hy] at C ⊢
      clear hx hy
      by_cases hkn : k < Z.nd
      · have x0 : 0 ≤ x := by rw [← HX.out]; exact hin.out k hkn
        have xn : (x == -1) = false := by simp; omega
        have xn2 : ¬ x = -1 := by omega
        obtain rfl : q = k := by have := HQ.out; omega
        go_cut [49] (fun s49 wx => s49 = .bool true ∧ Below wp.heap.size wp wx)
        case first =>
          obtain ⟨c0, c1, c2, c3⟩ := C.open2
          go_region_with (go_at_call 48; refine (none_c _).mono ?_; rintro e wn ⟨rfl, hbn⟩; have C2 := Blk.keep (by first | exact C | exact C.drew) hbn; obtain ⟨z0, z1, z2, z3⟩ := C2.open2)
          all_goals
            go_wp2_with fail
            go_meet
            exact ⟨rfl, by first | exact bt (bdr (Below.refl _ _)) hbn | exact bdr hbn | exact bdr (bt (bdr (Below.refl _ _)) hbn) | exact hbn⟩
        case rest =>
          obtain ⟨rfl, hb⟩ := hcut
          replace own := own.keep hb
          replace C := C.keep hb
          replace hB := bt hB hb
          clear hb
          obtain ⟨c0, c1, c2, c3⟩ := C.open2
          have hBs := hB.size
          go_wp2_with (at_builtin; refine wpList_append_Rd _ rfl _ _ 28 rfl w4.heap.size 35 i2 _ 2 16 Try.underlying28 KI.out KZ0.out KZ1.out KZ2.out rfl (by decide) rfl (own.alloc _) rfl (rd_row2 _ _ _ _ rfl) (one_iv _) (by omega) (by omega) (by simp; omega) ?_; intro A3 c3_ w5 own' hgr hob)
          have own3 := own_rc own' HX.out HY.out
          have hB2 : Below w4.heap.size w4 w5 := (bal hB _).trans (below_grown hgr (fun g hg => own.base hg) (by simp; omega))
          clear own' own hgr hob hB c0 c1 c2 c3 C
          exact ⟨⟨q + 1, q + 1, c3_, A3, by omega, by omega, by go_num, rfl, own3, hB2⟩, by simp [intOf]; omega⟩
      · have hk0 : k = Z.nd := by have := HLEN.out; omega
        have hx1 : x = -1 := by rw [← HX.out, hk0]; exact hno.out.1
        have hy1 : y = -1 := by rw [← HY.out, hk0]; exact hno.out.2
        subst hx1 hy1
        obtain rfl : q = Z.nd := by have := HQ.out; omega
        clear hk0
        go_cut [49] (fun s49 wx => s49 = .bool false ∧ Below wp.heap.size wp wx)
        case first =>
          obtain ⟨c0, c1, c2, c3⟩ := C.open2
          go_region_with (go_at_call 48; refine (none_c _).mono ?_; rintro e wn ⟨rfl, hbn⟩; have C2 := Blk.keep (by first | exact C | exact C.drew) hbn; obtain ⟨z0, z1, z2, z3⟩ := C2.open2)
          all_goals
            go_wp2_with fail
            go_meet
            exact ⟨rfl, by first | exact bt (bdr (Below.refl _ _)) hbn | exact bdr hbn | exact bdr (bt (bdr (Below.refl _ _)) hbn) | exact hbn⟩
        case rest =>
          obtain ⟨rfl, hb⟩ := hcut
          replace own := own.keep hb
          replace C := C.keep hb
          replace hB := bt hB hb
          clear hb
          clear C
          go_wp2_with fail
          exact ⟨⟨k + 1, Z.nd, c', A', by omega, by omega, by go_num, rfl, own, hB⟩, by simp [intOf]; omega⟩
    · obtain rfl : k = l := by omega
      obtain rfl : q = Z.nd := by have := HQ.out; have := HLEN.out; omega
      go_wp2_with fail
      go_returns
      exact ⟨A', c', rfl, own.rd, bt hg hB⟩
end Go.Proofs.Ytoeklllahpegfaa
/-
  Contract: optimize.Solve.
-/
namespace Go.Proofs.Ytoeklllahpegfaa
set_option linter.unusedVariables false
set_option linter.unusedSimpArgs false
open Go.RowKit
attribute [local irreducible] World.setCell World.cell?

set_option maxRecDepth 100000 in
set_option maxHeartbeats 4000000 in
theorem solve_z (Z : ZD) (Y : ZA) (w : World) (H : ZIn w Z Y) (h : Oz.zck Z ≠ 0) : Calls Try.prog 24 #[.agg #[.slice Y.ds Z.nd Y.dsc, .slice Y.lv Z.nl Y.lvc, .slice Y.sp Z.ns Y.spc, .slice Y.tl Z.nt Y.tlc, .slice Y.ms Z.nm Y.msc, .string Z.P.nm, .int .i64 Z.P.em, .int .i64 Z.P.fu, .slice Y.Q.al Z.P.na Y.Q.alc, .slice Y.Q.ma Z.P.nM Y.Q.mac, .slice Y.Q.tC Z.P.nC Y.Q.tCc, .slice Y.Q.tF Z.P.nF Y.Q.tFc, .slice Y.Q.tR Z.P.nR Y.Q.tRc, .slice Y.Q.dD Z.P.nD Y.Q.dDc, .slice Y.Q.dI Z.P.nI Y.Q.dIc, .slice Y.Q.dX Z.P.nX Y.Q.dXc, .slice Y.Q.dN Z.P.nN Y.Q.dNc, .int .i64 Z.P.rf, .int .i64 Z.P.xt, .int .i64 Z.P.ce, .int .i64 Z.ix, .int .i64 Z.cc, .int .i64 Z.fi, .int .i64 Z.la]] w fun e w' => e = .returned (.tuple #[.slice none 0 0, .int .i64 0, .slice none 0 0, .int .i64 (Oz.zck Z)]) ∧ Below w.heap.size w w' := by
  have KG := graph_no Z Y
  have h2 := Lib.hid h
  have hz1 : (Oz.zck Z != 0) = true := by simpa using h
  clear h
  go_enter Try.func24, Try.ntmps24
  try simp only [List.append_eq, List.cons_append, List.nil_append]
  have PB := Blk.new w 27 #[.slice Y.ds Z.nd Y.dsc, .slice Y.lv Z.nl Y.lvc, .slice Y.sp Z.ns Y.spc, .slice Y.tl Z.nt Y.tlc, .slice Y.ms Z.nm Y.msc, .string Z.P.nm, .int .i64 Z.P.em, .int .i64 Z.P.fu, .slice Y.Q.al Z.P.na Y.Q.alc, .slice Y.Q.ma Z.P.nM Y.Q.mac, .slice Y.Q.tC Z.P.nC Y.Q.tCc, .slice Y.Q.tF Z.P.nF Y.Q.tFc, .slice Y.Q.tR Z.P.nR Y.Q.tRc, .slice Y.Q.dD Z.P.nD Y.Q.dDc, .slice Y.Q.dI Z.P.nI Y.Q.dIc, .slice Y.Q.dX Z.P.nX Y.Q.dXc, .slice Y.Q.dN Z.P.nN Y.Q.dNc, .int .i64 Z.P.rf, .int .i64 Z.P.xt, .int .i64 Z.P.ce, .int .i64 Z.ix, .int .i64 Z.cc, .int .i64 Z.fi, .int .i64 Z.la]
  have hB := ba w (.cells #[.slice Y.ds Z.nd Y.dsc, .slice Y.lv Z.nl Y.lvc, .slice Y.sp Z.ns Y.spc, .slice Y.tl Z.nt Y.tlc, .slice Y.ms Z.nm Y.msc, .string Z.P.nm, .int .i64 Z.P.em, .int .i64 Z.P.fu, .slice Y.Q.al Z.P.na Y.Q.alc, .slice Y.Q.ma Z.P.nM Y.Q.mac, .slice Y.Q.tC Z.P.nC Y.Q.tCc, .slice Y.Q.tF Z.P.nF Y.Q.tFc, .slice Y.Q.tR Z.P.nR Y.Q.tRc, .slice Y.Q.dD Z.P.nD Y.Q.dDc, .slice Y.Q.dI Z.P.nI Y.Q.dIc, .slice Y.Q.dX Z.P.nX Y.Q.dXc, .slice Y.Q.dN Z.P.nN Y.Q.dNc, .int .i64 Z.P.rf, .int .i64 Z.P.xt, .int .i64 Z.P.ce, .int .i64 Z.ix, .int .i64 Z.cc, .int .i64 Z.fi, .int .i64 Z.la] 27)
  go_upto_region 1 with fail
  generalize World.alloc w _ = w1 at PB hB ⊢
  obtain ⟨d0, d1, d2, d20, d21, d22, d23, d24, d25⟩ := PB.ow24
  go_wp2_with (with_reducible show wpList _ _ _ _ _ _; refine wpList_B _ rfl rfl rfl (by with_reducible assumption) ?_)
  refine (graph_no Z Y _ (H.keep hB) h2.out).mono ?_
  rintro e w2 ⟨rfl, hb⟩
  clear d0 d1 d2 d20 d21 d22 d23 d24 d25
  replace hB := bal (bt hB hb) (.cells #[.int .i64 0, .slice none 0 0] 41)
  clear PB hb
  go_wp2_with fail
  go_returns
  exact ⟨rfl, hB⟩
set_option maxRecDepth 100000 in
set_option maxHeartbeats 4000000 in
theorem solve_o (Z : ZD) (Y : ZA) (w : World) (H : ZIn w Z Y) (hz : Oz.zck Z = 0) : Calls Try.prog 24 #[.agg #[.slice Y.ds Z.nd Y.dsc, .slice Y.lv Z.nl Y.lvc, .slice Y.sp Z.ns Y.spc, .slice Y.tl Z.nt Y.tlc, .slice Y.ms Z.nm Y.msc, .string Z.P.nm, .int .i64 Z.P.em, .int .i64 Z.P.fu, .slice Y.Q.al Z.P.na Y.Q.alc, .slice Y.Q.ma Z.P.nM Y.Q.mac, .slice Y.Q.tC Z.P.nC Y.Q.tCc, .slice Y.Q.tF Z.P.nF Y.Q.tFc, .slice Y.Q.tR Z.P.nR Y.Q.tRc, .slice Y.Q.dD Z.P.nD Y.Q.dDc, .slice Y.Q.dI Z.P.nI Y.Q.dIc, .slice Y.Q.dX Z.P.nX Y.Q.dXc, .slice Y.Q.dN Z.P.nN Y.Q.dNc, .int .i64 Z.P.rf, .int .i64 Z.P.xt, .int .i64 Z.P.ce, .int .i64 Z.ix, .int .i64 Z.cc, .int .i64 Z.fi, .int .i64 Z.la]] w fun e w' => ∃ (C D : Nat → Int), Hid (Ce.Lab (Oz.gN Z) (Oz.gL Z).length (Oz.gE Z) 0 C D) ∧ Below w.heap.size w w' ∧ ((C (Oz.gN Z - 1) < 0 ∧ e = .returned (.tuple #[.slice none 0 0, .int .i64 0, .slice none 0 0, .int .i64 6])) ∨
    (0 ≤ C (Oz.gN Z - 1) ∧ ∃ (A1 : Option Addr) (c1 : Nat) (A2 : Option Addr) (c2 : Nat), e = .returned (.tuple #[.slice A1 Z.nd c1, .int .i64 (C (Oz.gN Z - 1)), .slice A2 (Oz.gN Z) c2, .int .i64 0]) ∧ Rd w' 2 A1 Z.nd c1 (iv (Oz.rC Z (Ce.rt (Oz.gL Z).length (Oz.gE Z) C D ((Oz.gN Z - 1 : Nat) : Int)))) ∧ Rd w' 1 A2 (Oz.gN Z) c2 (nv (Ce.pot (Oz.gN Z) C)) ∧ ∀ g, ob A2 = some g → w.heap.size < g)) := by
  have O := Oz.zck_ok hz
  have ng := Oz.gN_bd O
  have hOk := Oz.g_ok O
  have HZ := Lib.hid hz
  clear hz
  go_enter Try.func24, Try.ntmps24
  try simp only [List.append_eq, List.cons_append, List.nil_append]
  have PB := Blk.new w 27 #[.slice Y.ds Z.nd Y.dsc, .slice Y.lv Z.nl Y.lvc, .slice Y.sp Z.ns Y.spc, .slice Y.tl Z.nt Y.tlc, .slice Y.ms Z.nm Y.msc, .string Z.P.nm, .int .i64 Z.P.em, .int .i64 Z.P.fu, .slice Y.Q.al Z.P.na Y.Q.alc, .slice Y.Q.ma Z.P.nM Y.Q.mac, .slice Y.Q.tC Z.P.nC Y.Q.tCc, .slice Y.Q.tF Z.P.nF Y.Q.tFc, .slice Y.Q.tR Z.P.nR Y.Q.tRc, .slice Y.Q.dD Z.P.nD Y.Q.dDc, .slice Y.Q.dI Z.P.nI Y.Q.dIc, .slice Y.Q.dX Z.P.nX Y.Q.dXc, .slice Y.Q.dN Z.P.nN Y.Q.dNc, .int .i64 Z.P.rf, .int .i64 Z.P.xt, .int .i64 Z.P.ce, .int .i64 Z.ix, .int .i64 Z.cc, .int .i64 Z.fi, .int .i64 Z.la]
  have hB := ba w (.cells #[.slice Y.ds Z.nd Y.dsc, .slice Y.lv Z.nl Y.lvc, .slice Y.sp Z.ns Y.spc, .slice Y.tl Z.nt Y.tlc, .slice Y.ms Z.nm Y.msc, .string Z.P.nm, .int .i64 Z.P.em, .int .i64 Z.P.fu, .slice Y.Q.al Z.P.na Y.Q.alc, .slice Y.Q.ma Z.P.nM Y.Q.mac, .slice Y.Q.tC Z.P.nC Y.Q.tCc, .slice Y.Q.tF Z.P.nF Y.Q.tFc, .slice Y.Q.tR Z.P.nR Y.Q.tRc, .slice Y.Q.dD Z.P.nD Y.Q.dDc, .slice Y.Q.dI Z.P.nI Y.Q.dIc, .slice Y.Q.dX Z.P.nX Y.Q.dXc, .slice Y.Q.dN Z.P.nN Y.Q.dNc, .int .i64 Z.P.rf, .int .i64 Z.P.xt, .int .i64 Z.P.ce, .int .i64 Z.ix, .int .i64 Z.cc, .int .i64 Z.fi, .int .i64 Z.la] 27)
  go_upto_region 1 with fail
  generalize World.alloc w _ = w1 at PB hB ⊢
  obtain ⟨d0, d1, d2, d20, d21, d22, d23, d24, d25⟩ := PB.ow24
  go_wp2_with (with_reducible show wpList _ _ _ _ _ _; refine wpList_B _ rfl rfl rfl (by with_reducible assumption) ?_)
  refine (graph_c Z Y _ (H.keep hB) HZ.out).mono ?_
  rintro e w2 ⟨A, c, rfl, T, hb⟩
  clear d0 d1 d2 d20 d21 d22 d23 d24 d25
  replace hB := bal (bt hB hb) (.cells #[.int .i64 (Oz.gN Z : Int), .slice A (Oz.gL Z).length c] 41)
  have GB := Blk.new w2 41 #[.int .i64 (Oz.gN Z : Int), .slice A (Oz.gL Z).length c]
  replace PB := (PB.keep hb).alloc (.cells #[.int .i64 (Oz.gN Z : Int), .slice A (Oz.gL Z).length c] 41)
  replace T := T.keep (ba w2 (.cells #[.int .i64 (Oz.gN Z : Int), .slice A (Oz.gL Z).length c] 41))
  clear hb
  obtain ⟨c0, c1, c2, c3⟩ := GB.open2
  have hsz0 := PB.lt
  have KS := solve_f A (Oz.gN Z) (Oz.gL Z).length c (Oz.gE Z) 0 _ T hOk (by omega) (Oz.gN Z - 1) (by omega)
  rw [Oz.gN_1] at KS
  go_wp2_with fail
  refine KS.mono ?_
  rintro e w3 ⟨C, D, HL, hb, ⟨hc, rfl⟩ | ⟨hc, A1, c1_, A2, c2_, rfl, R1, R2, FR⟩⟩
  · go_wp2_with fail
    go_returns
    exact ⟨C, D, HL, bt hB hb, .inl ⟨hc, rfl⟩⟩
  have FR2 := Lib.hid (fun (g : Nat) (q : ob A2 = some g) => Nat.lt_of_lt_of_le hsz0 (FR g q))
  clear KS c0 c1 c2 c3 FR
  replace hB := bt hB hb
  replace GB := GB.keep hb
  replace PB := PB.keep hb
  replace T := T.keep hb
  clear hb
  obtain ⟨s1, s2, s3, s4⟩ := Oz.sol_ok HZ.out HL.out hc
  have S1 := Lib.hid s1
  have E1 := Lib.hid (Ce.cer_ok.2 ⟨Oz.g_en O, s1⟩)
  have E2 := Lib.hid ((Ce.cst_yes E1.out).trans s2)
  have HC := Lib.hid hc
  clear s1 s2 s3 s4
  rw [← Oz.gN_1] at R1
  obtain ⟨c0, c1, c2, c3⟩ := GB.open2
  go_wp2_with fail
  refine (cost_c A (Oz.gN Z : Int) (Oz.gL Z).length c (Oz.gE Z) _ T (by omega) (by omega) 0 ((Oz.gN Z : Int) - 1) _ _ _ _ R1).mono ?_
  rintro e w4 ⟨rfl, hb⟩
  rw [E1.out, E2.out]
  clear c0 c1 c2 c3
  replace hB := bt hB hb
  replace PB := PB.keep hb
  replace R1 := R1.keep hb
  replace R2 := R2.keep hb
  clear hb T GB
  obtain ⟨d0, d1, d2, d20, d21, d22, d23, d24, d25⟩ := PB.ow24
  go_wp2_with (with_reducible show wpList _ _ _ _ _ _; refine wpList_B _ rfl rfl rfl (by with_reducible assumption) ?_)
  refine (route_c Z Y A1 _ c1_ _ _ (H.keep hB) R1 HZ.out S1.out).mono ?_
  rintro e w5 ⟨A', c', rfl, R3, hb⟩
  go_wp2_with fail
  go_returns
  exact ⟨C, D, HL, bt hB hb, .inr ⟨HC.out, A', c', A2, c2_, rfl, R3, R2.keep hb, FR2.out⟩⟩
end Go.Proofs.Ytoeklllahpegfaa
/-
  Contracts: optimize.Cost.
-/
namespace Go.Proofs.Ytoeklllahpegfaa
set_option linter.unusedVariables false
set_option linter.unusedSimpArgs false
open Go.RowKit
attribute [local irreducible] World.setCell World.cell?

set_option maxRecDepth 100000 in
set_option maxHeartbeats 8000000 in
theorem total_o (Z : ZD) (Y : ZA) (A : Option Addr) (l c : Nat) (N : Nat → Nat → Int) (w : World) (H : ZIn w Z Y) (U : Rd w 2 A l c (iv N)) : Calls Try.prog 14 #[.agg #[.slice Y.ds Z.nd Y.dsc, .slice Y.lv Z.nl Y.lvc, .slice Y.sp Z.ns Y.spc, .slice Y.tl Z.nt Y.tlc, .slice Y.ms Z.nm Y.msc, .string Z.P.nm, .int .i64 Z.P.em, .int .i64 Z.P.fu, .slice Y.Q.al Z.P.na Y.Q.alc, .slice Y.Q.ma Z.P.nM Y.Q.mac, .slice Y.Q.tC Z.P.nC Y.Q.tCc, .slice Y.Q.tF Z.P.nF Y.Q.tFc, .slice Y.Q.tR Z.P.nR Y.Q.tRc, .slice Y.Q.dD Z.P.nD Y.Q.dDc, .slice Y.Q.dI Z.P.nI Y.Q.dIc, .slice Y.Q.dX Z.P.nX Y.Q.dXc, .slice Y.Q.dN Z.P.nN Y.Q.dNc, .int .i64 Z.P.rf, .int .i64 Z.P.xt, .int .i64 Z.P.ce, .int .i64 Z.ix, .int .i64 Z.cc, .int .i64 Z.fi, .int .i64 Z.la], .slice A l c] w fun e w' => e = .returned (.tuple #[.int .i64 (Oz.qV Z l (fun p => N p 0) (fun p => N p 1)), .int .i64 (Oz.qE Z l (fun p => N p 0) (fun p => N p 1))]) ∧ Below w.heap.size w w' := by
  have r1 := U.le
  have r2 := U.mx
  obtain ⟨z, ez⟩ : ∃ z, Hid (Oz.zck Z = z) := ⟨_, rfl⟩
  have KCK := Lib.hid (fun wx (h : ZIn wx Z Y) => ocheck_c Z Y wx h)
  rw [ez.out] at KCK
  go_enter Try.func14, Try.ntmps14
  try simp only [List.append_eq, List.cons_append, List.nil_append]
  have G := Blk.new w 27 #[.slice Y.ds Z.nd Y.dsc, .slice Y.lv Z.nl Y.lvc, .slice Y.sp Z.ns Y.spc, .slice Y.tl Z.nt Y.tlc, .slice Y.ms Z.nm Y.msc, .string Z.P.nm, .int .i64 Z.P.em, .int .i64 Z.P.fu, .slice Y.Q.al Z.P.na Y.Q.alc, .slice Y.Q.ma Z.P.nM Y.Q.mac, .slice Y.Q.tC Z.P.nC Y.Q.tCc, .slice Y.Q.tF Z.P.nF Y.Q.tFc, .slice Y.Q.tR Z.P.nR Y.Q.tRc, .slice Y.Q.dD Z.P.nD Y.Q.dDc, .slice Y.Q.dI Z.P.nI Y.Q.dIc, .slice Y.Q.dX Z.P.nX Y.Q.dXc, .slice Y.Q.dN Z.P.nN Y.Q.dNc, .int .i64 Z.P.rf, .int .i64 Z.P.xt, .int .i64 Z.P.ce, .int .i64 Z.ix, .int .i64 Z.cc, .int .i64 Z.fi, .int .i64 Z.la]
  have hB := ba w (.cells #[.slice Y.ds Z.nd Y.dsc, .slice Y.lv Z.nl Y.lvc, .slice Y.sp Z.ns Y.spc, .slice Y.tl Z.nt Y.tlc, .slice Y.ms Z.nm Y.msc, .string Z.P.nm, .int .i64 Z.P.em, .int .i64 Z.P.fu, .slice Y.Q.al Z.P.na Y.Q.alc, .slice Y.Q.ma Z.P.nM Y.Q.mac, .slice Y.Q.tC Z.P.nC Y.Q.tCc, .slice Y.Q.tF Z.P.nF Y.Q.tFc, .slice Y.Q.tR Z.P.nR Y.Q.tRc, .slice Y.Q.dD Z.P.nD Y.Q.dDc, .slice Y.Q.dI Z.P.nI Y.Q.dIc, .slice Y.Q.dX Z.P.nX Y.Q.dXc, .slice Y.Q.dN Z.P.nN Y.Q.dNc, .int .i64 Z.P.rf, .int .i64 Z.P.xt, .int .i64 Z.P.ce, .int .i64 Z.ix, .int .i64 Z.cc, .int .i64 Z.fi, .int .i64 Z.la] 27)
  go_upto_region 1 with fail
  generalize World.alloc w _ = w1 at G hB ⊢
  obtain ⟨d0, d1, d2, d20, d21, d22, d23, d24, d25⟩ := G.ow24
  go_wp2_with (with_reducible show wpList _ _ _ _ _ _; refine wpList_B _ rfl rfl rfl (by with_reducible assumption) ?_)
  refine (KCK.out _ (H.keep hB)).mono ?_
  rintro e w2 ⟨rfl, hb⟩
  clear d0 d1 d2 d20 d21 d22 d23 d24 d25
  replace hB := bt hB hb
  replace G := G.keep hb
  clear hb
  by_cases hz : z = 0
  rotate_left
  · have HE := Lib.hid ((Oz.qE_z (l := l) (L := fun p => N p 0) (S := fun p => N p 1) (by rw [ez.out]; exact hz)).trans ez.out)
    have HV := Lib.hid (Oz.qV_no (by rw [HE.out]; exact hz))
    have hz1 : (z != 0) = true := by simpa using hz
    clear hz
    go_wp2_with (with_reducible show wpList _ _ _ _ _ _; refine wpList_B _ rfl rfl rfl (by with_reducible assumption) ?_)
    go_returns
    refine ⟨?_, hB⟩
    rw [HE.out, HV.out]; rfl
  subst hz
  have HZ := ez
  have O := Oz.zck_ok ez.out
  have n1 := O.nd2
  have n2 := O.nl2
  have n3 := O.fi
  have n4 := O.la
  have n5 := O.cc
  obtain ⟨d0, d1, d2, d20, d21, d22, d23, d24, d25⟩ := G.ow24
  by_cases hl : l = Z.nd
  rotate_left
  · have HE := Lib.hid (Oz.qE_l (L := fun p => N p 0) (S := fun p => N p 1) HZ.out hl)
    have HV := Lib.hid (Oz.qV_no (by rw [HE.out]; omega))
    have h3 : ((l : Int) != (Z.nd : Int)) = true := by simp; omega
    clear hl
    go_wp2_with (with_reducible show wpList _ _ _ _ _ _; refine wpList_B _ rfl rfl rfl (by with_reducible assumption) ?_)
    go_returns
    refine ⟨?_, hB⟩
    rw [HE.out, HV.out]; rfl
  subst hl
  skip
  go_wp2_with (with_reducible show wpList _ _ _ _ _ _; refine wpList_B _ rfl rfl rfl (by with_reducible assumption) ?_)
  clear d0 d1 d2 d20 d21 d22 d23 d24 d25
  go_loopw [7, 8, 28] (fun x7 x8 i wr => ∃ (k : Nat) (a m : Int), k ≤ Z.nd ∧ i = .int .i64 k ∧ x7 = .int .i64 a ∧ x8 = .int .i64 m ∧ Hid (a = Oz.atL Z (fun p => N p 0) k) ∧ Hid (m = Oz.cSm Z (fun p => N p 0) (fun p => N p 1) k) ∧ Hid (Oz.eFi Z (fun p => N p 0) (fun p => N p 1) k = 0) ∧ (0 ≤ a ∧ a < Z.nl) ∧ Blk wr w.heap.size 27 #[.slice Y.ds Z.nd Y.dsc, .slice Y.lv Z.nl Y.lvc, .slice Y.sp Z.ns Y.spc, .slice Y.tl Z.nt Y.tlc, .slice Y.ms Z.nm Y.msc, .string Z.P.nm, .int .i64 Z.P.em, .int .i64 Z.P.fu, .slice Y.Q.al Z.P.na Y.Q.alc, .slice Y.Q.ma Z.P.nM Y.Q.mac, .slice Y.Q.tC Z.P.nC Y.Q.tCc, .slice Y.Q.tF Z.P.nF Y.Q.tFc, .slice Y.Q.tR Z.P.nR Y.Q.tRc, .slice Y.Q.dD Z.P.nD Y.Q.dDc, .slice Y.Q.dI Z.P.nI Y.Q.dIc, .slice Y.Q.dX Z.P.nX Y.Q.dXc, .slice Y.Q.dN Z.P.nN Y.Q.dNc, .int .i64 Z.P.rf, .int .i64 Z.P.xt, .int .i64 Z.P.ce, .int .i64 Z.ix, .int .i64 Z.cc, .int .i64 Z.fi, .int .i64 Z.la] ∧ Below w.heap.size w wr) (fun _ _ i _ => Z.nd - (intOf i).toNat)
  case atStart => exact ⟨0, Z.fi, 0, Nat.zero_le _, rfl, rfl, rfl, Lib.hid rfl, Lib.hid rfl, Lib.hid rfl, n3, G, hB⟩
  case round =>
    clear G hB
    obtain ⟨k, a, m, hk, rfl, rfl, rfl, ha, hm, hf, ab, G, hB⟩ := hrel
    have mb := Oz.cSm_bd O hk hf.out
    rw [← hm.out] at mb
    by_cases hlt : k < Z.nd
    · obtain ⟨b, off, eA, hbl, u0, u1⟩ := (U.keep hB).at2 hlt
      have HA := Lib.hid eA
      rw [HA.out]
      clear eA
      obtain ⟨d0, d1, d2, d20, d21, d22, d23, d24, d25⟩ := G.ow24
      cases q : Oz.knB Z (N k 0) (N k 1)
      · have e1 : Oz.eLg Z (fun p => N p 0) (fun p => N p 1) k = 1 := by unfold Oz.eLg; rw [q]; rfl
        have HE := Lib.hid ((Oz.qE_p HZ.out hlt hf.out (by omega)).trans e1)
        have HV := Lib.hid (Oz.qV_no (by rw [HE.out]; omega))
        clear e1
        have GA := G.alloc (.cells #[.int .i64 (N k 0), .int .i64 (N k 1)] 35)
        go_wp2_with (with_reducible show wpList _ _ _ _ _ _; refine wpList_B _ rfl rfl rfl (by with_reducible assumption) ?_)
        replace hB := bal hB (.cells #[.int .i64 (N k 0), .int .i64 (N k 1)] 35)
        refine (known_c _ _ _ _ _).mono ?_
        rw [q]
        rintro e w3 ⟨rfl, hb⟩
        go_wp2_with (with_reducible show wpList _ _ _ _ _ _; refine wpList_B _ rfl rfl rfl (by with_reducible assumption) ?_)
        go_returns
        refine ⟨?_, bt hB hb⟩
        rw [HE.out, HV.out]; rfl
      obtain ⟨⟨k1, k2⟩, k3, k4⟩ := Oz.kn_iff.1 q
      have EL : Hid (Oz.eLg Z (fun p => N p 0) (fun p => N p 1) k = if 1 < Oz.dfW a (N k 0) then 9 else Oz.coE Z k (N k 0).toNat (N k 1).toNat) := Lib.hid (by unfold Oz.eLg; rw [if_pos q, ← ha.out])
      have CL : Hid (Oz.cLg Z (fun p => N p 0) (fun p => N p 1) k = Oz.cs Z k (N k 0).toNat (N k 1).toNat + Z.cc * Oz.dfW a (N k 0)) := Lib.hid (by unfold Oz.cLg; rw [← ha.out])
      have KK := Lib.hid (fun (wx : World) (h : ZIn wx Z Y) => cost_o_x Z Y HZ.out (by omega : (0 : Int) ≤ (k : Int)) (by omega) k1 k2 k3 k4 wx h)
      rw [Int.toNat_natCast] at KK
      have q' := Lib.hid q
      have KB := Lib.hid (fun h => Oz.cs_bd (j := (N k 0).toNat) (s := (N k 1).toNat) O hlt (by omega) h)
      have KD := Oz.dfW_nn a (N k 0)
      have HS1 := Lib.hid (fun h : Oz.eLg Z (fun p => N p 0) (fun p => N p 1) k = 0 => Oz.eFi_next hf.out h)
      have HS2 := Lib.hid (fun h : Oz.eLg Z (fun p => N p 0) (fun p => N p 1) k ≠ 0 => Oz.qE_p HZ.out hlt hf.out h)
      have HS3 : Hid (Oz.cSm Z (fun p => N p 0) (fun p => N p 1) (k + 1) = m + Oz.cLg Z (fun p => N p 0) (fun p => N p 1) k) := Lib.hid (by rw [Oz.cSm, hm.out])
      have HT : Hid (N k 0 = Oz.atL Z (fun p => N p 0) (k + 1)) := Lib.hid rfl
      clear q
      have C := Blk.new wr 35 #[.int .i64 (N k 0), .int .i64 (N k 1)]
      have GA := G.alloc (.cells #[.int .i64 (N k 0), .int .i64 (N k 1)] 35)
      go_wp2_with (with_reducible show wpList _ _ _ _ _ _; refine wpList_B _ rfl rfl rfl (by with_reducible assumption) ?_)
      refine (known_c _ _ _ _ _).mono ?_
      rw [q'.out]
      rintro e w3 ⟨rfl, hb⟩
      clear d0 d1 d2 d20 d21 d22 d23 d24 d25
      replace G := GA.keep hb
      clear GA
      replace hB := bt (bal hB (.cells #[.int .i64 (N k 0), .int .i64 (N k 1)] 35)) hb
      replace C := C.keep hb
      clear hb
      have KH := change_c a (N k 0) w3 (by omega) (by omega)
      have KQ := Lib.hid (fun n => change_c a (N k 0) (World.drewN w3 n) (by omega) (by omega))
      obtain ⟨c0, c1, c2, c3⟩ := C.open2
      go_wp2_with (with_reducible show wpList _ _ _ _ _ _; refine wpList_B _ rfl rfl rfl (by with_reducible assumption) ?_)
      refine KH.mono ?_
      rintro e w_ ⟨rfl, rfl⟩
      clear KH
      by_cases h9 : 1 < Oz.dfW a (N k 0)
      · have e1 := EL.out
        rw [if_pos h9] at e1
        have HE := Lib.hid ((HS2.out (by omega)).trans e1)
        have HV := Lib.hid (Oz.qV_no (by rw [HE.out]; omega))
        clear e1
        go_wp2_with (with_reducible show wpList _ _ _ _ _ _; refine wpList_B _ rfl rfl rfl (by with_reducible assumption) ?_)
        go_returns
        refine ⟨?_, hB⟩
        rw [HE.out, HV.out]; rfl
      have e1 := EL.out
      rw [if_neg h9] at e1
      have E1 := Lib.hid e1
      clear e1 EL
      obtain ⟨d0, d1, d2, d20, d21, d22, d23, d24, d25⟩ := G.ow24
      go_wp2_with (with_reducible show wpList _ _ _ _ _ _; refine wpList_B _ rfl rfl rfl (by with_reducible assumption) ?_)
      refine (KK.out _ (H.keep hB)).mono ?_
      rintro e w4 ⟨rfl, hb⟩
      clear d0 d1 d2 d20 d21 d22 d23 d24 d25
      clear c0 c1 c2 c3
      replace hB := bt hB hb
      replace G := G.keep hb
      replace C := C.keep hb
      clear hb KK KQ
      have KQ := Lib.hid (fun n => change_c a (N k 0) (World.drewN w4 n) (by omega) (by omega))
      cases qo : Oz.okc Z k (N k 0).toNat (N k 1).toNat
      · have e1 := E1.out
        rw [(Oz.coE_f qo).1] at e1
        have HE := Lib.hid ((HS2.out (by omega)).trans e1)
        have HV := Lib.hid (Oz.qV_no (by rw [HE.out]; omega))
        have e2 := Lib.hid (Oz.coE_f qo).1
        rw [e2.out]
        clear e1
        go_wp2_with (with_reducible show wpList _ _ _ _ _ _; refine wpList_B _ rfl rfl rfl (by with_reducible assumption) ?_)
        go_returns
        refine ⟨?_, hB⟩
        rw [HE.out, HV.out]; rfl
      have e1 := E1.out
      rw [(Oz.coE_t qo).1] at e1
      have HN := Lib.hid (HS1.out e1)
      have e2 := Lib.hid (Oz.coE_t qo).1
      have e3 := Lib.hid (Oz.coE_t qo).2
      rw [e2.out, e3.out]
      have kb := KB.out qo
      have HSM := Lib.hid (HS3.out.trans (by rw [CL.out]))
      have pb := Oz.cc_le O KD (show Oz.dfW a (N k 0) ≤ 1 by omega)
      clear e1 qo KB E1 HS1 HS2 HS3 CL
      generalize Oz.cs Z k (N k 0).toNat (N k 1).toNat = x at *
      generalize hd : Oz.dfW a (N k 0) = d at *
      have HD := Lib.hid hd
      clear hd
      obtain ⟨x0, x1⟩ := kb
      obtain ⟨m0, m1⟩ := mb
      obtain ⟨p0, p1⟩ := pb
      obtain ⟨d0, d1, d2, d20, d21, d22, d23, d24, d25⟩ := G.ow24
      obtain ⟨c0, c1, c2, c3⟩ := C.open2
      go_wp2_with (with_reducible show wpList _ _ _ _ _ _; refine wpList_B _ rfl rfl rfl (by with_reducible assumption) ?_)
      go_quiet ((go_at_call 41; exact quiet_left' (KQ.out _)))
      have hB1 := bdnl hB ‹Nat›
      have G1 := G.drewN ‹Nat›
      go_wp2_with (with_reducible show wpList _ _ _ _ _ _; refine wpList_B _ rfl rfl rfl (by with_reducible assumption) ?_)
      go_roundw
      case rel => exact ⟨k + 1, _, _, by omega, by go_num, rfl, rfl, HT, Lib.hid (by rw [HSM.out] <;> omega), HN, ⟨k1, k2⟩, G1, hB1⟩
      case measure => simp [intOf]; omega
    · obtain rfl : k = Z.nd := by omega
      clear hlt
      have KH := change_c a Z.la wr (by omega) (by omega)
      have KD := Oz.dfW_nn a Z.la
      obtain ⟨d0, d1, d2, d20, d21, d22, d23, d24, d25⟩ := G.ow24
      go_wp2_with (with_reducible show wpList _ _ _ _ _ _; refine wpList_B _ rfl rfl rfl (by with_reducible assumption) ?_)
      refine KH.mono ?_
      rintro e w_ ⟨rfl, rfl⟩
      clear KH
      have HS4 : Hid (Oz.dfW (Oz.atL Z (fun p => N p 0) Z.nd) Z.la = Oz.dfW a Z.la) := Lib.hid (by rw [ha.out])
      by_cases h9 : 1 < Oz.dfW a Z.la
      · have HE := Lib.hid (Oz.qE_9 HZ.out hf.out (by rw [HS4.out]; exact h9))
        have HV := Lib.hid (Oz.qV_no (by rw [HE.out]; omega))
        go_wp2_with (with_reducible show wpList _ _ _ _ _ _; refine wpList_B _ rfl rfl rfl (by with_reducible assumption) ?_)
        go_returns
        refine ⟨?_, hB⟩
        rw [HE.out, HV.out]; rfl
      have HE := Lib.hid (Oz.qE_0 HZ.out hf.out (by rw [HS4.out]; exact h9))
      have HV := Lib.hid (Oz.qV_yes HE.out)
      have HV2 := Lib.hid (HV.out.trans (by rw [HS4.out, ← hm.out]))
      have KQ := Lib.hid (fun n => change_c a Z.la (World.drewN wr n) (by omega) (by omega))
      have pb := Oz.cc_le O KD (show Oz.dfW a Z.la ≤ 1 by omega)
      clear HV HS4 hm ha
      generalize hd : Oz.dfW a Z.la = d at *
      have HD := Lib.hid hd
      clear hd
      obtain ⟨m0, m1⟩ := mb
      obtain ⟨p0, p1⟩ := pb
      go_wp2_with (with_reducible show wpList _ _ _ _ _ _; refine wpList_B _ rfl rfl rfl (by with_reducible assumption) ?_)
      go_quiet ((go_at_call 41; exact quiet_left' (KQ.out _)))
      have hB1 := bdnl hB ‹Nat›
      go_wp2_with (with_reducible show wpList _ _ _ _ _ _; refine wpList_B _ rfl rfl rfl (by with_reducible assumption) ?_)
      go_returns
      refine ⟨?_, hB1⟩
      rw [HE.out, HV2.out]; first | rfl | skip
end Go.Proofs.Ytoeklllahpegfaa
/-
  Contract: awake of the laws.
-/
namespace Go.Proofs.Ytoeklllahpegfaa
set_option linter.unusedVariables false
set_option linter.unusedSimpArgs false
open Go.RowKit
attribute [local irreducible] World.setCell World.cell?

theorem solve_ex (Z : ZD) (Y : ZA) (w : World) (H : ZIn w Z Y) (hZ : Z = Oz.exZ) : Calls Try.prog 24 #[.agg #[.slice Y.ds Z.nd Y.dsc, .slice Y.lv Z.nl Y.lvc, .slice Y.sp Z.ns Y.spc, .slice Y.tl Z.nt Y.tlc, .slice Y.ms Z.nm Y.msc, .string Z.P.nm, .int .i64 Z.P.em, .int .i64 Z.P.fu, .slice Y.Q.al Z.P.na Y.Q.alc, .slice Y.Q.ma Z.P.nM Y.Q.mac, .slice Y.Q.tC Z.P.nC Y.Q.tCc, .slice Y.Q.tF Z.P.nF Y.Q.tFc, .slice Y.Q.tR Z.P.nR Y.Q.tRc, .slice Y.Q.dD Z.P.nD Y.Q.dDc, .slice Y.Q.dI Z.P.nI Y.Q.dIc, .slice Y.Q.dX Z.P.nX Y.Q.dXc, .slice Y.Q.dN Z.P.nN Y.Q.dNc, .int .i64 Z.P.rf, .int .i64 Z.P.xt, .int .i64 Z.P.ce, .int .i64 Z.ix, .int .i64 Z.cc, .int .i64 Z.fi, .int .i64 Z.la]] w fun e w' => ∃ (A1 : Option Addr) (c1 : Nat) (A2 : Option Addr) (c2 : Nat), e = .returned (.tuple #[.slice A1 1 c1, .int .i64 300000, .slice A2 4 c2, .int .i64 0]) ∧ Rd w' 2 A1 1 c1 (iv (Oz.row2 0 1)) ∧ Below w.heap.size w w' := by
  refine (solve_o Z Y w H (by rw [hZ]; exact Oz.ex_ok)).mono ?_
  subst hZ
  rintro e w' ⟨C, D, HL, hb, hcase⟩
  obtain ⟨s1, s2, s3⟩ := Oz.ex_sol HL.out
  rcases hcase with ⟨hc, _⟩ | ⟨hc, A1, c1, A2, c2, he, R1, R2, _⟩
  · rw [s1] at hc; omega
  · rw [s1] at he
    refine ⟨A1, c1, A2, c2, he, Rd.congr R1 fun i j hi hj => ?_, hb⟩
    have hi0 : i = 0 := by have : Oz.exZ.nd = 1 := rfl; omega
    subst hi0
    unfold iv
    match j, hj with
    | 0, _ => rw [s2]; rfl
    | 1, _ => rw [s3]; rfl
set_option maxRecDepth 100000 in
set_option maxHeartbeats 4000000 in
theorem awake_c (w : World) : Calls Try.prog 11 #[] w fun e w' => e = .returned (.bool true) ∧ Below w.heap.size w w' := by
  go_enter Try.func11, Try.ntmps11
  try simp only [List.append_eq, List.cons_append, List.nil_append]
  go_wp2_with fail
  refine (example_c _).mono ?_
  rintro e w1 ⟨Z, Y, hZ, rfl, H, hB⟩
  have A0 := Blk.new w1 27 #[.slice none 0 0, .slice none 0 0, .slice none 0 0, .slice none 0 0, .slice none 0 0, .string ⟨#[]⟩, .int .i64 0, .int .i64 0, .slice none 0 0, .slice none 0 0, .slice none 0 0, .slice none 0 0, .slice none 0 0, .slice none 0 0, .slice none 0 0, .slice none 0 0, .slice none 0 0, .int .i64 0, .int .i64 0, .int .i64 0, .int .i64 0, .int .i64 0, .int .i64 0, .int .i64 0]
  have hk := ba w1 (.cells #[.slice none 0 0, .slice none 0 0, .slice none 0 0, .slice none 0 0, .slice none 0 0, .string ⟨#[]⟩, .int .i64 0, .int .i64 0, .slice none 0 0, .slice none 0 0, .slice none 0 0, .slice none 0 0, .slice none 0 0, .slice none 0 0, .slice none 0 0, .slice none 0 0, .slice none 0 0, .int .i64 0, .int .i64 0, .int .i64 0, .int .i64 0, .int .i64 0, .int .i64 0, .int .i64 0] 27)
  have TH := A0.there (n := 24) (Nat.le_refl _)
  obtain ⟨wF, hF⟩ : ∃ wF, World.setCells (World.alloc w1 (.cells #[.slice none 0 0, .slice none 0 0, .slice none 0 0, .slice none 0 0, .slice none 0 0, .string ⟨#[]⟩, .int .i64 0, .int .i64 0, .slice none 0 0, .slice none 0 0, .slice none 0 0, .slice none 0 0, .slice none 0 0, .slice none 0 0, .slice none 0 0, .slice none 0 0, .slice none 0 0, .int .i64 0, .int .i64 0, .int .i64 0, .int .i64 0, .int .i64 0, .int .i64 0, .int .i64 0] 27)) w1.heap.size 0 [.slice Y.ds Z.nd Y.dsc, .slice Y.lv Z.nl Y.lvc, .slice Y.sp Z.ns Y.spc, .slice Y.tl Z.nt Y.tlc, .slice Y.ms Z.nm Y.msc, .string Z.P.nm, .int .i64 Z.P.em, .int .i64 Z.P.fu, .slice Y.Q.al Z.P.na Y.Q.alc, .slice Y.Q.ma Z.P.nM Y.Q.mac, .slice Y.Q.tC Z.P.nC Y.Q.tCc, .slice Y.Q.tF Z.P.nF Y.Q.tFc, .slice Y.Q.tR Z.P.nR Y.Q.tRc, .slice Y.Q.dD Z.P.nD Y.Q.dDc, .slice Y.Q.dI Z.P.nI Y.Q.dIc, .slice Y.Q.dX Z.P.nX Y.Q.dXc, .slice Y.Q.dN Z.P.nN Y.Q.dNc, .int .i64 Z.P.rf, .int .i64 Z.P.xt, .int .i64 Z.P.ce, .int .i64 Z.ix, .int .i64 Z.cc, .int .i64 Z.fi, .int .i64 Z.la] = wF := ⟨_, rfl⟩
  have PB : Blk wF w1.heap.size 27 #[.slice Y.ds Z.nd Y.dsc, .slice Y.lv Z.nl Y.lvc, .slice Y.sp Z.ns Y.spc, .slice Y.tl Z.nt Y.tlc, .slice Y.ms Z.nm Y.msc, .string Z.P.nm, .int .i64 Z.P.em, .int .i64 Z.P.fu, .slice Y.Q.al Z.P.na Y.Q.alc, .slice Y.Q.ma Z.P.nM Y.Q.mac, .slice Y.Q.tC Z.P.nC Y.Q.tCc, .slice Y.Q.tF Z.P.nF Y.Q.tFc, .slice Y.Q.tR Z.P.nR Y.Q.tRc, .slice Y.Q.dD Z.P.nD Y.Q.dDc, .slice Y.Q.dI Z.P.nI Y.Q.dIc, .slice Y.Q.dX Z.P.nX Y.Q.dXc, .slice Y.Q.dN Z.P.nN Y.Q.dNc, .int .i64 Z.P.rf, .int .i64 Z.P.xt, .int .i64 Z.P.ce, .int .i64 Z.ix, .int .i64 Z.cc, .int .i64 Z.fi, .int .i64 Z.la] := by rw [← hF]; exact blk_setCells [.slice Y.ds Z.nd Y.dsc, .slice Y.lv Z.nl Y.lvc, .slice Y.sp Z.ns Y.spc, .slice Y.tl Z.nt Y.tlc, .slice Y.ms Z.nm Y.msc, .string Z.P.nm, .int .i64 Z.P.em, .int .i64 Z.P.fu, .slice Y.Q.al Z.P.na Y.Q.alc, .slice Y.Q.ma Z.P.nM Y.Q.mac, .slice Y.Q.tC Z.P.nC Y.Q.tCc, .slice Y.Q.tF Z.P.nF Y.Q.tFc, .slice Y.Q.tR Z.P.nR Y.Q.tRc, .slice Y.Q.dD Z.P.nD Y.Q.dDc, .slice Y.Q.dI Z.P.nI Y.Q.dIc, .slice Y.Q.dX Z.P.nX Y.Q.dXc, .slice Y.Q.dN Z.P.nN Y.Q.dNc, .int .i64 Z.P.rf, .int .i64 Z.P.xt, .int .i64 Z.P.ce, .int .i64 Z.ix, .int .i64 Z.cc, .int .i64 Z.fi, .int .i64 Z.la] [] [.slice none 0 0, .slice none 0 0, .slice none 0 0, .slice none 0 0, .slice none 0 0, .string ⟨#[]⟩, .int .i64 0, .int .i64 0, .slice none 0 0, .slice none 0 0, .slice none 0 0, .slice none 0 0, .slice none 0 0, .slice none 0 0, .slice none 0 0, .slice none 0 0, .slice none 0 0, .int .i64 0, .int .i64 0, .int .i64 0, .int .i64 0, .int .i64 0, .int .i64 0, .int .i64 0] _ A0 rfl
  replace hk := below_setCells [.slice Y.ds Z.nd Y.dsc, .slice Y.lv Z.nl Y.lvc, .slice Y.sp Z.ns Y.spc, .slice Y.tl Z.nt Y.tlc, .slice Y.ms Z.nm Y.msc, .string Z.P.nm, .int .i64 Z.P.em, .int .i64 Z.P.fu, .slice Y.Q.al Z.P.na Y.Q.alc, .slice Y.Q.ma Z.P.nM Y.Q.mac, .slice Y.Q.tC Z.P.nC Y.Q.tCc, .slice Y.Q.tF Z.P.nF Y.Q.tFc, .slice Y.Q.tR Z.P.nR Y.Q.tRc, .slice Y.Q.dD Z.P.nD Y.Q.dDc, .slice Y.Q.dI Z.P.nI Y.Q.dIc, .slice Y.Q.dX Z.P.nX Y.Q.dXc, .slice Y.Q.dN Z.P.nN Y.Q.dNc, .int .i64 Z.P.rf, .int .i64 Z.P.xt, .int .i64 Z.P.ce, .int .i64 Z.ix, .int .i64 Z.cc, .int .i64 Z.fi, .int .i64 Z.la] 0 (Nat.le_refl _) hk
  rw [hF] at hk
  replace H := H.keep hk
  replace hB := bt hB hk
  clear hk A0
  obtain ⟨d0, d1, d2, d20, d21, d22, d23, d24, d25⟩ := PB.ow24
  go_wp2_with (first | ((with_reducible show wpList _ _ _ _ _ _); refine wpList_store_to rfl 27 _ _ rfl w1.heap.size 0 [.slice Y.ds Z.nd Y.dsc, .slice Y.lv Z.nl Y.lvc, .slice Y.sp Z.ns Y.spc, .slice Y.tl Z.nt Y.tlc, .slice Y.ms Z.nm Y.msc, .string Z.P.nm, .int .i64 Z.P.em, .int .i64 Z.P.fu, .slice Y.Q.al Z.P.na Y.Q.alc, .slice Y.Q.ma Z.P.nM Y.Q.mac, .slice Y.Q.tC Z.P.nC Y.Q.tCc, .slice Y.Q.tF Z.P.nF Y.Q.tFc, .slice Y.Q.tR Z.P.nR Y.Q.tRc, .slice Y.Q.dD Z.P.nD Y.Q.dDc, .slice Y.Q.dI Z.P.nI Y.Q.dIc, .slice Y.Q.dX Z.P.nX Y.Q.dXc, .slice Y.Q.dN Z.P.nN Y.Q.dNc, .int .i64 Z.P.rf, .int .i64 Z.P.xt, .int .i64 Z.P.ce, .int .i64 Z.ix, .int .i64 Z.cc, .int .i64 Z.fi, .int .i64 Z.la] rfl rfl TH infoP rfl hF ?_; clear hF TH) | (with_reducible show wpList _ _ _ _ _ _; refine wpList_B _ rfl rfl rfl (by with_reducible assumption) ?_))
  generalize w1.heap.size = g at *
  refine (solve_ex Z Y _ H hZ.out).mono ?_
  rintro e w3 ⟨A1, c1, A2, c2, rfl, R1, hb⟩
  clear d0 d1 d2 d20 d21 d22 d23 d24 d25
  replace hB := bt hB hb
  replace PB := PB.keep hb
  replace H := H.keep hb
  clear hb
  have U := rd_row2 w3 35 0 0 rfl
  replace hB := bal hB (.cells #[.int .i64 0, .int .i64 0] 35)
  have hk := ba w3 (.cells #[.int .i64 0, .int .i64 0] 35)
  replace R1 := R1.keep hk
  replace H := H.keep hk
  clear hk
  have K1 := total_o Z Y _ 1 1 _ _ H U
  have q1 : Oz.qE Z 1 (fun p => Oz.row2 0 0 p 0) (fun p => Oz.row2 0 0 p 1) = 0 := by rw [hZ.out]; exact Oz.ex_cost.1
  have q2 : Oz.qV Z 1 (fun p => Oz.row2 0 0 p 0) (fun p => Oz.row2 0 0 p 1) = 600000 := by rw [hZ.out]; exact Oz.ex_cost.2
  rw [q1, q2] at K1
  clear q1 q2
  obtain ⟨d0, d1, d2, d20, d21, d22, d23, d24, d25⟩ := PB.ow24
  go_upto_region 3 with fail
  go_wp2_with (with_reducible show wpList _ _ _ _ _ _; refine wpList_B _ rfl rfl rfl (by with_reducible assumption) ?_)
  refine K1.mono ?_
  rintro e w4 ⟨rfl, hb⟩
  clear d0 d1 d2 d20 d21 d22 d23 d24 d25
  clear K1 U
  replace hB := bt hB hb
  replace PB := (PB.alloc (.cells #[.int .i64 0, .int .i64 0] 35)).keep hb
  replace R1 := R1.keep hb
  replace H := H.keep hb
  clear hb
  have K2 := leg_o Z Y 0 1 1 _ H
  rw [show Oz.lgE Z 0 1 1 = 0 by rw [hZ.out]; exact Oz.ex_leg.1, show Oz.lgV Z 0 1 1 = 300000 by rw [hZ.out]; exact Oz.ex_leg.2] at K2
  obtain ⟨d0, d1, d2, d20, d21, d22, d23, d24, d25⟩ := PB.ow24
  go_wp2_with (with_reducible show wpList _ _ _ _ _ _; refine wpList_B _ rfl rfl rfl (by with_reducible assumption) ?_)
  refine K2.mono ?_
  rintro e w5 ⟨rfl, hb⟩
  clear d0 d1 d2 d20 d21 d22 d23 d24 d25
  clear K2 PB H
  replace hB := bt hB hb
  replace R1 := R1.keep hb
  clear hb
  obtain ⟨b, off, eA, hbl, x0, x1⟩ := R1.at2 (k := 0) (by omega)
  rw [Nat.zero_mul, Nat.add_zero] at x0 x1
  have y0 : (Oz.row2 0 1 0 0 == 0) = true := by decide
  have y1 : (Oz.row2 0 1 0 1 == 1) = true := by decide
  generalize Oz.row2 0 1 0 0 = x at *
  generalize Oz.row2 0 1 0 1 = y at *
  rw [eA]
  have rl := R1.le
  clear R1 eA
  go_wp2_with fail
  go_returns
  first | exact ⟨rfl, hB⟩ | exact hB
end Go.Proofs.Ytoeklllahpegfaa
/-
  The walks of the laws Least, Proves and Dearer.
-/
namespace Go.Proofs.Ytoeklllahpegfaa
set_option linter.unusedVariables false
set_option linter.unusedSimpArgs false
open Go.RowKit
attribute [local irreducible] World.setCell World.cell?

/-- A cell of another block stored. -/
theorem Rd.far2 {w : World} {q : Nat} {A : Option Addr} {n c : Nat} {V : Nat → Nat → Value} (h : Rd w q A n c V) {g : Nat} (hg : ∀ b, ob A = some b → g ≠ b) (o : Nat) (v : Value) : Rd (w.setCell ⟨g, o, none⟩ v) q A n c V :=
  ⟨h.le, h.mx, fun hn => by
    obtain ⟨b, off, e, hl, hc⟩ := h.at_ hn
    have hne := hg b (by rw [e]; rfl)
    exact ⟨b, off, e, by simpa [World.setCell] using hl, fun i j hi hj => by
      rw [← hc i j hi hj]
      refine World.cell?_setCell_other (a := ⟨g, o, none⟩) (b := ⟨b, off + i * q + j, none⟩) (w := w) (v := v) (h := fun z => ?_)
      injection z with z1
      exact hne z1⟩⟩
theorem ZIn.dz {w : World} {Z : ZD} {Y : ZA} (h : ZIn w Z Y) (x y : Int) : ZIn w (Oz.dz Z x y) Y := ⟨h.ds, h.lv, h.sp, h.tl, h.ms, h.P⟩
set_option maxRecDepth 100000 in
set_option maxHeartbeats 4000000 in
theorem law_least (Z : ZD) (Y : ZA) (B : Option Addr) (l d : Nat) (N : Nat → Nat → Int) (w : World) (H : ZIn w Z Y) (U : Rd w 2 B l d (iv N)) : Calls Try.prog 6 #[.agg #[.slice Y.ds Z.nd Y.dsc, .slice Y.lv Z.nl Y.lvc, .slice Y.sp Z.ns Y.spc, .slice Y.tl Z.nt Y.tlc, .slice Y.ms Z.nm Y.msc, .string Z.P.nm, .int .i64 Z.P.em, .int .i64 Z.P.fu, .slice Y.Q.al Z.P.na Y.Q.alc, .slice Y.Q.ma Z.P.nM Y.Q.mac, .slice Y.Q.tC Z.P.nC Y.Q.tCc, .slice Y.Q.tF Z.P.nF Y.Q.tFc, .slice Y.Q.tR Z.P.nR Y.Q.tRc, .slice Y.Q.dD Z.P.nD Y.Q.dDc, .slice Y.Q.dI Z.P.nI Y.Q.dIc, .slice Y.Q.dX Z.P.nX Y.Q.dXc, .slice Y.Q.dN Z.P.nN Y.Q.dNc, .int .i64 Z.P.rf, .int .i64 Z.P.xt, .int .i64 Z.P.ce, .int .i64 Z.ix, .int .i64 Z.cc, .int .i64 Z.fi, .int .i64 Z.la], .slice B l d] w fun e w' => e = .returned (.bool true) ∧ Below w.heap.size w w' := by
  go_enter Try.func6, Try.ntmps6
  try simp only [List.append_eq, List.cons_append, List.nil_append]
  have PB := Blk.new w 27 #[.slice Y.ds Z.nd Y.dsc, .slice Y.lv Z.nl Y.lvc, .slice Y.sp Z.ns Y.spc, .slice Y.tl Z.nt Y.tlc, .slice Y.ms Z.nm Y.msc, .string Z.P.nm, .int .i64 Z.P.em, .int .i64 Z.P.fu, .slice Y.Q.al Z.P.na Y.Q.alc, .slice Y.Q.ma Z.P.nM Y.Q.mac, .slice Y.Q.tC Z.P.nC Y.Q.tCc, .slice Y.Q.tF Z.P.nF Y.Q.tFc, .slice Y.Q.tR Z.P.nR Y.Q.tRc, .slice Y.Q.dD Z.P.nD Y.Q.dDc, .slice Y.Q.dI Z.P.nI Y.Q.dIc, .slice Y.Q.dX Z.P.nX Y.Q.dXc, .slice Y.Q.dN Z.P.nN Y.Q.dNc, .int .i64 Z.P.rf, .int .i64 Z.P.xt, .int .i64 Z.P.ce, .int .i64 Z.ix, .int .i64 Z.cc, .int .i64 Z.fi, .int .i64 Z.la]
  have hB := ba w (.cells #[.slice Y.ds Z.nd Y.dsc, .slice Y.lv Z.nl Y.lvc, .slice Y.sp Z.ns Y.spc, .slice Y.tl Z.nt Y.tlc, .slice Y.ms Z.nm Y.msc, .string Z.P.nm, .int .i64 Z.P.em, .int .i64 Z.P.fu, .slice Y.Q.al Z.P.na Y.Q.alc, .slice Y.Q.ma Z.P.nM Y.Q.mac, .slice Y.Q.tC Z.P.nC Y.Q.tCc, .slice Y.Q.tF Z.P.nF Y.Q.tFc, .slice Y.Q.tR Z.P.nR Y.Q.tRc, .slice Y.Q.dD Z.P.nD Y.Q.dDc, .slice Y.Q.dI Z.P.nI Y.Q.dIc, .slice Y.Q.dX Z.P.nX Y.Q.dXc, .slice Y.Q.dN Z.P.nN Y.Q.dNc, .int .i64 Z.P.rf, .int .i64 Z.P.xt, .int .i64 Z.P.ce, .int .i64 Z.ix, .int .i64 Z.cc, .int .i64 Z.fi, .int .i64 Z.la] 27)
  go_upto_region 1 with fail
  generalize World.alloc w _ = w1 at PB hB ⊢
  go_wp2_with fail
  refine (awake_c _).mono ?_
  rintro e w2 ⟨rfl, hb⟩
  replace hB := bt hB hb
  replace PB := PB.keep hb
  clear hb
  obtain ⟨qe, hqe⟩ : ∃ qe, Hid (Oz.qE Z l (fun p => N p 0) (fun p => N p 1) = qe) := ⟨_, Lib.hid rfl⟩
  obtain ⟨qv, hqv⟩ : ∃ qv, Hid (Oz.qV Z l (fun p => N p 0) (fun p => N p 1) = qv) := ⟨_, Lib.hid rfl⟩
  have KT := Lib.hid (fun wx (h : ZIn wx Z Y) (u : Rd wx 2 B l d (iv N)) => total_o Z Y B l d N wx h u)
  rw [hqe.out, hqv.out] at KT
  by_cases hz : Oz.zck Z = 0
  rotate_left
  · have hz1 : (Oz.zck Z != 0) = true := by simpa using hz
    have hq1 : (qe != 0) = true := by rw [← hqe.out, Oz.qE_z hz]; exact hz1
    have HZ := Lib.hid hz
    clear hz
    obtain ⟨d0, d1, d2, d20, d21, d22, d23, d24, d25⟩ := PB.ow24
    go_wp2_with (with_reducible show wpList _ _ _ _ _ _; refine wpList_B _ rfl rfl rfl (by with_reducible assumption) ?_)
    refine (solve_z Z Y _ (H.keep hB) HZ.out).mono ?_
    rintro e w3 ⟨rfl, hb⟩
    clear d0 d1 d2 d20 d21 d22 d23 d24 d25
    replace hB := bt hB hb
    replace PB := PB.keep hb
    clear hb
    obtain ⟨d0, d1, d2, d20, d21, d22, d23, d24, d25⟩ := PB.ow24
    go_wp2_with (with_reducible show wpList _ _ _ _ _ _; refine wpList_B _ rfl rfl rfl (by with_reducible assumption) ?_)
    refine (KT.out _ (H.keep hB) (U.keep hB)).mono ?_
    rintro e w4 ⟨rfl, hb⟩
    clear d0 d1 d2 d20 d21 d22 d23 d24 d25
    replace hB := bt hB hb
    clear hb PB
    go_wp2_with fail
    go_returns
    first | exact ⟨rfl, hB⟩ | exact hB
  have HZ := Lib.hid hz
  clear hz
  obtain ⟨d0, d1, d2, d20, d21, d22, d23, d24, d25⟩ := PB.ow24
  go_wp2_with (with_reducible show wpList _ _ _ _ _ _; refine wpList_B _ rfl rfl rfl (by with_reducible assumption) ?_)
  refine (solve_o Z Y _ (H.keep hB) HZ.out).mono ?_
  rintro e w3 ⟨C, D, HL, hb, hcase⟩
  clear d0 d1 d2 d20 d21 d22 d23 d24 d25
  replace hB := bt hB hb
  replace PB := PB.keep hb
  clear hb
  rcases hcase with ⟨hc, rfl⟩ | ⟨hc, A1, c1, A2, c2, rfl, R1, R2, FR⟩
  · have hq1 : (qe != 0) = true := by rw [← hqe.out]; simpa using Oz.sol_no HZ.out HL.out hc _ _ _
    clear hc
    obtain ⟨d0, d1, d2, d20, d21, d22, d23, d24, d25⟩ := PB.ow24
    go_wp2_with (with_reducible show wpList _ _ _ _ _ _; refine wpList_B _ rfl rfl rfl (by with_reducible assumption) ?_)
    refine (KT.out _ (H.keep hB) (U.keep hB)).mono ?_
    rintro e w4 ⟨rfl, hb⟩
    clear d0 d1 d2 d20 d21 d22 d23 d24 d25
    replace hB := bt hB hb
    clear hb PB
    go_wp2_with fail
    go_returns
    first | exact ⟨rfl, hB⟩ | exact hB
  obtain ⟨s1, s2, s3, s4⟩ := Oz.sol_ok HZ.out HL.out hc
  have E3 := Lib.hid (show Oz.qE Z Z.nd (fun p => Oz.rC Z (Ce.rt (Oz.gL Z).length (Oz.gE Z) C D ((Oz.gN Z - 1 : Nat) : Int)) p 0) (fun p => Oz.rC Z (Ce.rt (Oz.gL Z).length (Oz.gE Z) C D ((Oz.gN Z - 1 : Nat) : Int)) p 1) = 0 from s3)
  have E4 := Lib.hid (show Oz.qV Z Z.nd (fun p => Oz.rC Z (Ce.rt (Oz.gL Z).length (Oz.gE Z) C D ((Oz.gN Z - 1 : Nat) : Int)) p 0) (fun p => Oz.rC Z (Ce.rt (Oz.gL Z).length (Oz.gE Z) C D ((Oz.gN Z - 1 : Nat) : Int)) p 1) = C (Oz.gN Z - 1) from s4)
  have E5 : Hid (qe = 0 → C (Oz.gN Z - 1) ≤ qv) := Lib.hid (fun h => by rw [← hqv.out]; exact (Oz.sol_least HZ.out HL.out (hqe.out.trans h)).2)
  have KS := Lib.hid (fun wx (h : ZIn wx Z Y) (u : Rd wx 2 A1 Z.nd c1 (iv (Oz.rC Z (Ce.rt (Oz.gL Z).length (Oz.gE Z) C D ((Oz.gN Z - 1 : Nat) : Int))))) => total_o Z Y A1 Z.nd c1 _ wx h u)
  rw [E3.out, E4.out] at KS
  clear s1 s2 s3 s4 hc R2 FR E3 E4
  generalize C (Oz.gN Z - 1) = cv at *
  obtain ⟨d0, d1, d2, d20, d21, d22, d23, d24, d25⟩ := PB.ow24
  go_wp2_with (with_reducible show wpList _ _ _ _ _ _; refine wpList_B _ rfl rfl rfl (by with_reducible assumption) ?_)
  refine (KT.out _ (H.keep hB) (U.keep hB)).mono ?_
  rintro e w4 ⟨rfl, hb⟩
  clear d0 d1 d2 d20 d21 d22 d23 d24 d25
  replace hB := bt hB hb
  replace PB := PB.keep hb
  replace R1 := R1.keep hb
  clear hb
  obtain ⟨d0, d1, d2, d20, d21, d22, d23, d24, d25⟩ := PB.ow24
  go_wp2_with (with_reducible show wpList _ _ _ _ _ _; refine wpList_B _ rfl rfl rfl (by with_reducible assumption) ?_)
  refine (KS.out _ (H.keep hB) R1).mono ?_
  rintro e w5 ⟨rfl, hb⟩
  clear d0 d1 d2 d20 d21 d22 d23 d24 d25
  replace hB := bt hB hb
  clear hb PB
  by_cases hq : qe = 0
  · have hq1 : (qe != 0) = false := by simpa using hq
    have hle := E5.out hq
    clear hq
    go_wp2_with fail
    go_returns
    first | exact ⟨rfl, hB⟩ | exact hB
  · have hq1 : (qe != 0) = true := by simpa using hq
    clear hq
    go_wp2_with fail
    go_returns
    first | exact ⟨rfl, hB⟩ | exact hB
set_option maxRecDepth 100000 in
set_option maxHeartbeats 4000000 in
theorem law_proves (Z : ZD) (Y : ZA) (w : World) (H : ZIn w Z Y) : Calls Try.prog 9 #[.agg #[.slice Y.ds Z.nd Y.dsc, .slice Y.lv Z.nl Y.lvc, .slice Y.sp Z.ns Y.spc, .slice Y.tl Z.nt Y.tlc, .slice Y.ms Z.nm Y.msc, .string Z.P.nm, .int .i64 Z.P.em, .int .i64 Z.P.fu, .slice Y.Q.al Z.P.na Y.Q.alc, .slice Y.Q.ma Z.P.nM Y.Q.mac, .slice Y.Q.tC Z.P.nC Y.Q.tCc, .slice Y.Q.tF Z.P.nF Y.Q.tFc, .slice Y.Q.tR Z.P.nR Y.Q.tRc, .slice Y.Q.dD Z.P.nD Y.Q.dDc, .slice Y.Q.dI Z.P.nI Y.Q.dIc, .slice Y.Q.dX Z.P.nX Y.Q.dXc, .slice Y.Q.dN Z.P.nN Y.Q.dNc, .int .i64 Z.P.rf, .int .i64 Z.P.xt, .int .i64 Z.P.ce, .int .i64 Z.ix, .int .i64 Z.cc, .int .i64 Z.fi, .int .i64 Z.la]] w fun e w' => e = .returned (.bool true) ∧ Below w.heap.size w w' := by
  go_enter Try.func9, Try.ntmps9
  try simp only [List.append_eq, List.cons_append, List.nil_append]
  have PB := Blk.new w 27 #[.slice Y.ds Z.nd Y.dsc, .slice Y.lv Z.nl Y.lvc, .slice Y.sp Z.ns Y.spc, .slice Y.tl Z.nt Y.tlc, .slice Y.ms Z.nm Y.msc, .string Z.P.nm, .int .i64 Z.P.em, .int .i64 Z.P.fu, .slice Y.Q.al Z.P.na Y.Q.alc, .slice Y.Q.ma Z.P.nM Y.Q.mac, .slice Y.Q.tC Z.P.nC Y.Q.tCc, .slice Y.Q.tF Z.P.nF Y.Q.tFc, .slice Y.Q.tR Z.P.nR Y.Q.tRc, .slice Y.Q.dD Z.P.nD Y.Q.dDc, .slice Y.Q.dI Z.P.nI Y.Q.dIc, .slice Y.Q.dX Z.P.nX Y.Q.dXc, .slice Y.Q.dN Z.P.nN Y.Q.dNc, .int .i64 Z.P.rf, .int .i64 Z.P.xt, .int .i64 Z.P.ce, .int .i64 Z.ix, .int .i64 Z.cc, .int .i64 Z.fi, .int .i64 Z.la]
  have hB := ba w (.cells #[.slice Y.ds Z.nd Y.dsc, .slice Y.lv Z.nl Y.lvc, .slice Y.sp Z.ns Y.spc, .slice Y.tl Z.nt Y.tlc, .slice Y.ms Z.nm Y.msc, .string Z.P.nm, .int .i64 Z.P.em, .int .i64 Z.P.fu, .slice Y.Q.al Z.P.na Y.Q.alc, .slice Y.Q.ma Z.P.nM Y.Q.mac, .slice Y.Q.tC Z.P.nC Y.Q.tCc, .slice Y.Q.tF Z.P.nF Y.Q.tFc, .slice Y.Q.tR Z.P.nR Y.Q.tRc, .slice Y.Q.dD Z.P.nD Y.Q.dDc, .slice Y.Q.dI Z.P.nI Y.Q.dIc, .slice Y.Q.dX Z.P.nX Y.Q.dXc, .slice Y.Q.dN Z.P.nN Y.Q.dNc, .int .i64 Z.P.rf, .int .i64 Z.P.xt, .int .i64 Z.P.ce, .int .i64 Z.ix, .int .i64 Z.cc, .int .i64 Z.fi, .int .i64 Z.la] 27)
  go_upto_region 1 with fail
  generalize World.alloc w _ = w1 at PB hB ⊢
  go_wp2_with fail
  refine (awake_c _).mono ?_
  rintro e w2 ⟨rfl, hb⟩
  replace hB := bt hB hb
  replace PB := PB.keep hb
  clear hb
  by_cases hz : Oz.zck Z = 0
  rotate_left
  · have hz1 : (Oz.zck Z != 0) = true := by simpa using hz
    have HZ := Lib.hid hz
    clear hz
    obtain ⟨d0, d1, d2, d20, d21, d22, d23, d24, d25⟩ := PB.ow24
    go_wp2_with (with_reducible show wpList _ _ _ _ _ _; refine wpList_B _ rfl rfl rfl (by with_reducible assumption) ?_)
    refine (solve_z Z Y _ (H.keep hB) HZ.out).mono ?_
    rintro e w3 ⟨rfl, hb⟩
    clear d0 d1 d2 d20 d21 d22 d23 d24 d25
    replace hB := bt hB hb
    replace PB := PB.keep hb
    clear hb
    obtain ⟨d0, d1, d2, d20, d21, d22, d23, d24, d25⟩ := PB.ow24
    go_wp2_with (with_reducible show wpList _ _ _ _ _ _; refine wpList_B _ rfl rfl rfl (by with_reducible assumption) ?_)
    refine (graph_no Z Y _ (H.keep hB) HZ.out).mono ?_
    rintro e w4 ⟨rfl, hb⟩
    clear d0 d1 d2 d20 d21 d22 d23 d24 d25
    replace hB := bal (bt hB hb) (.cells #[.int .i64 0, .slice none 0 0] 41)
    clear hb PB
    go_wp2_with fail
    go_returns
    first | exact ⟨rfl, hB⟩ | exact hB
  have HZ := Lib.hid hz
  have ng := Oz.gN_bd (Oz.zck_ok hz)
  clear hz
  obtain ⟨d0, d1, d2, d20, d21, d22, d23, d24, d25⟩ := PB.ow24
  go_wp2_with (with_reducible show wpList _ _ _ _ _ _; refine wpList_B _ rfl rfl rfl (by with_reducible assumption) ?_)
  refine (solve_o Z Y _ (H.keep hB) HZ.out).mono ?_
  rintro e w3 ⟨C, D, HL, hb, hcase⟩
  clear d0 d1 d2 d20 d21 d22 d23 d24 d25
  replace hB := bt hB hb
  replace PB := PB.keep hb
  clear hb
  rcases hcase with ⟨hc, rfl⟩ | ⟨hc, A1, c1, A2, c2, rfl, R1, R2, FR⟩
  · clear hc
    obtain ⟨d0, d1, d2, d20, d21, d22, d23, d24, d25⟩ := PB.ow24
    go_wp2_with (with_reducible show wpList _ _ _ _ _ _; refine wpList_B _ rfl rfl rfl (by with_reducible assumption) ?_)
    refine (graph_c Z Y _ (H.keep hB) HZ.out).mono ?_
    rintro e w4 ⟨A, c, rfl, T, hb⟩
    clear d0 d1 d2 d20 d21 d22 d23 d24 d25
    replace hB := bal (bt hB hb) (.cells #[.int .i64 (Oz.gN Z : Int), .slice A (Oz.gL Z).length c] 41)
    clear hb PB T
    go_wp2_with fail
    go_returns
    first | exact ⟨rfl, hB⟩ | exact hB
  obtain ⟨p1, p2, p3⟩ := Oz.sol_prove HZ.out HL.out hc
  have E1 := Lib.hid p1
  have E2 := Lib.hid p2
  clear p1 p2 p3 hc R1 FR
  obtain ⟨d0, d1, d2, d20, d21, d22, d23, d24, d25⟩ := PB.ow24
  go_wp2_with (with_reducible show wpList _ _ _ _ _ _; refine wpList_B _ rfl rfl rfl (by with_reducible assumption) ?_)
  refine (graph_c Z Y _ (H.keep hB) HZ.out).mono ?_
  rintro e w4 ⟨A, c, rfl, T, hb⟩
  clear d0 d1 d2 d20 d21 d22 d23 d24 d25
  replace hB := bal (bt hB hb) (.cells #[.int .i64 (Oz.gN Z : Int), .slice A (Oz.gL Z).length c] 41)
  have GB := Blk.new w4 41 #[.int .i64 (Oz.gN Z : Int), .slice A (Oz.gL Z).length c]
  replace R2 := (R2.keep hb).alloc (.cells #[.int .i64 (Oz.gN Z : Int), .slice A (Oz.gL Z).length c] 41)
  replace T := T.alloc (.cells #[.int .i64 (Oz.gN Z : Int), .slice A (Oz.gL Z).length c] 41)
  clear hb PB
  obtain ⟨c0, c1_, c2_, c3⟩ := GB.open2
  go_wp2_with fail
  refine (bound_c A (Oz.gN Z : Int) (Oz.gL Z).length c (Oz.gE Z) _ T (by omega) (by omega) 0 ((Oz.gN Z : Int) - 1) A2 (Oz.gN Z) c2 _ R2).mono ?_
  rintro e w5 ⟨rfl, hb⟩
  rw [E1.out, E2.out]
  clear c0 c1_ c2_ c3
  go_wp2_with fail
  go_returns
  first | exact ⟨rfl, bt hB hb⟩ | exact bt hB hb
set_option maxRecDepth 100000 in
set_option maxHeartbeats 4000000 in
theorem law_dearer (Z : ZD) (Y : ZA) (more : Int) (w : World) (H : ZIn w Z Y) (m1 : -9223372036854775808 ≤ more) (m2 : more ≤ 9223372036854775807) : Calls Try.prog 8 #[.agg #[.slice Y.ds Z.nd Y.dsc, .slice Y.lv Z.nl Y.lvc, .slice Y.sp Z.ns Y.spc, .slice Y.tl Z.nt Y.tlc, .slice Y.ms Z.nm Y.msc, .string Z.P.nm, .int .i64 Z.P.em, .int .i64 Z.P.fu, .slice Y.Q.al Z.P.na Y.Q.alc, .slice Y.Q.ma Z.P.nM Y.Q.mac, .slice Y.Q.tC Z.P.nC Y.Q.tCc, .slice Y.Q.tF Z.P.nF Y.Q.tFc, .slice Y.Q.tR Z.P.nR Y.Q.tRc, .slice Y.Q.dD Z.P.nD Y.Q.dDc, .slice Y.Q.dI Z.P.nI Y.Q.dIc, .slice Y.Q.dX Z.P.nX Y.Q.dXc, .slice Y.Q.dN Z.P.nN Y.Q.dNc, .int .i64 Z.P.rf, .int .i64 Z.P.xt, .int .i64 Z.P.ce, .int .i64 Z.ix, .int .i64 Z.cc, .int .i64 Z.fi, .int .i64 Z.la], .int .i64 more] w fun e w' => e = .returned (.bool true) ∧ Below w.heap.size w w' := by
  go_enter Try.func8, Try.ntmps8
  try simp only [List.append_eq, List.cons_append, List.nil_append]
  have PB := Blk.new w 27 #[.slice Y.ds Z.nd Y.dsc, .slice Y.lv Z.nl Y.lvc, .slice Y.sp Z.ns Y.spc, .slice Y.tl Z.nt Y.tlc, .slice Y.ms Z.nm Y.msc, .string Z.P.nm, .int .i64 Z.P.em, .int .i64 Z.P.fu, .slice Y.Q.al Z.P.na Y.Q.alc, .slice Y.Q.ma Z.P.nM Y.Q.mac, .slice Y.Q.tC Z.P.nC Y.Q.tCc, .slice Y.Q.tF Z.P.nF Y.Q.tFc, .slice Y.Q.tR Z.P.nR Y.Q.tRc, .slice Y.Q.dD Z.P.nD Y.Q.dDc, .slice Y.Q.dI Z.P.nI Y.Q.dIc, .slice Y.Q.dX Z.P.nX Y.Q.dXc, .slice Y.Q.dN Z.P.nN Y.Q.dNc, .int .i64 Z.P.rf, .int .i64 Z.P.xt, .int .i64 Z.P.ce, .int .i64 Z.ix, .int .i64 Z.cc, .int .i64 Z.fi, .int .i64 Z.la]
  have hB := ba w (.cells #[.slice Y.ds Z.nd Y.dsc, .slice Y.lv Z.nl Y.lvc, .slice Y.sp Z.ns Y.spc, .slice Y.tl Z.nt Y.tlc, .slice Y.ms Z.nm Y.msc, .string Z.P.nm, .int .i64 Z.P.em, .int .i64 Z.P.fu, .slice Y.Q.al Z.P.na Y.Q.alc, .slice Y.Q.ma Z.P.nM Y.Q.mac, .slice Y.Q.tC Z.P.nC Y.Q.tCc, .slice Y.Q.tF Z.P.nF Y.Q.tFc, .slice Y.Q.tR Z.P.nR Y.Q.tRc, .slice Y.Q.dD Z.P.nD Y.Q.dDc, .slice Y.Q.dI Z.P.nI Y.Q.dIc, .slice Y.Q.dX Z.P.nX Y.Q.dXc, .slice Y.Q.dN Z.P.nN Y.Q.dNc, .int .i64 Z.P.rf, .int .i64 Z.P.xt, .int .i64 Z.P.ce, .int .i64 Z.ix, .int .i64 Z.cc, .int .i64 Z.fi, .int .i64 Z.la] 27)
  go_upto_region 1 with fail
  generalize World.alloc w _ = w1 at PB hB ⊢
  go_wp2_with fail
  refine (awake_c _).mono ?_
  rintro e w2 ⟨rfl, hb⟩
  replace hB := bt hB hb
  replace PB := PB.keep hb
  clear hb
  by_cases hz : Oz.zck Z = 0
  rotate_left
  · have hz1 : (Oz.zck Z != 0) = true := by simpa using hz
    have HZ := Lib.hid hz
    clear hz
    obtain ⟨d0, d1, d2, d20, d21, d22, d23, d24, d25⟩ := PB.ow24
    go_wp2_with (with_reducible show wpList _ _ _ _ _ _; refine wpList_B _ rfl rfl rfl (by with_reducible assumption) ?_)
    refine (solve_z Z Y _ (H.keep hB) HZ.out).mono ?_
    rintro e w3 ⟨rfl, hb⟩
    clear d0 d1 d2 d20 d21 d22 d23 d24 d25
    replace hB := bt hB hb
    clear hb PB
    go_wp2_with fail
    go_returns
    first | exact ⟨rfl, hB⟩ | exact hB
  have HZ := Lib.hid hz
  have ZX := (Oz.zck_ok hz).ix
  have ZC := (Oz.zck_ok hz).cc
  clear hz
  obtain ⟨d0, d1, d2, d20, d21, d22, d23, d24, d25⟩ := PB.ow24
  go_wp2_with (with_reducible show wpList _ _ _ _ _ _; refine wpList_B _ rfl rfl rfl (by with_reducible assumption) ?_)
  refine (solve_o Z Y _ (H.keep hB) HZ.out).mono ?_
  rintro e w3 ⟨C, D, HL, hb, hcase⟩
  clear d0 d1 d2 d20 d21 d22 d23 d24 d25
  replace hB := bt hB hb
  replace PB := PB.keep hb
  clear hb
  rcases hcase with ⟨hc, rfl⟩ | ⟨hc, A1, c1, A2, c2, rfl, R1, R2, FR⟩
  · clear hc PB
    go_wp2_with fail
    go_returns
    first | exact ⟨rfl, hB⟩ | exact hB
  clear R1 R2 FR
  have HC := Lib.hid hc
  obtain ⟨x, hx⟩ : ∃ x, min (Z.ix + min (max more 0) 1000) 1000 = x := ⟨_, rfl⟩
  have b3 : Z.ix ≤ x ∧ x ≤ 1000 := by omega
  have HD := Lib.hid (Oz.zck_dz HZ.out b3.1 b3.2 (Int.le_refl Z.cc) ZC.2)
  have HX := Lib.hid b3.1
  have HY := Lib.hid (Int.le_refl Z.cc)
  obtain ⟨b30, b31⟩ := b3
  obtain ⟨x0, x1⟩ := ZX
  clear hc ZC
  obtain ⟨d0, d1, d2, d20, d21, d22, d23, d24, d25⟩ := PB.ow24
  have PB2 := PB.set_ 20 (.int .i64 x)
  simp only [List.setIfInBounds_toArray, List.set_cons_zero, List.set_cons_succ] at PB2
  have hB2 := bst hB (p := ⟨w.heap.size, 20, none⟩) (Nat.le_refl _) (.int .i64 x)
  go_upto_region 7 with fail
  clear d0 d1 d2 d20 d21 d22 d23 d24 d25
  clear PB hB hx
  generalize World.setCell w3 _ _ = w4 at PB2 hB2 ⊢
  obtain ⟨Z', hZ'⟩ : ∃ Z', Hid (Z' = Oz.dz Z x Z.cc) := ⟨_, Lib.hid rfl⟩
  have PB : Blk w4 w.heap.size 27 #[.slice Y.ds Z'.nd Y.dsc, .slice Y.lv Z'.nl Y.lvc, .slice Y.sp Z'.ns Y.spc, .slice Y.tl Z'.nt Y.tlc, .slice Y.ms Z'.nm Y.msc, .string Z'.P.nm, .int .i64 Z'.P.em, .int .i64 Z'.P.fu, .slice Y.Q.al Z'.P.na Y.Q.alc, .slice Y.Q.ma Z'.P.nM Y.Q.mac, .slice Y.Q.tC Z'.P.nC Y.Q.tCc, .slice Y.Q.tF Z'.P.nF Y.Q.tFc, .slice Y.Q.tR Z'.P.nR Y.Q.tRc, .slice Y.Q.dD Z'.P.nD Y.Q.dDc, .slice Y.Q.dI Z'.P.nI Y.Q.dIc, .slice Y.Q.dX Z'.P.nX Y.Q.dXc, .slice Y.Q.dN Z'.P.nN Y.Q.dNc, .int .i64 Z'.P.rf, .int .i64 Z'.P.xt, .int .i64 Z'.P.ce, .int .i64 Z'.ix, .int .i64 Z'.cc, .int .i64 Z'.fi, .int .i64 Z'.la] := by rw [hZ'.out]; exact PB2
  rw [← hZ'.out] at HD
  have H' : ZIn w Z' Y := by rw [hZ'.out]; exact H.dz x Z.cc
  clear PB2
  obtain ⟨d0, d1, d2, d20, d21, d22, d23, d24, d25⟩ := PB.ow24
  go_wp2_with (with_reducible show wpList _ _ _ _ _ _; refine wpList_B _ rfl rfl rfl (by with_reducible assumption) ?_)
  refine (solve_o Z' Y _ (H'.keep hB2) HD.out).mono ?_
  rintro e w5 ⟨C', D', HL', hb, hcase⟩
  clear d0 d1 d2 d20 d21 d22 d23 d24 d25
  have HE : Hid (0 ≤ C' (Oz.gN Z - 1) ∧ C (Oz.gN Z - 1) ≤ C' (Oz.gN Z - 1)) := Lib.hid (by
    have h1 := HL'.out
    have h2 := HD.out
    rw [hZ'.out] at h1 h2
    exact Oz.sol_dz HZ.out h2 HX.out HY.out HL.out HC.out h1)
  have hgn : Hid (Oz.gN Z' = Oz.gN Z) := Lib.hid (by rw [hZ'.out]; rfl)
  replace hB2 := bt hB2 hb
  clear hb PB
  rw [hgn.out] at hcase
  obtain ⟨he1, he2⟩ := HE.out
  rcases hcase with ⟨hc, rfl⟩ | ⟨hc, A1, c1, A2, c2, rfl, R1, R2, FR⟩
  · omega
  clear R1 R2 FR
  generalize C' (Oz.gN Z - 1) = cx at *
  generalize C (Oz.gN Z - 1) = cv at *
  have hge : cx ≥ cv := he2
  go_wp2_with fail
  go_returns
  first | exact ⟨rfl, hB2⟩ | exact hB2
end Go.Proofs.Ytoeklllahpegfaa
/-
  The walk of the law Routes.
-/
namespace Go.Proofs.Ytoeklllahpegfaa
set_option linter.unusedVariables false
set_option linter.unusedSimpArgs false
open Go.RowKit
attribute [local irreducible] World.setCell World.cell?

set_option maxRecDepth 100000 in
set_option maxHeartbeats 4000000 in
theorem law_routes (Z : ZD) (Y : ZA) (B : Option Addr) (lp d : Nat) (Pk : Nat → Int) (w : World) (H : ZIn w Z Y) (U : Rd w 1 B lp d (bv Pk)) (hp : ∀ i, i < lp → 0 ≤ Pk i ∧ Pk i ≤ 255) : Calls Try.prog 7 #[.agg #[.slice Y.ds Z.nd Y.dsc, .slice Y.lv Z.nl Y.lvc, .slice Y.sp Z.ns Y.spc, .slice Y.tl Z.nt Y.tlc, .slice Y.ms Z.nm Y.msc, .string Z.P.nm, .int .i64 Z.P.em, .int .i64 Z.P.fu, .slice Y.Q.al Z.P.na Y.Q.alc, .slice Y.Q.ma Z.P.nM Y.Q.mac, .slice Y.Q.tC Z.P.nC Y.Q.tCc, .slice Y.Q.tF Z.P.nF Y.Q.tFc, .slice Y.Q.tR Z.P.nR Y.Q.tRc, .slice Y.Q.dD Z.P.nD Y.Q.dDc, .slice Y.Q.dI Z.P.nI Y.Q.dIc, .slice Y.Q.dX Z.P.nX Y.Q.dXc, .slice Y.Q.dN Z.P.nN Y.Q.dNc, .int .i64 Z.P.rf, .int .i64 Z.P.xt, .int .i64 Z.P.ce, .int .i64 Z.ix, .int .i64 Z.cc, .int .i64 Z.fi, .int .i64 Z.la], .slice B lp d] w fun e w' => e = .returned (.bool true) ∧ Below w.heap.size w w' := by
  go_enter Try.func7, Try.ntmps7
  try simp only [List.append_eq, List.cons_append, List.nil_append]
  have PB := Blk.new w 27 #[.slice Y.ds Z.nd Y.dsc, .slice Y.lv Z.nl Y.lvc, .slice Y.sp Z.ns Y.spc, .slice Y.tl Z.nt Y.tlc, .slice Y.ms Z.nm Y.msc, .string Z.P.nm, .int .i64 Z.P.em, .int .i64 Z.P.fu, .slice Y.Q.al Z.P.na Y.Q.alc, .slice Y.Q.ma Z.P.nM Y.Q.mac, .slice Y.Q.tC Z.P.nC Y.Q.tCc, .slice Y.Q.tF Z.P.nF Y.Q.tFc, .slice Y.Q.tR Z.P.nR Y.Q.tRc, .slice Y.Q.dD Z.P.nD Y.Q.dDc, .slice Y.Q.dI Z.P.nI Y.Q.dIc, .slice Y.Q.dX Z.P.nX Y.Q.dXc, .slice Y.Q.dN Z.P.nN Y.Q.dNc, .int .i64 Z.P.rf, .int .i64 Z.P.xt, .int .i64 Z.P.ce, .int .i64 Z.ix, .int .i64 Z.cc, .int .i64 Z.fi, .int .i64 Z.la]
  have hB := ba w (.cells #[.slice Y.ds Z.nd Y.dsc, .slice Y.lv Z.nl Y.lvc, .slice Y.sp Z.ns Y.spc, .slice Y.tl Z.nt Y.tlc, .slice Y.ms Z.nm Y.msc, .string Z.P.nm, .int .i64 Z.P.em, .int .i64 Z.P.fu, .slice Y.Q.al Z.P.na Y.Q.alc, .slice Y.Q.ma Z.P.nM Y.Q.mac, .slice Y.Q.tC Z.P.nC Y.Q.tCc, .slice Y.Q.tF Z.P.nF Y.Q.tFc, .slice Y.Q.tR Z.P.nR Y.Q.tRc, .slice Y.Q.dD Z.P.nD Y.Q.dDc, .slice Y.Q.dI Z.P.nI Y.Q.dIc, .slice Y.Q.dX Z.P.nX Y.Q.dXc, .slice Y.Q.dN Z.P.nN Y.Q.dNc, .int .i64 Z.P.rf, .int .i64 Z.P.xt, .int .i64 Z.P.ce, .int .i64 Z.ix, .int .i64 Z.cc, .int .i64 Z.fi, .int .i64 Z.la] 27)
  go_upto_region 1 with fail
  generalize World.alloc w _ = w1 at PB hB ⊢
  go_wp2_with fail
  refine (awake_c _).mono ?_
  rintro e w2 ⟨rfl, hb⟩
  replace hB := bt hB hb
  replace PB := PB.keep hb
  clear hb
  by_cases hz : Oz.zck Z = 0
  rotate_left
  · have hz1 : (Oz.zck Z != 0) = true := by simpa using hz
    have HZ := Lib.hid hz
    clear hz
    obtain ⟨d0, d1, d2, d20, d21, d22, d23, d24, d25⟩ := PB.ow24
    go_wp2_with (with_reducible show wpList _ _ _ _ _ _; refine wpList_B _ rfl rfl rfl (by with_reducible assumption) ?_)
    refine (graph_no Z Y _ (H.keep hB) HZ.out).mono ?_
    rintro e w4 ⟨rfl, hb⟩
    clear d0 d1 d2 d20 d21 d22 d23 d24 d25
    replace hB := bal (bt hB hb) (.cells #[.int .i64 0, .slice none 0 0] 41)
    have GB := Blk.new w4 41 #[.int .i64 0, .slice none 0 0]
    obtain ⟨c0, c1, c2, c3⟩ := GB.open2
    clear hb PB
    go_wp2_with fail
    go_returns
    first | exact ⟨rfl, hB⟩ | exact hB
  have HZ := Lib.hid hz
  have O := Oz.zck_ok hz
  have ng := Oz.gN_bd O
  have hm := Oz.len_gL O
  have hnd := O.nd2
  clear hz
  obtain ⟨d0, d1, d2, d20, d21, d22, d23, d24, d25⟩ := PB.ow24
  go_wp2_with (with_reducible show wpList _ _ _ _ _ _; refine wpList_B _ rfl rfl rfl (by with_reducible assumption) ?_)
  refine (graph_c Z Y _ (H.keep hB) HZ.out).mono ?_
  rintro e w4 ⟨A, c, rfl, T, hb⟩
  clear d0 d1 d2 d20 d21 d22 d23 d24 d25
  replace hB := bal (bt hB hb) (.cells #[.int .i64 (Oz.gN Z : Int), .slice A (Oz.gL Z).length c] 41)
  have GB := Blk.new w4 41 #[.int .i64 (Oz.gN Z : Int), .slice A (Oz.gL Z).length c]
  replace PB := (PB.keep hb).alloc (.cells #[.int .i64 (Oz.gN Z : Int), .slice A (Oz.gL Z).length c] 41)
  replace T := T.alloc (.cells #[.int .i64 (Oz.gN Z : Int), .slice A (Oz.gL Z).length c] 41)
  clear hb
  obtain ⟨c0, c1, c2, c3⟩ := GB.open2
  go_wp2_with fail
  refine (owalk_c A (Oz.gN Z : Int) (Oz.gL Z).length c (Oz.gE Z) _ T 0 ((Oz.gN Z : Int) - 1) B lp d Pk (U.keep hB) hp (by omega)).mono ?_
  rintro e w5 ⟨A2, lr, dr, R, rfl, V, hb⟩
  clear c0 c1 c2 c3
  replace hB := bt hB hb
  replace GB := GB.keep hb
  replace PB := PB.keep hb
  replace T := T.keep hb
  clear hb
  obtain ⟨c0, c1, c2, c3⟩ := GB.open2
  go_wp2_with fail
  refine (cost_c A (Oz.gN Z : Int) (Oz.gL Z).length c (Oz.gE Z) _ T (by omega) (by omega) 0 ((Oz.gN Z : Int) - 1) A2 lr dr R V).mono ?_
  rintro e w6 ⟨rfl, hb⟩
  clear c0 c1 c2 c3 GB T
  replace hB := bt hB hb
  replace PB := PB.keep hb
  replace V := V.keep hb
  clear hb
  obtain ⟨er, her⟩ : ∃ er, Hid (Ce.cer (Oz.gN Z : Int) (Oz.gL Z).length (Oz.gE Z) 0 ((Oz.gN Z : Int) - 1) lr R = er) := ⟨_, Lib.hid rfl⟩
  obtain ⟨cv, hcv⟩ : ∃ cv, Hid (Ce.cst (Oz.gN Z : Int) (Oz.gL Z).length (Oz.gE Z) 0 ((Oz.gN Z : Int) - 1) lr R = cv) := ⟨_, Lib.hid rfl⟩
  rw [her.out, hcv.out]
  by_cases h : er = 0
  rotate_left
  · have h1 : (er != 0) = true := by simpa using h
    have KR := Lib.hid (fun wx (h2 : ZIn wx Z Y) (u : Rd wx 1 A2 lr dr (nv R)) => route_no Z Y A2 lr dr R wx h2 u HZ.out (by rw [her.out]; exact h))
    rw [her.out] at KR
    clear h
    obtain ⟨d0, d1, d2, d20, d21, d22, d23, d24, d25⟩ := PB.ow24
    go_wp2_with (with_reducible show wpList _ _ _ _ _ _; refine wpList_B _ rfl rfl rfl (by with_reducible assumption) ?_)
    refine (KR.out _ (H.keep hB) V).mono ?_
    rintro e w7 ⟨rfl, hb⟩
    clear d0 d1 d2 d20 d21 d22 d23 d24 d25
    replace hB := bt hB hb
    clear hb PB
    go_wp2_with fail
    go_returns
    first | exact ⟨rfl, hB⟩ | exact hB
  subst h
  have hen := Ce.cer_ok.1 her.out
  obtain ⟨s3, s4⟩ := Oz.route_ok HZ.out hen.2
  have E3 := Lib.hid (show Oz.qE Z Z.nd (fun p => Oz.rC Z R p 0) (fun p => Oz.rC Z R p 1) = 0 from Oz.qE_ok.2 s3)
  have E4 := Lib.hid (show Oz.qV Z Z.nd (fun p => Oz.rC Z R p 0) (fun p => Oz.rC Z R p 1) = cv from s4.symm.trans ((Ce.cst_yes her.out).symm.trans hcv.out))
  have HR := Lib.hid hen.2
  clear s3 s4 hen
  obtain ⟨d0, d1, d2, d20, d21, d22, d23, d24, d25⟩ := PB.ow24
  go_wp2_with (with_reducible show wpList _ _ _ _ _ _; refine wpList_B _ rfl rfl rfl (by with_reducible assumption) ?_)
  refine (route_c Z Y A2 lr dr R _ (H.keep hB) V HZ.out HR.out).mono ?_
  rintro e w7 ⟨A3, d3_, rfl, R3, hb⟩
  clear d0 d1 d2 d20 d21 d22 d23 d24 d25
  replace hB := bt hB hb
  replace PB := PB.keep hb
  clear hb V
  have KS := total_o Z Y A3 Z.nd d3_ _ _ (H.keep hB) R3
  rw [E3.out, E4.out] at KS
  obtain ⟨d0, d1, d2, d20, d21, d22, d23, d24, d25⟩ := PB.ow24
  go_wp2_with (with_reducible show wpList _ _ _ _ _ _; refine wpList_B _ rfl rfl rfl (by with_reducible assumption) ?_)
  refine KS.mono ?_
  rintro e w8 ⟨rfl, hb⟩
  clear d0 d1 d2 d20 d21 d22 d23 d24 d25
  replace hB := bt hB hb
  replace PB := PB.keep hb
  clear hb KS R3
  obtain ⟨d0, d1, d2, d20, d21, d22, d23, d24, d25⟩ := PB.ow24
  have d00 := PB.cell 0
  go_wp2_with fail
  go_returns
  first | exact ⟨rfl, hB⟩ | exact hB
end Go.Proofs.Ytoeklllahpegfaa
/-
  Contract: the example graph of the fifth statement over all layers.
-/
namespace Go.Proofs.Ytoeklllahpegfaa
set_option linter.unusedVariables false
set_option linter.unusedSimpArgs false
open Go.RowKit
attribute [local irreducible] World.setCell World.cell?

theorem bOk : Ce.Ok ((3 : Nat) : Int) 3 exE := Ce.ck_ok.1 (by decide)
theorem bLab : Ce.Lab 3 3 exE 0 exC exD where
  c0 := rfl
  d0 := rfl
  rng v hv := by
    match v, hv with
    | 0, _ => right; decide
    | 1, _ => right; decide
    | 2, _ => right; decide
  tri i hi hc := by
    unfold Ce.le2
    match i, hi with
    | 0, _ => decide
    | 1, _ => decide
    | 2, _ => decide
  pre v hv hc hne := by
    match v, hv with
    | 0, _ => exact absurd rfl hne
    | 1, _ => exact ⟨2, by decide⟩
    | 2, _ => exact ⟨1, by decide⟩
theorem solve_b (A : Option Addr) (W : World) (T : Rd W 3 A 3 3 (iv exE)) : Calls Try.prog 30 #[.agg #[.int .i64 3, .slice A 3 3], .int .i64 0, .int .i64 1] W fun e w' => ∃ (A1 : Option Addr) (c1 : Nat) (A2 : Option Addr) (c2 : Nat), e = .returned (.tuple #[.slice A1 2 c1, .slice A2 3 c2, .int .i64 0]) ∧ Rd w' 1 A1 2 c1 (nv (f4 1 2 0 0)) ∧ Rd w' 1 A2 3 c2 (nv (f4 0 4 2 0)) ∧ Below W.heap.size W w' := by
  refine Calls.mono (solve_c A 3 3 3 exE 0 W T bOk (by omega) 1 (by omega)) ?_
  rintro e w' ⟨C, D, HL, h1, ⟨h2, _⟩ | ⟨h2, A1, c1, A2, c2, h3, h4, h5⟩⟩
  · have := (HL.out.uniq bOk bLab (show 1 < 3 by omega)).1
    rw [this] at h2
    exact absurd h2 (by decide)
  · have hd := (HL.out.uniq bOk bLab (show 1 < 3 by omega)).2 h2
    have e2 : (D 1).toNat = 2 := by rw [hd]; rfl
    rw [e2] at h3 h4
    refine ⟨A1, c1, A2, c2, h3, h4.congr fun i j hi _ => ?_, h5.congr fun i j hi _ => ?_, h1⟩
    · unfold nv
      rw [Ce.rt_congr bOk HL.out bLab (b := ((1 : Nat) : Int)) (by omega) (by omega) (by simpa using h2) (by simpa [e2] using hi)]
      match i, hi with
      | 0, _ => rfl
      | 1, _ => rfl
    · unfold nv
      rw [Ce.pot_congr bOk HL.out bLab hi]
      match i, hi with
      | 0, _ => rfl
      | 1, _ => rfl
      | 2, _ => rfl
set_option maxRecDepth 100000 in
set_option maxHeartbeats 4000000 in
theorem bgraph_c (w : World) : Calls Try.prog 29 #[] w fun e w' => e = .returned (.bool true) ∧ Below w.heap.size w w' := by
  have ha := Lib.hid (show Ce.acc 3 3 exE 0 1 3 (f4 0 4 2 0) 2 (f4 1 2 0 0) = 0 by decide)
  go_enter Try.func29, Try.ntmps29
  try simp only [List.append_eq, List.cons_append, List.nil_append]
  have R := Rd.of_blk (Blk.new w 75 #[.int .i64 0, .int .i64 1, .int .i64 5, .int .i64 0, .int .i64 2, .int .i64 2, .int .i64 2, .int .i64 1, .int .i64 2]) (q := 3) (n := 3) (c := 3) (V := iv exE) (Nat.le_refl _) (by omega) fun i j hi hj => by
    match i, j, hi, hj with
    | 0, 0, _, _ => rfl
    | 0, 1, _, _ => rfl
    | 0, 2, _, _ => rfl
    | 1, 0, _, _ => rfl
    | 1, 1, _, _ => rfl
    | 1, 2, _, _ => rfl
    | 2, 0, _, _ => rfl
    | 2, 1, _, _ => rfl
    | 2, 2, _, _ => rfl
  replace R := R.alloc (.cells #[.int .i64 3, .slice (some ⟨w.heap.size, 0, none⟩) 3 3] 41)
  have hB := bal (ba w (.cells #[.int .i64 0, .int .i64 1, .int .i64 5, .int .i64 0, .int .i64 2, .int .i64 2, .int .i64 2, .int .i64 1, .int .i64 2] 75)) (.cells #[.int .i64 3, .slice (some ⟨w.heap.size, 0, none⟩) 3 3] 41)
  have G := Blk.new1 w (.cells #[.int .i64 0, .int .i64 1, .int .i64 5, .int .i64 0, .int .i64 2, .int .i64 2, .int .i64 2, .int .i64 1, .int .i64 2] 75) 41 #[.int .i64 3, .slice (some ⟨w.heap.size, 0, none⟩) 3 3]
  go_upto_region 2 with fail
  generalize World.alloc (World.alloc w _) _ = w1 at G R hB ⊢
  obtain ⟨c0, c1, c2, c3⟩ := G.open2
  go_wp2_with fail
  refine (solve_b _ _ R).mono ?_
  rintro e w2 ⟨A1, k1, A2, k2, rfl, U, V, hb⟩
  clear c0 c1 c2 c3
  replace hB := bt hB hb
  replace G := G.keep hb
  replace R := R.keep hb
  clear hb
  obtain ⟨b, off, eA, hbl, x0⟩ := U.at1 (k := 0) (by omega)
  obtain ⟨b', off', eA', hbl', x1⟩ := U.at1 (k := 1) (by omega)
  rw [eA] at eA'
  injection eA' with eA'
  injection eA' with e1 e2
  subst e1 e2
  have y0 : f4 1 2 0 0 0 = 1 := rfl
  have y1 : f4 1 2 0 0 1 = 2 := rfl
  rw [y0, Nat.add_zero] at x0
  rw [y1] at x1
  have ul := U.le
  have HA := Lib.hid eA
  rw [HA.out]
  clear eA
  obtain ⟨c0, c1, c2, c3⟩ := G.open2
  go_wp2_with fail
  rw [← HA.out]
  refine (accept_c _ _ _ _ _ _ R (by omega) (by omega) _ _ _ _ _ _ V _ _ _ _ U).mono ?_
  rw [ha.out]
  rintro e w3 ⟨rfl, hb⟩
  go_wp2_with fail
  go_returns
  exact ⟨rfl, bt hB hb⟩
end Go.Proofs.Ytoeklllahpegfaa
/-
  The walk of TopOptimal.
-/
namespace Go.Proofs.Ytoeklllahpegfaa
set_option linter.unusedVariables false
set_option linter.unusedSimpArgs false
open Go.RowKit
attribute [local irreducible] World.setCell World.cell?

/-- The route and the potentials that a second search finds are the first ones. -/
theorem solve_same (Z : ZD) (A : Option Addr) (c : Nat) (W : World) (T : Rd W 3 A (Oz.gL Z).length c (iv (Oz.gE Z))) (hz : Oz.zck Z = 0) {C D : Nat → Int} (HL : Ce.Lab (Oz.gN Z) (Oz.gL Z).length (Oz.gE Z) 0 C D) (hc : 0 ≤ C (Oz.gN Z - 1)) : Calls Try.prog 30 #[.agg #[.int .i64 (Oz.gN Z : Int), .slice A (Oz.gL Z).length c], .int .i64 0, .int .i64 ((Oz.gN Z : Int) - 1)] W fun e w' => ∃ (A1 : Option Addr) (c1 : Nat) (A2 : Option Addr) (c2 : Nat), e = .returned (.tuple #[.slice A1 (D (Oz.gN Z - 1)).toNat c1, .slice A2 (Oz.gN Z) c2, .int .i64 0]) ∧ Rd w' 1 A1 (D (Oz.gN Z - 1)).toNat c1 (nv (Ce.rt (Oz.gL Z).length (Oz.gE Z) C D ((Oz.gN Z - 1 : Nat) : Int))) ∧ Below W.heap.size W w' := by
  have O := Oz.g_ok (Oz.zck_ok hz)
  have ng := Oz.gN_2 Z
  have KS := solve_c A (Oz.gN Z) (Oz.gL Z).length c (Oz.gE Z) 0 W T O (by omega) (Oz.gN Z - 1) (by omega)
  rw [Oz.gN_1] at KS
  refine KS.mono ?_
  rintro e w' ⟨C', D', HL', h1, ⟨h2, _⟩ | ⟨h2, A1, c1, A2, c2, h3, h4, h5⟩⟩
  · have := (HL'.out.uniq O HL (show Oz.gN Z - 1 < Oz.gN Z by omega)).1
    omega
  · have hd := (HL'.out.uniq O HL (show Oz.gN Z - 1 < Oz.gN Z by omega)).2 h2
    rw [hd] at h3 h4
    rw [← Oz.gN_1] at h4
    refine ⟨A1, c1, A2, c2, h3, h4.congr fun i j hi _ => ?_, h1⟩
    unfold nv
    rw [Ce.rt_congr O HL'.out HL (b := ((Oz.gN Z - 1 : Nat) : Int)) (by omega) (by omega) (by simpa using h2) (by simpa [hd] using hi)]
set_option maxRecDepth 100000 in
set_option maxHeartbeats 8000000 in
theorem law_optimal (Z : ZD) (Y : ZA) (B : Option Addr) (l d : Nat) (N : Nat → Nat → Int) (m0 m1 : Int) (w : World) (H : ZIn w Z Y) (U : Rd w 2 B l d (iv N)) (a0 : -9223372036854775808 ≤ m0 ∧ m0 ≤ 9223372036854775807) (a1 : -9223372036854775808 ≤ m1 ∧ m1 ≤ 9223372036854775807) : Calls Try.prog 10 #[.agg #[.slice Y.ds Z.nd Y.dsc, .slice Y.lv Z.nl Y.lvc, .slice Y.sp Z.ns Y.spc, .slice Y.tl Z.nt Y.tlc, .slice Y.ms Z.nm Y.msc, .string Z.P.nm, .int .i64 Z.P.em, .int .i64 Z.P.fu, .slice Y.Q.al Z.P.na Y.Q.alc, .slice Y.Q.ma Z.P.nM Y.Q.mac, .slice Y.Q.tC Z.P.nC Y.Q.tCc, .slice Y.Q.tF Z.P.nF Y.Q.tFc, .slice Y.Q.tR Z.P.nR Y.Q.tRc, .slice Y.Q.dD Z.P.nD Y.Q.dDc, .slice Y.Q.dI Z.P.nI Y.Q.dIc, .slice Y.Q.dX Z.P.nX Y.Q.dXc, .slice Y.Q.dN Z.P.nN Y.Q.dNc, .int .i64 Z.P.rf, .int .i64 Z.P.xt, .int .i64 Z.P.ce, .int .i64 Z.ix, .int .i64 Z.cc, .int .i64 Z.fi, .int .i64 Z.la], .slice B l d, .agg #[.int .i64 m0, .int .i64 m1]] w fun e w' => e = .returned (.bool true) ∧ Below w.heap.size w w' := by
  go_enter Try.func10, Try.ntmps10
  try simp only [List.append_eq, List.cons_append, List.nil_append]
  have PB := (Blk.new w 27 #[.slice Y.ds Z.nd Y.dsc, .slice Y.lv Z.nl Y.lvc, .slice Y.sp Z.ns Y.spc, .slice Y.tl Z.nt Y.tlc, .slice Y.ms Z.nm Y.msc, .string Z.P.nm, .int .i64 Z.P.em, .int .i64 Z.P.fu, .slice Y.Q.al Z.P.na Y.Q.alc, .slice Y.Q.ma Z.P.nM Y.Q.mac, .slice Y.Q.tC Z.P.nC Y.Q.tCc, .slice Y.Q.tF Z.P.nF Y.Q.tFc, .slice Y.Q.tR Z.P.nR Y.Q.tRc, .slice Y.Q.dD Z.P.nD Y.Q.dDc, .slice Y.Q.dI Z.P.nI Y.Q.dIc, .slice Y.Q.dX Z.P.nX Y.Q.dXc, .slice Y.Q.dN Z.P.nN Y.Q.dNc, .int .i64 Z.P.rf, .int .i64 Z.P.xt, .int .i64 Z.P.ce, .int .i64 Z.ix, .int .i64 Z.cc, .int .i64 Z.fi, .int .i64 Z.la]).alloc (.cells #[.int .i64 m0, .int .i64 m1] 59)
  have DB := Blk.new1 w (.cells #[.slice Y.ds Z.nd Y.dsc, .slice Y.lv Z.nl Y.lvc, .slice Y.sp Z.ns Y.spc, .slice Y.tl Z.nt Y.tlc, .slice Y.ms Z.nm Y.msc, .string Z.P.nm, .int .i64 Z.P.em, .int .i64 Z.P.fu, .slice Y.Q.al Z.P.na Y.Q.alc, .slice Y.Q.ma Z.P.nM Y.Q.mac, .slice Y.Q.tC Z.P.nC Y.Q.tCc, .slice Y.Q.tF Z.P.nF Y.Q.tFc, .slice Y.Q.tR Z.P.nR Y.Q.tRc, .slice Y.Q.dD Z.P.nD Y.Q.dDc, .slice Y.Q.dI Z.P.nI Y.Q.dIc, .slice Y.Q.dX Z.P.nX Y.Q.dXc, .slice Y.Q.dN Z.P.nN Y.Q.dNc, .int .i64 Z.P.rf, .int .i64 Z.P.xt, .int .i64 Z.P.ce, .int .i64 Z.ix, .int .i64 Z.cc, .int .i64 Z.fi, .int .i64 Z.la] 27) 59 #[.int .i64 m0, .int .i64 m1]
  have hB := bal (ba w (.cells #[.slice Y.ds Z.nd Y.dsc, .slice Y.lv Z.nl Y.lvc, .slice Y.sp Z.ns Y.spc, .slice Y.tl Z.nt Y.tlc, .slice Y.ms Z.nm Y.msc, .string Z.P.nm, .int .i64 Z.P.em, .int .i64 Z.P.fu, .slice Y.Q.al Z.P.na Y.Q.alc, .slice Y.Q.ma Z.P.nM Y.Q.mac, .slice Y.Q.tC Z.P.nC Y.Q.tCc, .slice Y.Q.tF Z.P.nF Y.Q.tFc, .slice Y.Q.tR Z.P.nR Y.Q.tRc, .slice Y.Q.dD Z.P.nD Y.Q.dDc, .slice Y.Q.dI Z.P.nI Y.Q.dIc, .slice Y.Q.dX Z.P.nX Y.Q.dXc, .slice Y.Q.dN Z.P.nN Y.Q.dNc, .int .i64 Z.P.rf, .int .i64 Z.P.xt, .int .i64 Z.P.ce, .int .i64 Z.ix, .int .i64 Z.cc, .int .i64 Z.fi, .int .i64 Z.la] 27)) (.cells #[.int .i64 m0, .int .i64 m1] 59)
  go_upto_region 1 with fail
  generalize World.alloc (World.alloc w _) _ = w1 at PB DB hB ⊢
  go_wp2_with fail
  refine (bgraph_c _).mono ?_
  rintro e w2 ⟨rfl, hb⟩
  replace hB := bt hB hb
  replace PB := PB.keep hb
  replace DB := DB.keep hb
  clear hb
  by_cases hz : Oz.zck Z = 0
  rotate_left
  · have hz1 : (Oz.zck Z != 0) = true := by simpa using hz
    have HZ := Lib.hid hz
    clear hz
    obtain ⟨d0, d1, d2, d20, d21, d22, d23, d24, d25⟩ := PB.ow24
    go_wp2_with (with_reducible show wpList _ _ _ _ _ _; refine wpList_B _ rfl rfl rfl (by with_reducible assumption) ?_)
    refine (solve_z Z Y _ (H.keep hB) HZ.out).mono ?_
    rintro e w3 ⟨rfl, hb⟩
    clear d0 d1 d2 d20 d21 d22 d23 d24 d25
    replace hB := bt hB hb
    clear hb PB DB
    go_wp2_with fail
    go_returns
    first | exact ⟨rfl, hB⟩ | exact hB
  have HZ := Lib.hid hz
  have ng := Oz.gN_bd (Oz.zck_ok hz)
  have hnd := (Oz.zck_ok hz).nd2
  have ZX := (Oz.zck_ok hz).ix
  have ZC := (Oz.zck_ok hz).cc
  have hB0 := Lib.hid hB.size
  clear hz
  obtain ⟨d0, d1, d2, d20, d21, d22, d23, d24, d25⟩ := PB.ow24
  go_wp2_with (with_reducible show wpList _ _ _ _ _ _; refine wpList_B _ rfl rfl rfl (by with_reducible assumption) ?_)
  refine (solve_o Z Y _ (H.keep hB) HZ.out).mono ?_
  rintro e w3 ⟨C, D, HL, hb, hcase⟩
  clear d0 d1 d2 d20 d21 d22 d23 d24 d25
  replace hB := bt hB hb
  replace PB := PB.keep hb
  replace DB := DB.keep hb
  clear hb
  rcases hcase with ⟨hc, rfl⟩ | ⟨hc, A1, c1, A2, c2, rfl, R1, R2, FR⟩
  · clear hc PB DB
    go_wp2_with fail
    go_returns
    first | exact ⟨rfl, hB⟩ | exact hB
  obtain ⟨s1, s2, s3, s4⟩ := Oz.sol_ok HZ.out HL.out hc
  obtain ⟨p1, p2, p3⟩ := Oz.sol_prove HZ.out HL.out hc
  have HC := Lib.hid hc
  have FR0 := Lib.hid (fun (g : Nat) (q : ob A2 = some g) => Nat.lt_of_le_of_lt hB0.out (FR g q))
  have HRT := Lib.hid s1
  have E3 := Lib.hid (show Oz.qE Z Z.nd (fun p => Oz.rC Z (Ce.rt (Oz.gL Z).length (Oz.gE Z) C D ((Oz.gN Z - 1 : Nat) : Int)) p 0) (fun p => Oz.rC Z (Ce.rt (Oz.gL Z).length (Oz.gE Z) C D ((Oz.gN Z - 1 : Nat) : Int)) p 1) = 0 from s3)
  have E4 := Lib.hid (show Oz.qV Z Z.nd (fun p => Oz.rC Z (Ce.rt (Oz.gL Z).length (Oz.gE Z) C D ((Oz.gN Z - 1 : Nat) : Int)) p 0) (fun p => Oz.rC Z (Ce.rt (Oz.gL Z).length (Oz.gE Z) C D ((Oz.gN Z - 1 : Nat) : Int)) p 1) = C (Oz.gN Z - 1) from s4)
  have E5 := Lib.hid p3
  clear s1 s2 s3 s4 p1 p2 p3 hc FR
  obtain ⟨d0, d1, d2, d20, d21, d22, d23, d24, d25⟩ := PB.ow24
  go_wp2_with (with_reducible show wpList _ _ _ _ _ _; refine wpList_B _ rfl rfl rfl (by with_reducible assumption) ?_)
  refine (graph_c Z Y _ (H.keep hB) HZ.out).mono ?_
  rintro e w4 ⟨A, c, rfl, T, hb⟩
  clear d0 d1 d2 d20 d21 d22 d23 d24 d25
  have GB := Blk.new w4 41 #[.int .i64 (Oz.gN Z : Int), .slice A (Oz.gL Z).length c]
  replace PB := (PB.keep hb).alloc (.cells #[.int .i64 (Oz.gN Z : Int), .slice A (Oz.gL Z).length c] 41)
  replace DB := (DB.keep hb).alloc (.cells #[.int .i64 (Oz.gN Z : Int), .slice A (Oz.gL Z).length c] 41)
  replace R1 := (R1.keep hb).alloc (.cells #[.int .i64 (Oz.gN Z : Int), .slice A (Oz.gL Z).length c] 41)
  replace R2 := (R2.keep hb).alloc (.cells #[.int .i64 (Oz.gN Z : Int), .slice A (Oz.gL Z).length c] 41)
  replace T := T.alloc (.cells #[.int .i64 (Oz.gN Z : Int), .slice A (Oz.gL Z).length c] 41)
  replace hB := bal (bt hB hb) (.cells #[.int .i64 (Oz.gN Z : Int), .slice A (Oz.gL Z).length c] 41)
  clear hb
  obtain ⟨c0, c1_, c2_, c3⟩ := GB.open2
  go_wp2_with fail
  refine (solve_same Z A c _ T HZ.out HL.out HC.out).mono ?_
  rintro e w5 ⟨A3, c3_, A4, c4, rfl, V, hb⟩
  clear c0 c1_ c2_ c3
  replace GB := GB.keep hb
  replace PB := PB.keep hb
  replace DB := DB.keep hb
  replace R1 := R1.keep hb
  replace R2 := R2.keep hb
  replace T := T.keep hb
  replace hB := bt hB hb
  clear hb
  obtain ⟨d0, d1, d2, d20, d21, d22, d23, d24, d25⟩ := PB.ow24
  go_wp2_with (with_reducible show wpList _ _ _ _ _ _; refine wpList_B _ rfl rfl rfl (by with_reducible assumption) ?_)
  refine (route_c Z Y A3 _ c3_ _ _ (H.keep hB) V HZ.out HRT.out).mono ?_
  rintro e w6 ⟨A5, c5, rfl, R5, hb⟩
  clear d0 d1 d2 d20 d21 d22 d23 d24 d25
  replace GB := GB.keep hb
  replace PB := PB.keep hb
  replace DB := DB.keep hb
  replace R1 := R1.keep hb
  replace R2 := R2.keep hb
  replace T := T.keep hb
  replace V := V.keep hb
  replace hB := bt hB hb
  clear hb
  obtain ⟨c0, c1_, c2_, c3⟩ := GB.open2
  go_wp2_with fail
  refine (accept_c A (Oz.gN Z : Int) (Oz.gL Z).length c (Oz.gE Z) _ T (by omega) (by omega) 0 ((Oz.gN Z : Int) - 1) A2 (Oz.gN Z) c2 _ R2 A3 _ c3_ _ V).mono ?_
  rw [E5.out]
  rintro e w7 ⟨rfl, hb⟩
  clear c0 c1_ c2_ c3 T GB V
  replace PB := PB.keep hb
  replace DB := DB.keep hb
  replace R1 := R1.keep hb
  replace R2 := R2.keep hb
  replace R5 := R5.keep hb
  replace hB := bt hB hb
  clear hb
  have ra := R1.le
  have rb := R1.mx
  have rc := R5.le
  have rd := R5.mx
  go_wp2_with fail
  generalize hRC : Oz.rC Z (Ce.rt (Oz.gL Z).length (Oz.gE Z) C D ((Oz.gN Z - 1 : Nat) : Int)) = K at *
  have HRC := Lib.hid hRC
  clear hRC
  go_loopw [20, 95] (fun s_ i_ wr => ∃ k : Nat, k ≤ Z.nd ∧ i_ = .int .i64 (k : Int) ∧ Below w7.heap.size w7 wr) (fun _ i_ _ => Z.nd - (intOf i_).toNat)
  case atStart => exact ⟨0, Nat.zero_le _, rfl, Below.refl _ _⟩
  case round =>
    obtain ⟨k, hk, rfl, hW⟩ := hrel
    by_cases hlt : k < Z.nd
    · obtain ⟨b1, o1, eA, hbl1, x0, x1⟩ := (R1.keep hW).at2 hlt
      obtain ⟨b2, o2, eB, hbl2, y0, y1⟩ := (R5.keep hW).at2 hlt
      have HA := Lib.hid eA
      have HB := Lib.hid eB
      rw [HA.out, HB.out]
      clear eA eB
      go_wp2_with fail
      go_quiet (fail)
      go_wp2_with fail
      exact ⟨⟨k + 1, by omega, by go_num, bdnl hW _⟩, by simp [intOf]; omega⟩
    · obtain rfl : k = Z.nd := by omega
      replace hB := bt hB hW
      replace PB := PB.keep hW
      replace DB := DB.keep hW
      replace R1 := R1.keep hW
      replace R2 := R2.keep hW
      clear R5 hW ra rb rc rd
      have KS := total_o Z Y A1 Z.nd c1 K _ (H.keep hB) R1
      rw [E3.out, E4.out] at KS
      obtain ⟨d0, d1, d2, d20, d21, d22, d23, d24, d25⟩ := PB.ow24
      go_wp2_with (with_reducible show wpList _ _ _ _ _ _; refine wpList_B _ rfl rfl rfl (by with_reducible assumption) ?_)
      refine KS.mono ?_
      rintro e w8 ⟨rfl, hb⟩
      clear d0 d1 d2 d20 d21 d22 d23 d24 d25
      replace hB := bt hB hb
      replace PB := PB.keep hb
      replace DB := DB.keep hb
      replace R2 := R2.keep hb
      clear hb KS R1 E3 E4 E5
      obtain ⟨x0, x1⟩ := ZX
      obtain ⟨y0, y1⟩ := ZC
      obtain ⟨a00, a01⟩ := a0
      obtain ⟨a10, a11⟩ := a1
      obtain ⟨x, hx⟩ : ∃ x, min (Z.ix + min (max m0 0) 1000) 1000 = x := ⟨_, rfl⟩
      obtain ⟨y, hy⟩ : ∃ y, min (Z.cc + min (max m1 0) 1073741824) 1073741824 = y := ⟨_, rfl⟩
      have b3 : Z.ix ≤ x ∧ x ≤ 1000 := by omega
      have b4 : Z.cc ≤ y ∧ y ≤ 1073741824 := by omega
      have HD := Lib.hid (Oz.zck_dz HZ.out b3.1 b3.2 b4.1 b4.2)
      have HX := Lib.hid b3.1
      have HY := Lib.hid b4.1
      obtain ⟨b30, b31⟩ := b3
      obtain ⟨b40, b41⟩ := b4
      obtain ⟨d0, d1, d2, d20, d21, d22, d23, d24, d25⟩ := PB.ow24
      obtain ⟨e0, e1, e2, e3⟩ := DB.open2
      have PB2 := (PB.set_ 20 (.int .i64 x)).set_ 21 (.int .i64 y)
      simp only [List.setIfInBounds_toArray, List.set_cons_zero, List.set_cons_succ] at PB2
      have hB2 := bst (bst hB (p := ⟨w.heap.size, 20, none⟩) (Nat.le_refl _) (.int .i64 x)) (p := ⟨w.heap.size, 21, none⟩) (Nat.le_refl _) (.int .i64 y)
      have hap : ∀ g, ob A2 = some g → w.heap.size ≠ g := fun g q => by have := FR0.out g q; omega
      replace R2 := (R2.far2 hap 20 (.int .i64 x)).far2 hap 21 (.int .i64 y)
      go_upto_region 22 with fail
      clear d0 d1 d2 d20 d21 d22 d23 d24 d25
      clear e0 e1 e2 e3 PB hB hx hy DB
      generalize World.setCell (World.setCell w8 _ _) _ _ = w9 at PB2 hB2 R2 ⊢
      obtain ⟨Z', hZ'⟩ : ∃ Z', Hid (Z' = Oz.dz Z x y) := ⟨_, Lib.hid rfl⟩
      have PB : Blk w9 w.heap.size 27 #[.slice Y.ds Z'.nd Y.dsc, .slice Y.lv Z'.nl Y.lvc, .slice Y.sp Z'.ns Y.spc, .slice Y.tl Z'.nt Y.tlc, .slice Y.ms Z'.nm Y.msc, .string Z'.P.nm, .int .i64 Z'.P.em, .int .i64 Z'.P.fu, .slice Y.Q.al Z'.P.na Y.Q.alc, .slice Y.Q.ma Z'.P.nM Y.Q.mac, .slice Y.Q.tC Z'.P.nC Y.Q.tCc, .slice Y.Q.tF Z'.P.nF Y.Q.tFc, .slice Y.Q.tR Z'.P.nR Y.Q.tRc, .slice Y.Q.dD Z'.P.nD Y.Q.dDc, .slice Y.Q.dI Z'.P.nI Y.Q.dIc, .slice Y.Q.dX Z'.P.nX Y.Q.dXc, .slice Y.Q.dN Z'.P.nN Y.Q.dNc, .int .i64 Z'.P.rf, .int .i64 Z'.P.xt, .int .i64 Z'.P.ce, .int .i64 Z'.ix, .int .i64 Z'.cc, .int .i64 Z'.fi, .int .i64 Z'.la] := by rw [hZ'.out]; exact PB2
      have HD2 := HD
      rw [← hZ'.out] at HD
      have H' : ZIn w Z' Y := by rw [hZ'.out]; exact H.dz x y
      have hgn : Hid (Oz.gN Z' = Oz.gN Z) := Lib.hid (by rw [hZ'.out]; rfl)
      have F1 : Hid (Ce.ber (Oz.gN Z') (Oz.gL Z').length (Oz.gE Z') 0 ((Oz.gN Z' : Int) - 1) (Oz.gN Z) (Ce.pot (Oz.gN Z) C) = 0) := Lib.hid (by rw [hZ'.out]; exact (Oz.bound_dz HZ.out HD2.out HX.out HY.out HL.out HC.out).1)
      have F2 : Hid (Ce.bnd (Oz.gN Z') (Oz.gL Z').length (Oz.gE Z') 0 ((Oz.gN Z' : Int) - 1) (Oz.gN Z) (Ce.pot (Oz.gN Z) C) = C (Oz.gN Z - 1)) := Lib.hid (by rw [hZ'.out]; exact (Oz.bound_dz HZ.out HD2.out HX.out HY.out HL.out HC.out).2)
      have F3 : Hid (Oz.qE Z' l (fun p => N p 0) (fun p => N p 1) = 0 → C (Oz.gN Z - 1) ≤ Oz.qV Z' l (fun p => N p 0) (fun p => N p 1)) := Lib.hid (by rw [hZ'.out]; exact fun q => Oz.cost_dz HZ.out HD2.out HX.out HY.out HL.out q)
      clear PB2 HD2 HRC HRT
      have KB := Lib.hid (fun (A : Option Addr) (c : Nat) (wx : World) (T : Rd wx 3 A (Oz.gL Z').length c (iv (Oz.gE Z'))) (u : Rd wx 1 A2 (Oz.gN Z) c2 (nv (Ce.pot (Oz.gN Z) C))) => bound_c A (Oz.gN Z' : Int) (Oz.gL Z').length c (Oz.gE Z') wx T (by have := hgn.out; omega) (by have := hgn.out; omega) 0 ((Oz.gN Z' : Int) - 1) A2 (Oz.gN Z) c2 _ u)
      have KT := Lib.hid (fun wx (h : ZIn wx Z' Y) (u : Rd wx 2 B l d (iv N)) => total_o Z' Y B l d N wx h u)
      rw [F1.out, F2.out] at KB
      obtain ⟨qe, hqe⟩ : ∃ qe, Hid (Oz.qE Z' l (fun p => N p 0) (fun p => N p 1) = qe) := ⟨_, Lib.hid rfl⟩
      obtain ⟨qv, hqv⟩ : ∃ qv, Hid (Oz.qV Z' l (fun p => N p 0) (fun p => N p 1) = qv) := ⟨_, Lib.hid rfl⟩
      rw [hqe.out, hqv.out] at KT F3
      have GZ := Lib.hid (graph_c Z' Y)
      generalize C (Oz.gN Z - 1) = cv at *
      obtain ⟨d0, d1, d2, d20, d21, d22, d23, d24, d25⟩ := PB.ow24
      go_wp2_with (with_reducible show wpList _ _ _ _ _ _; refine wpList_B _ rfl rfl rfl (by with_reducible assumption) ?_)
      refine (GZ.out _ (H'.keep hB2) HD.out).mono ?_
      rintro e w10 ⟨A6, c6, rfl, T6, hb⟩
      clear d0 d1 d2 d20 d21 d22 d23 d24 d25
      have G6 := Blk.new w10 41 #[.int .i64 (Oz.gN Z' : Int), .slice A6 (Oz.gL Z').length c6]
      replace PB := (PB.keep hb).alloc (.cells #[.int .i64 (Oz.gN Z' : Int), .slice A6 (Oz.gL Z').length c6] 41)
      replace R2 := (R2.keep hb).alloc (.cells #[.int .i64 (Oz.gN Z' : Int), .slice A6 (Oz.gL Z').length c6] 41)
      replace T6 := T6.alloc (.cells #[.int .i64 (Oz.gN Z' : Int), .slice A6 (Oz.gL Z').length c6] 41)
      replace hB2 := bal (bt hB2 hb) (.cells #[.int .i64 (Oz.gN Z' : Int), .slice A6 (Oz.gL Z').length c6] 41)
      clear hb
      obtain ⟨c0, c1_, c2_, c3⟩ := G6.open2
      go_wp2_with fail
      refine (KB.out A6 c6 _ T6 R2).mono ?_
      rintro e w11 ⟨rfl, hb⟩
      clear c0 c1_ c2_ c3 T6 R2 G6
      replace hB2 := bt hB2 hb
      replace PB := PB.keep hb
      clear hb
      obtain ⟨d0, d1, d2, d20, d21, d22, d23, d24, d25⟩ := PB.ow24
      go_wp2_with (with_reducible show wpList _ _ _ _ _ _; refine wpList_B _ rfl rfl rfl (by with_reducible assumption) ?_)
      refine (KT.out _ (H'.keep hB2) (U.keep hB2)).mono ?_
      rintro e w12 ⟨rfl, hb⟩
      clear d0 d1 d2 d20 d21 d22 d23 d24 d25
      replace hB2 := bt hB2 hb
      clear hb PB
      by_cases hq : qe = 0
      · have hq1 : (qe != 0) = false := by simpa using hq
        have hle : qv ≥ cv := F3.out hq
        clear hq
        go_wp2_with fail
        go_returns
        first | exact ⟨rfl, hB2⟩ | exact hB2
      · have hq1 : (qe != 0) = true := by simpa using hq
        clear hq
        go_wp2_with fail
        go_returns
        first | exact ⟨rfl, hB2⟩ | exact hB2
end Go.Proofs.Ytoeklllahpegfaa
