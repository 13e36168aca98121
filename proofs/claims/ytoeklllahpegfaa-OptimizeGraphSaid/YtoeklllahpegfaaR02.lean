/-
  Words and contracts, put together: OR1, OVr, OTr, OCr, ODr, OEr, OFr, OGr, ON1, ONc.
-/
import Derived.Test.YtoeklllahpegfaaM01
import Derived.Test.YtoeklllahpegfaaM02
import Derived.Test.YtoeklllahpegfaaM04
import Derived.Test.YtoeklllahpegfaaM05
import Derived.Test.YtoeklllahpegfaaM06
import Derived.Test.YtoeklllahpegfaaM08
import Derived.Test.YtoeklllahpegfaaM10
import Derived.Test.YtoeklllahpegfaaM13
import Derived.Test.YtoeklllahpegfaaR01
import Derived.Deep.DeepCutAuto
/-
  Contracts: the reference's Floor for a positive divisor.
-/
namespace Go.Proofs.Ytoeklllahpegfaa
set_option linter.unusedVariables false
set_option linter.unusedSimpArgs false
open Go.RowKit

theorem neg_quo {a c : Int} (hc : 0 < c) : a / c = -(-a / c + if -a % c = 0 then 0 else 1) := by
  have e := Int.emod_add_mul_ediv (-a) c
  have r0 := Int.emod_nonneg (-a) (show c ≠ 0 by omega)
  have r1 := Int.emod_lt_of_pos (-a) hc
  rw [Int.mul_comm] at e
  generalize -a / c = q at *
  generalize -a % c = r at *
  have m : ∀ k : Int, -(q + k) * c = -(q * c) - k * c := fun k => by rw [Int.neg_mul, Int.add_mul]; omega
  by_cases h : r = 0
  · rw [if_pos h]
    have l1 := (Int.le_ediv_iff_mul_le hc (a := -(q + 0)) (b := a)).2 (by rw [m 0]; omega)
    have l2 := (Int.ediv_lt_iff_lt_mul hc (a := a) (b := -(q + -1))).2 (by rw [m (-1)]; omega)
    omega
  · rw [if_neg h]
    have l1 := (Int.le_ediv_iff_mul_le hc (a := -(q + 1)) (b := a)).2 (by rw [m 1]; omega)
    have l2 := (Int.ediv_lt_iff_lt_mul hc (a := a) (b := -(q + 0))).2 (by rw [m 0]; omega)
    omega
set_option maxRecDepth 100000 in
set_option maxHeartbeats 4000000 in
theorem rquot_o (a c : Int) (w : World) (h1 : -4611686018427387904 ≤ a) (h2 : a ≤ 4611686018427387904) (hc : 0 < c) (c2 : c ≤ 9223372036854775807) :
    Calls Try.prog 93 #[.int .i64 a, .int .i64 1, .int .i64 c, .int .i64 0] w fun e w' => e = .returned (.tuple #[.int .i64 (a / c), .int .i64 0]) ∧ w = w' := by
  have hc0 : (c == 0) = false := by simp; omega
  have hc1 : ¬ c < 0 := by omega
  have ec : Wi.ab c = c := Wi.ab_pos (by omega)
  have e1 : Wi.ab 1 = 1 := rfl
  obtain ⟨s, hs, s0, s1⟩ : ∃ s, Wi.ab a = s ∧ 0 ≤ s ∧ s ≤ 4611686018427387904 := ⟨_, rfl, by unfold Wi.ab; split <;> omega, by unfold Wi.ab; split <;> omega⟩
  have b := quo_bd (a := s) (by omega) s1 hc
  have q0 := Int.ediv_nonneg s0 (show 0 ≤ c by omega)
  have r0 := Int.emod_nonneg s (show c ≠ 0 by omega)
  have r1 := Int.emod_lt_of_pos s hc
  have hq1 : Wi.Hq s = 0 := Wi.Hq_of s0 (by omega) (by omega)
  have hl1 : Wi.Lr s = s := Wi.Lr_of (h := 0) s0 (by omega) (by omega)
  have hq2 : Wi.Hq (s / c) = 0 := Wi.Hq_of q0 (by omega) (by omega)
  have hl2 : Wi.Lr (s / c) = s / c := Wi.Lr_of (h := 0) q0 (by omega) (by omega)
  have K1 := rsize1_c a w (by omega) (by omega)
  have K2 := rsize1_c 1 w (by omega) (by omega)
  have K3 := rsize1_c c w (by omega) (by omega)
  have K4 := product_c s 1 w s0 (by omega) (by omega) (by omega)
  have K5 := rdiv1_c 0 s s c w ⟨hq1.symm, hl1.symm, s0, by omega⟩ hc (by omega)
  rw [hs] at K1
  rw [e1] at K2
  rw [ec] at K3
  rw [Int.mul_one, hq1, hl1] at K4
  rw [hq2, hl2] at K5
  have N1 := Lib.hid (neg_quo (a := a) hc)
  have HS := Lib.hid hs
  clear hq1 hl1 hq2 hl2 e1 ec hs
  obtain ⟨q, hq⟩ : ∃ q, s / c = q := ⟨_, rfl⟩
  obtain ⟨r, hr⟩ : ∃ r, s % c = r := ⟨_, rfl⟩
  rw [hq, hr] at K5
  rw [hq] at b q0
  rw [hr] at r0 r1
  have HQ := Lib.hid hq
  have HR := Lib.hid hr
  clear hq hr
  by_cases hn : a < 0
  · have hsn : Hid (s = -a) := Lib.hid (by rw [← HS.out, Wi.ab_neg hn])
    have N2 := N1.out
    rw [← hsn.out, HQ.out, HR.out] at N2
    clear N1
    have xq : ∀ y : Int, 0 ≤ y → y ≤ 4611686018427387905 → wrap64 (IntKind.u64.wrap (bits .xor .u64 IntKind.u64.max y + 1)) = -y := fun y h0 h1 => by
      rw [xor_max h0 (by omega), IntKind.wrap_u64]; unfold wrap64; omega
    by_cases hr : r = 0
    · have hr0 : (r != 0) = false := by simp [hr]
      rw [if_pos hr] at N2
      have E := Lib.hid (show a / c = -q by omega)
      have X := Lib.hid (xq q q0 (by omega))
      clear hr N2 xq
      go_enter Try.func93, Try.ntmps93
      go_wp2_with fail
      refine K1.mono ?_
      rintro e w_ ⟨rfl, rfl⟩
      go_wp2_with fail
      refine K2.mono ?_
      rintro e w_ ⟨rfl, rfl⟩
      go_wp2_with fail
      refine K4.mono ?_
      rintro e w_ ⟨rfl, rfl⟩
      go_wp2_with fail
      refine K3.mono ?_
      rintro e w_ ⟨rfl, rfl⟩
      go_wp2_with fail
      refine K5.mono ?_
      rintro e w_ ⟨rfl, rfl⟩
      go_wp2_with fail
      refine K3.mono ?_
      rintro e w_ ⟨rfl, rfl⟩
      go_wp2_with fail
      go_returns
      refine ⟨?_, rfl⟩
      rw [E.out, ← X.out]; rfl
    · have hr0 : (r != 0) = true := by simp [hr]
      rw [if_neg hr] at N2
      have E := Lib.hid (show a / c = -(q + 1) by omega)
      have X := Lib.hid (xq (q + 1) (by omega) (by omega))
      have hq1 : (q + 1 == 0) = false := by simp; omega
      clear hr N2 xq
      go_enter Try.func93, Try.ntmps93
      go_wp2_with fail
      refine K1.mono ?_
      rintro e w_ ⟨rfl, rfl⟩
      go_wp2_with fail
      refine K2.mono ?_
      rintro e w_ ⟨rfl, rfl⟩
      go_wp2_with fail
      refine K4.mono ?_
      rintro e w_ ⟨rfl, rfl⟩
      go_wp2_with fail
      refine K3.mono ?_
      rintro e w_ ⟨rfl, rfl⟩
      go_wp2_with fail
      refine K5.mono ?_
      rintro e w_ ⟨rfl, rfl⟩
      go_wp2_with fail
      refine K3.mono ?_
      rintro e w_ ⟨rfl, rfl⟩
      go_wp2_with fail
      go_returns
      refine ⟨?_, rfl⟩
      rw [E.out, ← X.out]; rfl
  · have E : Hid (a / c = q) := Lib.hid (by
      have hsn : s = a := by rw [← HS.out, Wi.ab_pos (by omega)]
      rw [← hsn]; exact HQ.out)
    · skip
      go_enter Try.func93, Try.ntmps93
      go_wp2_with fail
      refine K1.mono ?_
      rintro e w_ ⟨rfl, rfl⟩
      go_wp2_with fail
      refine K2.mono ?_
      rintro e w_ ⟨rfl, rfl⟩
      go_wp2_with fail
      refine K4.mono ?_
      rintro e w_ ⟨rfl, rfl⟩
      go_wp2_with fail
      refine K3.mono ?_
      rintro e w_ ⟨rfl, rfl⟩
      go_wp2_with fail
      refine K5.mono ?_
      rintro e w_ ⟨rfl, rfl⟩
      go_wp2_with fail
      refine K3.mono ?_
      rintro e w_ ⟨rfl, rfl⟩
      go_wp2_with fail
      go_returns
      refine ⟨?_, rfl⟩
      rw [E.out]
      rfl
set_option maxHeartbeats 1000000 in
theorem rfloor_o (a c : Int) (w : World) (h1 : -4611686018427387904 ≤ a) (h2 : a ≤ 4611686018427387904) (hc : 0 < c) (c2 : c ≤ 9223372036854775807) :
    Calls Try.prog 91 #[.int .i64 a, .int .i64 c] w fun e w' => e = .returned (.tuple #[.int .i64 (a / c), .int .i64 0]) ∧ w = w' := by
  have K := rquot_o a c w h1 h2 hc c2
  generalize a / c = r at K ⊢
  go_enter Try.func91, Try.ntmps91
  go_wp2_with fail
  refine K.mono ?_
  rintro e w_ ⟨rfl, rfl⟩
  go_wp2_with fail
  go_returns
  exact ⟨rfl, rfl⟩
end Go.Proofs.Ytoeklllahpegfaa
/-
  Contract: the reference's At.
-/
namespace Go.Proofs.Ytoeklllahpegfaa
set_option linter.unusedVariables false
set_option linter.unusedSimpArgs false
open Go.RowKit
attribute [local irreducible] World.setCell World.cell?

set_option maxRecDepth 100000 in
set_option maxHeartbeats 4000000 in
theorem rat_c (A B : Option Addr) (n c d : Nat) (al l : Nat → Int) (x : Int) (w : World) (R : Rd w 1 A n c (nv al)) (L : Rd w 1 B n d (nv l)) (hn : 2 ≤ n) (hx : -10000000000 ≤ x ∧ x ≤ 10000000000) (hasc0 : ∀ i, i + 1 < n → al i < al (i + 1))
    (hal0 : ∀ i, i < n → -10000000000 ≤ al i ∧ al i ≤ 10000000000) (hl0 : ∀ i, i < n → -1000000 ≤ l i ∧ l i ≤ 1000000) :
    Calls Try.prog 89 #[.slice A n c, .slice B n d, .int .i64 x] w fun e w' => e = .returned (.int .i64 (Oz.vW n al l x)) ∧ Below w.heap.size w w' := by
  have r1 := R.le
  have r2 := R.mx
  have l1 := L.le
  have l2 := L.mx
  have hasc := Lib.hid hasc0
  have hal := Lib.hid hal0
  have hl := Lib.hid hl0
  clear hasc0 hal0 hl0
  obtain ⟨x1, x2⟩ := hx
  obtain ⟨b, off, eA, hbl, u0⟩ := R.at1 (k := 0) (by omega)
  obtain ⟨b2, off2, eB, hbl2, y0⟩ := L.at1 (k := 0) (by omega)
  subst eA eB
  rw [Nat.add_zero] at u0 y0
  have n0 : (0 : Int) < (n : Int) := by omega
  by_cases h0 : x ≤ al 0
  · have HE := Lib.hid (Oz.vW_lo (l := l) (show 1 ≤ n by omega) h0)
    go_enter Try.func89, Try.ntmps89
    go_wp2_with fail
    go_returns
    refine ⟨?_, Below.refl _ _⟩
    rw [HE.out]; rfl
  have h00 := Lib.hid (show al 0 < x by omega)
  obtain ⟨m, rfl⟩ : ∃ m, n = m + 1 := ⟨n - 1, by omega⟩
  have i4 : (m : Int) + 1 - 1 = (m : Int) := by omega
  have i5 : (m : Int) < (m : Int) + 1 := by omega
  have i6 : (0 : Int) ≤ (m : Int) := by omega
  have i7 : (0 : Int) < (m : Int) + 1 := by omega
  obtain ⟨_, um⟩ := R.s1o (k := m) (by omega)
  obtain ⟨_, ym⟩ := L.s1o (k := m) (by omega)
  clear n0
  by_cases h1 : al m ≤ x
  · have HE := Lib.hid (Oz.vW_hi (l := l) rfl (by omega) hasc.out h1)
    go_enter Try.func89, Try.ntmps89
    go_wp2_with fail
    go_returns
    refine ⟨?_, Below.refl _ _⟩
    rw [HE.out]; rfl
  go_enter Try.func89, Try.ntmps89
  go_wp2_with fail
  have H1 := Lib.hid h1
  clear um ym
  go_loopw [8] (fun i wr => ∃ k : Nat, k + 1 ≤ m ∧ i = .int .i64 k ∧ Hid (al k ≤ x) ∧ w = wr) (fun i _ => m - (intOf i).toNat)
  case atStart => exact ⟨0, by omega, rfl, Lib.hid (by have := h00.out; omega), rfl⟩
  case round =>
    obtain ⟨k, hk, rfl, hf, rfl⟩ := hrel
    obtain ⟨_, u1⟩ := R.s1o (k := k + 1) (by omega)
    have j1 : (0 : Int) ≤ (k : Int) := by omega
    have j2 : (k : Int) + 1 < (m : Int) + 1 := by omega
    have j3 : (0 : Int) ≤ (k : Int) + 1 := by omega
    have j4 : (k : Int) < (m : Int) + 1 := by omega
    by_cases hx : al (k + 1) ≤ x
    · have hkm : k + 1 + 1 ≤ m := by
        have : k + 1 ≠ m := fun q => by have h9 := H1.out; rw [← q] at h9; omega
        omega
      go_wp2_with fail
      go_roundw
      case rel => exact ⟨k + 1, hkm, by go_num, Lib.hid hx, by first | trivial | rfl⟩
      case measure => simp [intOf]; omega
    · have HE := Lib.hid (Oz.vW_at (l := l) hasc.out (i := k) (by omega) hf.out hx h00.out)
      have hf2 := hf.out
      obtain ⟨_, u2⟩ := R.s1o (k := k) (by omega)
      obtain ⟨_, y1⟩ := L.s1o (k := k) (by omega)
      obtain ⟨_, y2⟩ := L.s1o (k := k + 1) (by omega)
      obtain ⟨a1, a2⟩ := hal.out k (by omega)
      obtain ⟨a3, a4⟩ := hal.out (k + 1) (by omega)
      obtain ⟨v1, v2⟩ := hl.out k (by omega)
      obtain ⟨v3, v4⟩ := hl.out (k + 1) (by omega)
      have m1 : (l (k + 1) - l k) * (x - al k) ≤ 2000000 * (x - al k) := Int.mul_le_mul_of_nonneg_right (by omega) (by omega)
      have m2 : -2000000 * (x - al k) ≤ (l (k + 1) - l k) * (x - al k) := Int.mul_le_mul_of_nonneg_right (by omega) (by omega)
      have m3 : (l (k + 1) - l k) * (x - al k) ≤ 4611686018427387904 := by omega
      have m4 : -4611686018427387904 ≤ (l (k + 1) - l k) * (x - al k) := by omega
      have qb := quo_bd (c := al (k + 1) - al k) m4 m3 (by omega)
      have KF := Lib.hid (fun W => rfloor_o ((l (k + 1) - l k) * (x - al k)) (al (k + 1) - al k) W m4 m3 (by omega) (by omega))
      clear m1 m2
      go_wp2_with fail
      go_quiet ((go_at_call 91; exact quiet_left' (KF.out _)))
      generalize (l (k + 1) - l k) * (x - al k) / (al (k + 1) - al k) = r at *
      have hB := bdn w ‹Nat›
      go_wp2_with fail
      go_returns
      refine ⟨?_, hB⟩
      rw [HE.out]; rfl
end Go.Proofs.Ytoeklllahpegfaa
/-
  Contract: the reference's table.
-/
namespace Go.Proofs.Ytoeklllahpegfaa
set_option linter.unusedVariables false
set_option linter.unusedSimpArgs false
open Go.RowKit
attribute [local irreducible] World.setCell World.cell?

set_option maxRecDepth 100000 in
set_option maxHeartbeats 4000000 in
theorem rtable_c (P : PD) (Q : PA) (A : Option Addr) (n c : Nat) (ln : Nat → Nat) (T : Nat → Nat → Int) (alt mass : Int) (w : World) (H : PIn w P Q) (R : Tb w A n c ln T) (hn : n = P.na) (O : Oz.POk P) (hln : ∀ i, i < P.na → ln i = P.nM)
    (hT : ∀ i j, i < P.na → j < P.nM → 0 ≤ T i j ∧ T i j ≤ 50000) (ha : -200000 ≤ alt ∧ alt ≤ 6000000) (hm : 1 ≤ mass ∧ mass ≤ 3000000000) :
    Calls Try.prog 87 #[.agg #[.string P.nm, .int .i64 P.em, .int .i64 P.fu, .slice Q.al P.na Q.alc, .slice Q.ma P.nM Q.mac, .slice Q.tC P.nC Q.tCc, .slice Q.tF P.nF Q.tFc, .slice Q.tR P.nR Q.tRc, .slice Q.dD P.nD Q.dDc, .slice Q.dI P.nI Q.dIc, .slice Q.dX P.nX Q.dXc, .slice Q.dN P.nN Q.dNc, .int .i64 P.rf, .int .i64 P.xt, .int .i64 P.ce], .slice A n c, .int .i64 alt, .int .i64 mass] w fun e w' => e = .returned (.int .i64 (Oz.tabW P T alt mass)) ∧ Below w.heap.size w w' := by
  subst hn
  have o1 := O.na1
  have o2 := O.na2
  have o3 := O.nM1
  have o4 := O.nM2
  have hmk1 := mk_i6 P.nM (by omega)
  have hmk2 := mk_i6 P.na (by omega)
  have x1 := H.al.le
  have x2 := H.al.mx
  have x3 := H.ma.le
  have x4 := H.ma.mx
  have hVW := fun (j : Nat) (hj : j < P.nM) => Oz.vW_bd (al := P.al) (l := fun i => T i j) (x := alt) (lo := 0) (hi := 50000) (by omega : 1 ≤ P.na) fun i hi => hT i j hi hj
  have HVW := Lib.hid hVW
  have HLN := Lib.hid hln
  have HT := Lib.hid hT
  have ALB := Lib.hid O.alb
  have MAB := Lib.hid O.mab
  have ALA := Lib.hid O.al
  have MAA := Lib.hid O.ma
  clear hVW hln hT
  go_enter Try.func87, Try.ntmps87
  try simp only [List.append_eq, List.cons_append, List.nil_append]
  have G := Blk.new w 25 #[.string P.nm, .int .i64 P.em, .int .i64 P.fu, .slice Q.al P.na Q.alc, .slice Q.ma P.nM Q.mac, .slice Q.tC P.nC Q.tCc, .slice Q.tF P.nF Q.tFc, .slice Q.tR P.nR Q.tRc, .slice Q.dD P.nD Q.dDc, .slice Q.dI P.nI Q.dIc, .slice Q.dX P.nX Q.dXc, .slice Q.dN P.nN Q.dNc, .int .i64 P.rf, .int .i64 P.xt, .int .i64 P.ce]
  have hB := ba w (.cells #[.string P.nm, .int .i64 P.em, .int .i64 P.fu, .slice Q.al P.na Q.alc, .slice Q.ma P.nM Q.mac, .slice Q.tC P.nC Q.tCc, .slice Q.tF P.nF Q.tFc, .slice Q.tR P.nR Q.tRc, .slice Q.dD P.nD Q.dDc, .slice Q.dI P.nI Q.dIc, .slice Q.dX P.nX Q.dXc, .slice Q.dN P.nN Q.dNc, .int .i64 P.rf, .int .i64 P.xt, .int .i64 P.ce] 25)
  have hsz0 : w.heap.size < (World.alloc w (.cells #[.string P.nm, .int .i64 P.em, .int .i64 P.fu, .slice Q.al P.na Q.alc, .slice Q.ma P.nM Q.mac, .slice Q.tC P.nC Q.tCc, .slice Q.tF P.nF Q.tFc, .slice Q.tR P.nR Q.tRc, .slice Q.dD P.nD Q.dDc, .slice Q.dI P.nI Q.dIc, .slice Q.dX P.nX Q.dXc, .slice Q.dN P.nN Q.dNc, .int .i64 P.rf, .int .i64 P.xt, .int .i64 P.ce] 25)).heap.size := by simp
  go_upto_region 1 with fail
  generalize World.alloc w _ = wS at G hB hsz0 ⊢
  obtain ⟨d0, d1, d2, d3, d4, d5, d6, d7, d8, d9, d10, d11, d12, d13, d14, d15, d16⟩ := G.open15
  go_upto_region 2 with fail
  have q1 := own_i6 wS w.heap.size P.nM (by omega) (by omega)
  have hb2 := ba wS (.cells (madeCells #[.int .i64 0] P.nM) 2)
  clear d0 d1 d2 d3 d4 d5 d6 d7 d8 d9 d10 d11 d12 d13 d14 d15 d16
  generalize World.alloc wS _ = w2 at q1 hb2 ⊢
  replace G := G.keep hb2
  replace hB := bt hB hb2
  clear hb2 hmk1
  have H01 := Lib.hid hsz0
  clear hsz0
  generalize wS.heap.size = g1 at *
  go_wp2_with fail
  go_loopw [19] (fun q wr => ∃ (j : Nat) (M : Nat → Int), j ≤ P.nM ∧ q = .int .i64 j ∧ Own wr w.heap.size 2 1 (some ⟨g1, 0, none⟩) P.nM P.nM (nv M) ∧ Hid (∀ a, a < j → M a = Oz.vW P.na P.al (fun i => T i a) alt) ∧ Blk wr w.heap.size 25 #[.string P.nm, .int .i64 P.em, .int .i64 P.fu, .slice Q.al P.na Q.alc, .slice Q.ma P.nM Q.mac, .slice Q.tC P.nC Q.tCc, .slice Q.tF P.nF Q.tFc, .slice Q.tR P.nR Q.tRc, .slice Q.dD P.nD Q.dDc, .slice Q.dI P.nI Q.dIc, .slice Q.dX P.nX Q.dXc, .slice Q.dN P.nN Q.dNc, .int .i64 P.rf, .int .i64 P.xt, .int .i64 P.ce] ∧ Below w.heap.size w wr) (fun q _ => P.nM - (intOf q).toNat)
  case atStart => exact ⟨0, _, Nat.zero_le _, rfl, q1, Lib.hid (fun a h => absurd h (Nat.not_lt_zero _)), G, hB⟩
  case round =>
    clear q1 G hB
    obtain ⟨j, M, hj, rfl, q1, hM, G, hB⟩ := hrel
    by_cases hlt : j < P.nM
    · obtain ⟨d0, d1, d2, d3, d4, d5, d6, d7, d8, d9, d10, d11, d12, d13, d14, d15, d16⟩ := G.open15
      have lg := q1.lt1
      have hbs := hB.size
      have q2 := own_i6 wr w.heap.size P.na (by omega) hbs
      replace q1 := q1.alloc (.cells (madeCells #[.int .i64 0] P.na) 2)
      replace G := G.alloc (.cells (madeCells #[.int .i64 0] P.na) 2)
      replace hB := bal hB (.cells (madeCells #[.int .i64 0] P.na) 2)
      go_wp2_with fail
      clear d0 d1 d2 d3 d4 d5 d6 d7 d8 d9 d10 d11 d12 d13 d14 d15 d16
      have HLG := Lib.hid lg
      clear lg
      generalize World.alloc wr _ = wc at q1 q2 G hB ⊢
      generalize wr.heap.size = g2 at *
      go_loopw [28] (fun q wr => ∃ (i : Nat) (N : Nat → Int), i ≤ P.na ∧ q = .int .i64 i ∧ Own wr w.heap.size 2 1 (some ⟨g1, 0, none⟩) P.nM P.nM (nv M) ∧ Own wr w.heap.size 2 1 (some ⟨g2, 0, none⟩) P.na P.na (nv N) ∧ Hid (∀ a, a < i → N a = T a j) ∧ Blk wr w.heap.size 25 #[.string P.nm, .int .i64 P.em, .int .i64 P.fu, .slice Q.al P.na Q.alc, .slice Q.ma P.nM Q.mac, .slice Q.tC P.nC Q.tCc, .slice Q.tF P.nF Q.tFc, .slice Q.tR P.nR Q.tRc, .slice Q.dD P.nD Q.dDc, .slice Q.dI P.nI Q.dIc, .slice Q.dX P.nX Q.dXc, .slice Q.dN P.nN Q.dNc, .int .i64 P.rf, .int .i64 P.xt, .int .i64 P.ce] ∧ Below w.heap.size w wr) (fun q _ => P.na - (intOf q).toNat)
      case atStart => exact ⟨0, _, Nat.zero_le _, rfl, q1, q2, Lib.hid (fun a h => absurd h (Nat.not_lt_zero _)), G, hB⟩
      case round =>
        clear q1 q2 G hB
        obtain ⟨i, N, hi, rfl, q1, q2, hN, G, hB⟩ := hrel
        by_cases hli : i < P.na
        · obtain ⟨b, off, X, cp, eA, hbl, y0, RX⟩ := (R.keep hB).at1 hli
          rw [HLN.out i hli] at y0 RX
          obtain ⟨b2, off2, eX, hbl2, y1⟩ := RX.at1 hlt
          have HA := Lib.hid eA
          rw [HA.out]
          subst eX
          clear eA RX
          have y2 := q2.cell1 hli
          have z2 := q2.frozen
          have gl := q2.lt1
          have i1 : (0 : Int) ≤ (j : Int) := by omega
          have i2 : (j : Int) < (P.nM : Int) := by omega
          have hgb : w.heap.size ≤ g2 := q2.base rfl
          have hne1 : w.heap.size ≠ g2 := by have h9 : w.heap.size ≤ g1 := q1.base rfl; have := HLG.out; omega
          have Q2 := Lib.hid (q2.up1 hli (T i j))
          have Q1 := Lib.hid (q1.far (p := ⟨g2, i, none⟩) (.inr (by have := HLG.out; simp [ob]; omega)) (.int .i64 (T i j)))
          have HN := Lib.hid (up_lt (F := fun a => T a j) hN.out)
          have G2 := Lib.hid (G.far (p := ⟨g2, i, none⟩) hne1 (.int .i64 (T i j)))
          have HB2 := Lib.hid (bst hB (p := ⟨g2, i, none⟩) hgb (.int .i64 (T i j)))
          clear q1 q2 G hB hN
          go_wp2_with fail
          go_roundw
          case rel => exact ⟨i + 1, _, by omega, by go_num, Q1.out, Q2.out, HN, G2.out, HB2.out⟩
          case measure => simp [intOf]; omega
        · have ei : i = P.na := by omega
          subst ei
          obtain ⟨d0, d1, d2, d3, d4, d5, d6, d7, d8, d9, d10, d11, d12, d13, d14, d15, d16⟩ := G.open15
          go_wp2_with fail
          refine (rat_c _ _ _ _ _ _ (fun a => T a j) _ _ (H.keep hB).al ((q2.rd).congr (fun a f ha _ => by unfold nv; rw [hN.out a ha])) (by omega) (by omega) ALA.out (fun a ha => by have := ALB.out a ha; omega) (fun a ha => by have := HT.out a j ha hlt; omega)).mono ?_
          rintro e w3 ⟨rfl, hb⟩
          clear d0 d1 d2 d3 d4 d5 d6 d7 d8 d9 d10 d11 d12 d13 d14 d15 d16
          have hV := HVW.out j hlt
          have hne : w.heap.size ≠ g1 := by have := H01.out; omega
          replace q1 := q1.keep hb
          replace G := G.keep hb
          replace hB := bt hB hb
          clear hb q2
          have y1 := q1.cell1 hlt
          have z1 := q1.frozen
          have gl := q1.lt1
          have hgb : w.heap.size ≤ g1 := q1.base rfl
          have Q1 := Lib.hid (q1.up1 hlt (Oz.vW P.na P.al (fun a => T a j) alt))
          have HM := Lib.hid (up_lt (F := fun a => Oz.vW P.na P.al (fun i => T i a) alt) hM.out)
          have G2 := Lib.hid (G.far (p := ⟨g1, j, none⟩) hne (.int .i64 (Oz.vW P.na P.al (fun a => T a j) alt)))
          have HB2 := Lib.hid (bst hB (p := ⟨g1, j, none⟩) hgb (.int .i64 (Oz.vW P.na P.al (fun a => T a j) alt)))
          clear q1 G hB hN hM
          generalize Oz.vW P.na P.al (fun a => T a j) alt = v at *
          go_wp2_with fail
          go_roundw
          case rel => exact ⟨j + 1, _, by omega, by go_num, Q1.out, HM, G2.out, HB2.out⟩
          case measure => simp [intOf]; omega
    · have ej : j = P.nM := by omega
      subst ej
      obtain ⟨d0, d1, d2, d3, d4, d5, d6, d7, d8, d9, d10, d11, d12, d13, d14, d15, d16⟩ := G.open15
      go_wp2_with fail
      refine (rat_c _ _ _ _ _ _ (fun a => Oz.vW P.na P.al (fun i => T i a) alt) _ _ (H.keep hB).ma ((q1.rd).congr (fun a f ha _ => by unfold nv; rw [hM.out a ha])) (by omega) (by omega) MAA.out (fun a ha => by have := MAB.out a ha; omega) (fun a ha => by have := HVW.out a ha; omega)).mono ?_
      rintro e w3 ⟨rfl, hb⟩
      go_wp2_with fail
      go_returns
      exact ⟨rfl, bt hB hb⟩
end Go.Proofs.Ytoeklllahpegfaa
/-
  Contract: the reference's ready.
-/
namespace Go.Proofs.Ytoeklllahpegfaa
set_option linter.unusedVariables false
set_option linter.unusedSimpArgs false
open Go.RowKit
attribute [local irreducible] World.setCell World.cell?

set_option maxRecDepth 100000 in
set_option maxHeartbeats 4000000 in
theorem rready_c (P : PD) (Q : PA) (alt mass : Int) (w : World) (H : PIn w P Q) (hp : Oz.pck P = 0) (ha : -200000 ≤ alt ∧ alt ≤ 6000000) (hm : 1 ≤ mass ∧ mass ≤ 3000000000) :
    Calls Try.prog 86 #[.agg #[.string P.nm, .int .i64 P.em, .int .i64 P.fu, .slice Q.al P.na Q.alc, .slice Q.ma P.nM Q.mac, .slice Q.tC P.nC Q.tCc, .slice Q.tF P.nF Q.tFc, .slice Q.tR P.nR Q.tRc, .slice Q.dD P.nD Q.dDc, .slice Q.dI P.nI Q.dIc, .slice Q.dX P.nX Q.dXc, .slice Q.dN P.nN Q.dNc, .int .i64 P.rf, .int .i64 P.xt, .int .i64 P.ce], .int .i64 alt, .int .i64 mass] w fun e w' => e = .returned (.int .i64 0) ∧ Below w.heap.size w w' := by
  have HP := Lib.hid ((Oz.ck_same P).trans hp)
  obtain ⟨a1, a2⟩ := ha
  obtain ⟨m1, m2⟩ := hm
  clear hp
  go_enter Try.func86, Try.ntmps86
  have G := Blk.new w 25 #[.string P.nm, .int .i64 P.em, .int .i64 P.fu, .slice Q.al P.na Q.alc, .slice Q.ma P.nM Q.mac, .slice Q.tC P.nC Q.tCc, .slice Q.tF P.nF Q.tFc, .slice Q.tR P.nR Q.tRc, .slice Q.dD P.nD Q.dDc, .slice Q.dI P.nI Q.dIc, .slice Q.dX P.nX Q.dXc, .slice Q.dN P.nN Q.dNc, .int .i64 P.rf, .int .i64 P.xt, .int .i64 P.ce]
  have hB := ba w (.cells #[.string P.nm, .int .i64 P.em, .int .i64 P.fu, .slice Q.al P.na Q.alc, .slice Q.ma P.nM Q.mac, .slice Q.tC P.nC Q.tCc, .slice Q.tF P.nF Q.tFc, .slice Q.tR P.nR Q.tRc, .slice Q.dD P.nD Q.dDc, .slice Q.dI P.nI Q.dIc, .slice Q.dX P.nX Q.dXc, .slice Q.dN P.nN Q.dNc, .int .i64 P.rf, .int .i64 P.xt, .int .i64 P.ce] 25)
  go_upto_region 1 with fail
  generalize World.alloc w _ = w1 at G hB ⊢
  obtain ⟨d0, d1, d2, d3, d4, d5, d6, d7, d8, d9, d10, d11, d12, d13, d14, d15, d16⟩ := G.open15
  go_wp2_with fail
  refine (r31check_c _ _ _ (H.keep hB)).mono ?_
  rw [HP.out]
  rintro e w2 ⟨rfl, hb⟩
  clear d0 d1 d2 d3 d4 d5 d6 d7 d8 d9 d10 d11 d12 d13 d14 d15 d16
  replace hB := bt hB hb
  go_wp2_with fail
  go_returns
  exact ⟨rfl, hB⟩
end Go.Proofs.Ytoeklllahpegfaa
/-
  Contract: the reference's CruiseFlow.
-/
namespace Go.Proofs.Ytoeklllahpegfaa
set_option linter.unusedVariables false
set_option linter.unusedSimpArgs false
open Go.RowKit
attribute [local irreducible] World.setCell World.cell?

set_option maxRecDepth 100000 in
set_option maxHeartbeats 4000000 in
theorem rcruise_c (P : PD) (Q : PA) (alt mass tas : Int) (w : World) (H : PIn w P Q) (hp : Oz.pck P = 0) (ha : -200000 ≤ alt ∧ alt ≤ 6000000) (hm : 1 ≤ mass ∧ mass ≤ 3000000000) (ht : 0 ≤ tas ∧ tas ≤ 4000) :
    Calls Try.prog 76 #[.agg #[.string P.nm, .int .i64 P.em, .int .i64 P.fu, .slice Q.al P.na Q.alc, .slice Q.ma P.nM Q.mac, .slice Q.tC P.nC Q.tCc, .slice Q.tF P.nF Q.tFc, .slice Q.tR P.nR Q.tRc, .slice Q.dD P.nD Q.dDc, .slice Q.dI P.nI Q.dIc, .slice Q.dX P.nX Q.dXc, .slice Q.dN P.nN Q.dNc, .int .i64 P.rf, .int .i64 P.xt, .int .i64 P.ce], .int .i64 alt, .int .i64 mass, .int .i64 tas] w fun e w' => e = .returned (.tuple #[.int .i64 (Oz.flo P alt mass tas), .int .i64 0]) ∧ Below w.heap.size w w' := by
  have O := Oz.pck_ok hp
  obtain ⟨t1, t2⟩ := ht
  obtain ⟨f1, f2⟩ := O.rf
  obtain ⟨e1, e2⟩ := O.xt
  obtain ⟨b1, b2⟩ := Oz.tabW_bd O alt mass
  have hx := Oz.xtr_bd O t2
  have KR := Lib.hid (fun wx (h : PIn wx P Q) => rready_c P Q alt mass wx h hp ha hm)
  have hlR := O.lR
  have KT := Lib.hid (fun wx (h : PIn wx P Q) => rtable_c P Q Q.tR P.nR Q.tRc P.lR P.tR alt mass wx h h.tR O.nR O hlR O.tR ha hm)
  have HF : Hid (Oz.flo P alt mass tas = if 50000 < Oz.tabW P P.tR alt mass * Oz.xtr P tas / 1000 then 50000 else Oz.tabW P P.tR alt mass * Oz.xtr P tas / 1000) := Lib.hid rfl
  generalize Oz.tabW P P.tR alt mass = v at *
  have OO := Lib.hid O
  clear hp ha hm hlR O
  go_enter Try.func76, Try.ntmps76
  try simp only [List.append_eq, List.cons_append, List.nil_append]
  have G := Blk.new w 25 #[.string P.nm, .int .i64 P.em, .int .i64 P.fu, .slice Q.al P.na Q.alc, .slice Q.ma P.nM Q.mac, .slice Q.tC P.nC Q.tCc, .slice Q.tF P.nF Q.tFc, .slice Q.tR P.nR Q.tRc, .slice Q.dD P.nD Q.dDc, .slice Q.dI P.nI Q.dIc, .slice Q.dX P.nX Q.dXc, .slice Q.dN P.nN Q.dNc, .int .i64 P.rf, .int .i64 P.xt, .int .i64 P.ce]
  have hB := ba w (.cells #[.string P.nm, .int .i64 P.em, .int .i64 P.fu, .slice Q.al P.na Q.alc, .slice Q.ma P.nM Q.mac, .slice Q.tC P.nC Q.tCc, .slice Q.tF P.nF Q.tFc, .slice Q.tR P.nR Q.tRc, .slice Q.dD P.nD Q.dDc, .slice Q.dI P.nI Q.dIc, .slice Q.dX P.nX Q.dXc, .slice Q.dN P.nN Q.dNc, .int .i64 P.rf, .int .i64 P.xt, .int .i64 P.ce] 25)
  go_upto_region 1 with fail
  generalize World.alloc w _ = w1 at G hB ⊢
  obtain ⟨d0, d1, d2, d3, d4, d5, d6, d7, d8, d9, d10, d11, d12, d13, d14, d15, d16⟩ := G.open15
  go_wp2_with fail
  refine (KR.out _ (H.keep hB)).mono ?_
  rintro e w2 ⟨rfl, hb⟩
  clear d0 d1 d2 d3 d4 d5 d6 d7 d8 d9 d10 d11 d12 d13 d14 d15 d16
  replace hB := bt hB hb
  replace G := G.keep hb
  clear hb
  obtain ⟨d0, d1, d2, d3, d4, d5, d6, d7, d8, d9, d10, d11, d12, d13, d14, d15, d16⟩ := G.open15
  go_wp2_with fail
  refine (KT.out _ (H.keep hB)).mono ?_
  rintro e w3 ⟨rfl, hb⟩
  clear d0 d1 d2 d3 d4 d5 d6 d7 d8 d9 d10 d11 d12 d13 d14 d15 d16
  replace hB := bt hB hb
  replace G := G.keep hb
  clear hb
  obtain ⟨fn, n1, n2⟩ := flow_num OO.out (v := v) t1 t2 b1 b2
  rw [IntWalk.i64_in (tas - P.rf) (by omega)] at fn
  simp only [IntWalk.i64_left] at fn
  have FN := Lib.hid fn
  clear fn
  generalize hr : v * Oz.xtr P tas / 1000 = r at *
  clear hr
  have HM := Lib.hid (HF.out.trans (show (if 50000 < r then 50000 else r) = min r 50000 by split <;> omega))
  obtain ⟨d0, d1, d2, d3, d4, d5, d6, d7, d8, d9, d10, d11, d12, d13, d14, d15, d16⟩ := G.open15
  go_wp2_with fail
  go_returns
  refine ⟨?_, hB⟩
  rw [HM.out, ← FN.out]
  rfl
end Go.Proofs.Ytoeklllahpegfaa
/-
  Contracts: the reference's cost.
-/
namespace Go.Proofs.Ytoeklllahpegfaa
set_option linter.unusedVariables false
set_option linter.unusedSimpArgs false
open Go.RowKit
attribute [local irreducible] World.setCell World.cell?

set_option maxRecDepth 100000 in
set_option maxHeartbeats 4000000 in
theorem rcost_o (Z : ZD) (Y : ZA) (k j s : Nat) (w : World) (H : ZIn w Z Y) (hz : Oz.zck Z = 0) (hk : k < Z.nd) (hj : j < Z.nl) (hs : s < Z.ns) :
    Calls Try.prog 45 #[.agg #[.slice Y.ds Z.nd Y.dsc, .slice Y.lv Z.nl Y.lvc, .slice Y.sp Z.ns Y.spc, .slice Y.tl Z.nt Y.tlc, .slice Y.ms Z.nm Y.msc, .string Z.P.nm, .int .i64 Z.P.em, .int .i64 Z.P.fu, .slice Y.Q.al Z.P.na Y.Q.alc, .slice Y.Q.ma Z.P.nM Y.Q.mac, .slice Y.Q.tC Z.P.nC Y.Q.tCc, .slice Y.Q.tF Z.P.nF Y.Q.tFc, .slice Y.Q.tR Z.P.nR Y.Q.tRc, .slice Y.Q.dD Z.P.nD Y.Q.dDc, .slice Y.Q.dI Z.P.nI Y.Q.dIc, .slice Y.Q.dX Z.P.nX Y.Q.dXc, .slice Y.Q.dN Z.P.nN Y.Q.dNc, .int .i64 Z.P.rf, .int .i64 Z.P.xt, .int .i64 Z.P.ce, .int .i64 Z.ix, .int .i64 Z.cc, .int .i64 Z.fi, .int .i64 Z.la], .int .i64 (k : Int), .agg #[.int .i64 (j : Int), .int .i64 (s : Int)]] w fun e w' => e = .returned (.tuple #[.int .i64 (Oz.coV Z k j s), .int .i64 (Oz.coE Z k j s)]) ∧ Below w.heap.size w w' := by
  have O := Oz.zck_ok hz
  have hk2 : k < Z.nm := by have := O.nm; omega
  have hk3 : k < Z.nt := by have := O.nt; omega
  have s1 := O.sp s hs
  have s2 := O.tl k j hk hj
  have s3 := O.ds k hk
  have s4 := O.ix
  have KC := Lib.hid (fun wx (h : PIn wx Z.P Y.Q) => rcruise_c Z.P Y.Q (Z.lv j) (Z.ms k) (Z.sp s) wx h O.pk (O.lv j hj) (O.ms k hk) (by omega))
  have HLT := Lib.hid (O.lt k hk)
  have HB1 := Lib.hid (fun q => Oz.tk_bd (j := j) (s := s) O hk q)
  have HB2 := Lib.hid (fun q => Oz.cs_bd (j := j) O hk hs q)
  have HB3 := Lib.hid (Oz.flo_bd (Oz.pck_ok O.pk) (Z.lv j) (Z.ms k) (tas := Z.sp s) (by omega))
  clear O
  go_enter Try.func45, Try.ntmps45
  try simp only [List.append_eq, List.cons_append, List.nil_append]
  have G := (Blk.new w 27 #[.slice Y.ds Z.nd Y.dsc, .slice Y.lv Z.nl Y.lvc, .slice Y.sp Z.ns Y.spc, .slice Y.tl Z.nt Y.tlc, .slice Y.ms Z.nm Y.msc, .string Z.P.nm, .int .i64 Z.P.em, .int .i64 Z.P.fu, .slice Y.Q.al Z.P.na Y.Q.alc, .slice Y.Q.ma Z.P.nM Y.Q.mac, .slice Y.Q.tC Z.P.nC Y.Q.tCc, .slice Y.Q.tF Z.P.nF Y.Q.tFc, .slice Y.Q.tR Z.P.nR Y.Q.tRc, .slice Y.Q.dD Z.P.nD Y.Q.dDc, .slice Y.Q.dI Z.P.nI Y.Q.dIc, .slice Y.Q.dX Z.P.nX Y.Q.dXc, .slice Y.Q.dN Z.P.nN Y.Q.dNc, .int .i64 Z.P.rf, .int .i64 Z.P.xt, .int .i64 Z.P.ce, .int .i64 Z.ix, .int .i64 Z.cc, .int .i64 Z.fi, .int .i64 Z.la]).alloc (.cells #[.int .i64 (j : Int), .int .i64 (s : Int)] 35)
  have C := Blk.new1 w (.cells #[.slice Y.ds Z.nd Y.dsc, .slice Y.lv Z.nl Y.lvc, .slice Y.sp Z.ns Y.spc, .slice Y.tl Z.nt Y.tlc, .slice Y.ms Z.nm Y.msc, .string Z.P.nm, .int .i64 Z.P.em, .int .i64 Z.P.fu, .slice Y.Q.al Z.P.na Y.Q.alc, .slice Y.Q.ma Z.P.nM Y.Q.mac, .slice Y.Q.tC Z.P.nC Y.Q.tCc, .slice Y.Q.tF Z.P.nF Y.Q.tFc, .slice Y.Q.tR Z.P.nR Y.Q.tRc, .slice Y.Q.dD Z.P.nD Y.Q.dDc, .slice Y.Q.dI Z.P.nI Y.Q.dIc, .slice Y.Q.dX Z.P.nX Y.Q.dXc, .slice Y.Q.dN Z.P.nN Y.Q.dNc, .int .i64 Z.P.rf, .int .i64 Z.P.xt, .int .i64 Z.P.ce, .int .i64 Z.ix, .int .i64 Z.cc, .int .i64 Z.fi, .int .i64 Z.la] 27) 35 #[.int .i64 (j : Int), .int .i64 (s : Int)]
  have hB := bal (ba w (.cells #[.slice Y.ds Z.nd Y.dsc, .slice Y.lv Z.nl Y.lvc, .slice Y.sp Z.ns Y.spc, .slice Y.tl Z.nt Y.tlc, .slice Y.ms Z.nm Y.msc, .string Z.P.nm, .int .i64 Z.P.em, .int .i64 Z.P.fu, .slice Y.Q.al Z.P.na Y.Q.alc, .slice Y.Q.ma Z.P.nM Y.Q.mac, .slice Y.Q.tC Z.P.nC Y.Q.tCc, .slice Y.Q.tF Z.P.nF Y.Q.tFc, .slice Y.Q.tR Z.P.nR Y.Q.tRc, .slice Y.Q.dD Z.P.nD Y.Q.dDc, .slice Y.Q.dI Z.P.nI Y.Q.dIc, .slice Y.Q.dX Z.P.nX Y.Q.dXc, .slice Y.Q.dN Z.P.nN Y.Q.dNc, .int .i64 Z.P.rf, .int .i64 Z.P.xt, .int .i64 Z.P.ce, .int .i64 Z.ix, .int .i64 Z.cc, .int .i64 Z.fi, .int .i64 Z.la] 27)) (.cells #[.int .i64 (j : Int), .int .i64 (s : Int)] 35)
  go_upto_region 1 with fail
  generalize World.alloc (World.alloc w _) _ = w1 at G C hB ⊢
  replace H := H.keep hB
  obtain ⟨b1, f1, e1, l1, y1⟩ := H.ds.at1 hk
  obtain ⟨b2, f2, e2, l2, y2⟩ := H.lv.at1 hj
  obtain ⟨b3, f3, e3, l3, y3⟩ := H.sp.at1 hs
  obtain ⟨b4, f4, e4, l4, y4⟩ := H.ms.at1 hk2
  obtain ⟨b5, f5, X, cp, e5, l5, y5, RX⟩ := H.tl.at1 hk3
  rw [HLT.out] at y5 RX
  obtain ⟨b6, f6, e6, l6, y6⟩ := RX.at1 hj
  subst e6
  rw [e1, e2, e3, e4, e5] at G ⊢
  have i1 : (0 : Int) ≤ (k : Int) := by omega
  have i2 : (k : Int) < (Z.nd : Int) := by omega
  have i3 : (k : Int) < (Z.nm : Int) := by omega
  have i4 : (k : Int) < (Z.nt : Int) := by omega
  have j1 : (0 : Int) ≤ (j : Int) := by omega
  have j2 : (j : Int) < (Z.nl : Int) := by omega
  have m1 : (0 : Int) ≤ (s : Int) := by omega
  have m2 : (s : Int) < (Z.ns : Int) := by omega
  have H0 := H
  have HP := H.P
  clear H H0 RX e1 e2 e3 e4 e5 hk hk2 hk3 hj hs HLT hz
  obtain ⟨d0, d1, d2, d3, d4, d5, d6, d7, d8, d9, d10, d11, d12, d13, d14, d15, d16, d17, d18, d19, d20, d21, d22, d23, d24, d25⟩ := G.open24
  obtain ⟨c0, c1, c2, c3⟩ := C.open2
  go_wp2_with fail
  go_quiet (fail)
  have hB1 := bdnl hB ‹Nat›
  have G1 := G.drewN ‹Nat›
  have C1 := C.drewN ‹Nat›
  cases q : Oz.okc Z k j s
  · have E1 := Lib.hid (Oz.coE_f q).1
    have E2 := Lib.hid (Oz.coE_f q).2
    have q1 : Z.sp s + Z.tl k j < 1 := by have := of_decide_eq_false q; unfold Oz.gr at this; omega
    go_wp2_with fail
    go_returns
    refine ⟨?_, hB1⟩
    rw [E1.out, E2.out]; rfl
  have E1 := Lib.hid (Oz.coE_t q).1
  have E2 := Lib.hid (Oz.coE_t q).2
  have q1 : 1 ≤ Z.sp s + Z.tl k j := of_decide_eq_true q
  have q2 : ¬ Z.sp s + Z.tl k j < 1 := by omega
  obtain ⟨t1, t2⟩ := HB1.out q
  have hcs := HB2.out q
  unfold Oz.cs at hcs
  have HE : Hid (Oz.cs Z k j s = Oz.tk Z k j s * (Oz.flo Z.P (Z.lv j) (Z.ms k) (Z.sp s) + Z.ix)) := Lib.hid rfl
  replace E2 := Lib.hid (E2.out.trans HE.out)
  have TK : (Z.ds k + (Z.sp s + Z.tl k j) - 1) / (Z.sp s + Z.tl k j) = Oz.tk Z k j s := rfl
  have TQ : (Z.ds k + (Z.sp s + Z.tl k j) - 1).tdiv (Z.sp s + Z.tl k j) = Oz.tk Z k j s := by rw [Int.tdiv_eq_ediv_of_nonneg (by omega), TK]
  have q3 : ¬ Z.sp s + Z.tl k j = 0 := by omega
  have q4 : (Z.sp s + Z.tl k j == 0) = false := by simp; omega
  generalize Oz.tk Z k j s = tk at *
  have hf := HB3.out
  generalize Oz.flo Z.P (Z.lv j) (Z.ms k) (Z.sp s) = fl at *
  clear q HB1 HB2 HB3 HE
  go_upto_region 5 with fail
  clear d0 d1 d2 d3 d4 d5 d6 d7 d8 d9 d10 d11 d12 d13 d14 d15 d16 d17 d18 d19 d20 d21 d22 d23 d24 d25 c0 c1 c2 c3
  clear y3 y5 y6 TK
  replace y2 := ((bcell (bdn w1 ‹Nat›)).1 _ _ l2).trans y2
  replace y4 := ((bcell (bdn w1 ‹Nat›)).1 _ _ l4).trans y4
  replace y1 := ((bcell (bdn w1 ‹Nat›)).1 _ _ l1).trans y1
  replace l1 : b1 < (w1.drewN ‹Nat›).heap.size := l1
  replace l2 : b2 < (w1.drewN ‹Nat›).heap.size := l2
  replace l4 : b4 < (w1.drewN ‹Nat›).heap.size := l4
  replace HP := HP.keep (bdn _ ‹Nat›)
  generalize w1.drewN _ = W0 at *
  have KT2 : ∀ (wx : World) {Q' : Prop}, (Below W0.heap.size W0 wx ∧ Q') → Calls _ _ _ wx _ := fun wx _ h => KC.out wx (HP.keep h.1)
  have hreg : ∀ w', Below W0.heap.size W0 w' → Below W0.heap.size W0 w' ∧ w'.cell? ⟨w.heap.size, 1, none⟩ = some (.slice (some ⟨b2, f2, none⟩) Z.nl Y.lvc) ∧ w'.cell? ⟨w.heap.size, 4, none⟩ = some (.slice (some ⟨b4, f4, none⟩) Z.nm Y.msc) ∧ w'.cell? ⟨w.heap.size, 5, none⟩ = some (.string Z.P.nm) ∧ w'.cell? ⟨w.heap.size, 6, none⟩ = some (.int .i64 Z.P.em) ∧ w'.cell? ⟨w.heap.size, 7, none⟩ = some (.int .i64 Z.P.fu) ∧ w'.cell? ⟨w.heap.size, 8, none⟩ = some (.slice Y.Q.al Z.P.na Y.Q.alc) ∧ w'.cell? ⟨w.heap.size, 9, none⟩ = some (.slice Y.Q.ma Z.P.nM Y.Q.mac) ∧ w'.cell? ⟨w.heap.size, 10, none⟩ = some (.slice Y.Q.tC Z.P.nC Y.Q.tCc) ∧ w'.cell? ⟨w.heap.size, 11, none⟩ = some (.slice Y.Q.tF Z.P.nF Y.Q.tFc) ∧ w'.cell? ⟨w.heap.size, 12, none⟩ = some (.slice Y.Q.tR Z.P.nR Y.Q.tRc) ∧ w'.cell? ⟨w.heap.size, 13, none⟩ = some (.slice Y.Q.dD Z.P.nD Y.Q.dDc) ∧ w'.cell? ⟨w.heap.size, 14, none⟩ = some (.slice Y.Q.dI Z.P.nI Y.Q.dIc) ∧ w'.cell? ⟨w.heap.size, 15, none⟩ = some (.slice Y.Q.dX Z.P.nX Y.Q.dXc) ∧ w'.cell? ⟨w.heap.size, 16, none⟩ = some (.slice Y.Q.dN Z.P.nN Y.Q.dNc) ∧ w'.cell? ⟨w.heap.size, 17, none⟩ = some (.int .i64 Z.P.rf) ∧ w'.cell? ⟨w.heap.size, 18, none⟩ = some (.int .i64 Z.P.xt) ∧ w'.cell? ⟨w.heap.size, 19, none⟩ = some (.int .i64 Z.P.ce) ∧ w'.cell? ⟨w.heap.size + 1, 0, none⟩ = some (.int .i64 (j : Int)) ∧ w'.cell? ⟨b2, f2 + j, none⟩ = some (.int .i64 (Z.lv j)) ∧ w'.cell? ⟨b4, f4 + k, none⟩ = some (.int .i64 (Z.ms k)) := fun w' h => have g := G1.keep h; ⟨h, g.cell 1, g.cell 4, g.cell 5, g.cell 6, g.cell 7, g.cell 8, g.cell 9, g.cell 10, g.cell 11, g.cell 12, g.cell 13, g.cell 14, g.cell 15, g.cell 16, g.cell 17, g.cell 18, g.cell 19, (C1.keep h).cell 0, ((bcell h).1 _ _ l2).trans y2, ((bcell h).1 _ _ l4).trans y4⟩
  go_region_held3 (fun w' => Below W0.heap.size W0 w' ∧ w'.cell? ⟨w.heap.size, 1, none⟩ = some (.slice (some ⟨b2, f2, none⟩) Z.nl Y.lvc) ∧ w'.cell? ⟨w.heap.size, 4, none⟩ = some (.slice (some ⟨b4, f4, none⟩) Z.nm Y.msc) ∧ w'.cell? ⟨w.heap.size, 5, none⟩ = some (.string Z.P.nm) ∧ w'.cell? ⟨w.heap.size, 6, none⟩ = some (.int .i64 Z.P.em) ∧ w'.cell? ⟨w.heap.size, 7, none⟩ = some (.int .i64 Z.P.fu) ∧ w'.cell? ⟨w.heap.size, 8, none⟩ = some (.slice Y.Q.al Z.P.na Y.Q.alc) ∧ w'.cell? ⟨w.heap.size, 9, none⟩ = some (.slice Y.Q.ma Z.P.nM Y.Q.mac) ∧ w'.cell? ⟨w.heap.size, 10, none⟩ = some (.slice Y.Q.tC Z.P.nC Y.Q.tCc) ∧ w'.cell? ⟨w.heap.size, 11, none⟩ = some (.slice Y.Q.tF Z.P.nF Y.Q.tFc) ∧ w'.cell? ⟨w.heap.size, 12, none⟩ = some (.slice Y.Q.tR Z.P.nR Y.Q.tRc) ∧ w'.cell? ⟨w.heap.size, 13, none⟩ = some (.slice Y.Q.dD Z.P.nD Y.Q.dDc) ∧ w'.cell? ⟨w.heap.size, 14, none⟩ = some (.slice Y.Q.dI Z.P.nI Y.Q.dIc) ∧ w'.cell? ⟨w.heap.size, 15, none⟩ = some (.slice Y.Q.dX Z.P.nX Y.Q.dXc) ∧ w'.cell? ⟨w.heap.size, 16, none⟩ = some (.slice Y.Q.dN Z.P.nN Y.Q.dNc) ∧ w'.cell? ⟨w.heap.size, 17, none⟩ = some (.int .i64 Z.P.rf) ∧ w'.cell? ⟨w.heap.size, 18, none⟩ = some (.int .i64 Z.P.xt) ∧ w'.cell? ⟨w.heap.size, 19, none⟩ = some (.int .i64 Z.P.ce) ∧ w'.cell? ⟨w.heap.size + 1, 0, none⟩ = some (.int .i64 (j : Int)) ∧ w'.cell? ⟨b2, f2 + j, none⟩ = some (.int .i64 (Z.lv j)) ∧ w'.cell? ⟨b4, f4 + k, none⟩ = some (.int .i64 (Z.ms k))) (first | exact hreg _ (Below.refl _ _).drew | exact keepR hreg hbn (by assumption) | assumption) (first | (go_at_call 76; refine (KT2 _ (by assumption)).mono ?_; rintro e wn ⟨rfl, hbn⟩))
  all_goals
    have G2 := (G1.keep ‹Below W0.heap.size W0 wn ∧ _›.1)
    have hB3 := bt hB1 ‹Below W0.heap.size W0 wn ∧ _›.1
    replace y1 := ((bcell ‹Below W0.heap.size W0 wn ∧ _›.1).1 _ _ l1).trans y1
    obtain ⟨d0, d1, d2, d3, d4, d5, d6, d7, d8, d9, d10, d11, d12, d13, d14, d15, d16, d17, d18, d19, d20, d21, d22, d23, d24, d25⟩ := G2.open24
    go_wp2_with fail
    go_quiet (fail)
    go_wp2_with fail
    go_returns
    refine ⟨?_, bdnl hB3 ‹Nat›⟩
    rw [E1.out, E2.out]; rfl
end Go.Proofs.Ytoeklllahpegfaa
/-
  Contracts: the reference's Leg.
-/
namespace Go.Proofs.Ytoeklllahpegfaa
set_option linter.unusedVariables false
set_option linter.unusedSimpArgs false
open Go.RowKit
attribute [local irreducible] World.setCell World.cell?

theorem rcost_o_x (Z : ZD) (Y : ZA) {i a b : Int} (hz : Oz.zck Z = 0) (i0 : 0 ≤ i) (i1 : i < Z.nd) (a0 : 0 ≤ a) (a1 : a < Z.nl) (b0 : 0 ≤ b) (b1 : b < Z.ns) (w : World) (H : ZIn w Z Y) :
    Calls Try.prog 45 #[.agg #[.slice Y.ds Z.nd Y.dsc, .slice Y.lv Z.nl Y.lvc, .slice Y.sp Z.ns Y.spc, .slice Y.tl Z.nt Y.tlc, .slice Y.ms Z.nm Y.msc, .string Z.P.nm, .int .i64 Z.P.em, .int .i64 Z.P.fu, .slice Y.Q.al Z.P.na Y.Q.alc, .slice Y.Q.ma Z.P.nM Y.Q.mac, .slice Y.Q.tC Z.P.nC Y.Q.tCc, .slice Y.Q.tF Z.P.nF Y.Q.tFc, .slice Y.Q.tR Z.P.nR Y.Q.tRc, .slice Y.Q.dD Z.P.nD Y.Q.dDc, .slice Y.Q.dI Z.P.nI Y.Q.dIc, .slice Y.Q.dX Z.P.nX Y.Q.dXc, .slice Y.Q.dN Z.P.nN Y.Q.dNc, .int .i64 Z.P.rf, .int .i64 Z.P.xt, .int .i64 Z.P.ce, .int .i64 Z.ix, .int .i64 Z.cc, .int .i64 Z.fi, .int .i64 Z.la], .int .i64 i, .agg #[.int .i64 a, .int .i64 b]] w fun e w' => e = .returned (.tuple #[.int .i64 (Oz.coV Z i.toNat a.toNat b.toNat), .int .i64 (Oz.coE Z i.toNat a.toNat b.toNat)]) ∧ Below w.heap.size w w' := by
  have K := rcost_o Z Y i.toNat a.toNat b.toNat w H hz (by omega) (by omega) (by omega)
  rw [Int.toNat_of_nonneg i0, Int.toNat_of_nonneg a0, Int.toNat_of_nonneg b0] at K
  exact K
set_option maxRecDepth 100000 in
set_option maxHeartbeats 4000000 in
theorem rleg_o (Z : ZD) (Y : ZA) (i a b : Int) (w : World) (H : ZIn w Z Y) : Calls Try.prog 17 #[.agg #[.slice Y.ds Z.nd Y.dsc, .slice Y.lv Z.nl Y.lvc, .slice Y.sp Z.ns Y.spc, .slice Y.tl Z.nt Y.tlc, .slice Y.ms Z.nm Y.msc, .string Z.P.nm, .int .i64 Z.P.em, .int .i64 Z.P.fu, .slice Y.Q.al Z.P.na Y.Q.alc, .slice Y.Q.ma Z.P.nM Y.Q.mac, .slice Y.Q.tC Z.P.nC Y.Q.tCc, .slice Y.Q.tF Z.P.nF Y.Q.tFc, .slice Y.Q.tR Z.P.nR Y.Q.tRc, .slice Y.Q.dD Z.P.nD Y.Q.dDc, .slice Y.Q.dI Z.P.nI Y.Q.dIc, .slice Y.Q.dX Z.P.nX Y.Q.dXc, .slice Y.Q.dN Z.P.nN Y.Q.dNc, .int .i64 Z.P.rf, .int .i64 Z.P.xt, .int .i64 Z.P.ce, .int .i64 Z.ix, .int .i64 Z.cc, .int .i64 Z.fi, .int .i64 Z.la], .int .i64 i, .agg #[.int .i64 a, .int .i64 b]] w fun e w' => e = .returned (.tuple #[.int .i64 (Oz.lgV Z i a b), .int .i64 (Oz.lgE Z i a b)]) ∧ Below w.heap.size w w' := by
  obtain ⟨z, ez⟩ : ∃ z, Hid (Oz.zck Z = z) := ⟨_, rfl⟩
  have KCK := Lib.hid (fun wx (h : ZIn wx Z Y) => rcheck_z Z Y wx h)
  rw [ez.out] at KCK
  go_enter Try.func17, Try.ntmps17
  have G := (Blk.new w 27 #[.slice Y.ds Z.nd Y.dsc, .slice Y.lv Z.nl Y.lvc, .slice Y.sp Z.ns Y.spc, .slice Y.tl Z.nt Y.tlc, .slice Y.ms Z.nm Y.msc, .string Z.P.nm, .int .i64 Z.P.em, .int .i64 Z.P.fu, .slice Y.Q.al Z.P.na Y.Q.alc, .slice Y.Q.ma Z.P.nM Y.Q.mac, .slice Y.Q.tC Z.P.nC Y.Q.tCc, .slice Y.Q.tF Z.P.nF Y.Q.tFc, .slice Y.Q.tR Z.P.nR Y.Q.tRc, .slice Y.Q.dD Z.P.nD Y.Q.dDc, .slice Y.Q.dI Z.P.nI Y.Q.dIc, .slice Y.Q.dX Z.P.nX Y.Q.dXc, .slice Y.Q.dN Z.P.nN Y.Q.dNc, .int .i64 Z.P.rf, .int .i64 Z.P.xt, .int .i64 Z.P.ce, .int .i64 Z.ix, .int .i64 Z.cc, .int .i64 Z.fi, .int .i64 Z.la]).alloc (.cells #[.int .i64 a, .int .i64 b] 35)
  have C := Blk.new1 w (.cells #[.slice Y.ds Z.nd Y.dsc, .slice Y.lv Z.nl Y.lvc, .slice Y.sp Z.ns Y.spc, .slice Y.tl Z.nt Y.tlc, .slice Y.ms Z.nm Y.msc, .string Z.P.nm, .int .i64 Z.P.em, .int .i64 Z.P.fu, .slice Y.Q.al Z.P.na Y.Q.alc, .slice Y.Q.ma Z.P.nM Y.Q.mac, .slice Y.Q.tC Z.P.nC Y.Q.tCc, .slice Y.Q.tF Z.P.nF Y.Q.tFc, .slice Y.Q.tR Z.P.nR Y.Q.tRc, .slice Y.Q.dD Z.P.nD Y.Q.dDc, .slice Y.Q.dI Z.P.nI Y.Q.dIc, .slice Y.Q.dX Z.P.nX Y.Q.dXc, .slice Y.Q.dN Z.P.nN Y.Q.dNc, .int .i64 Z.P.rf, .int .i64 Z.P.xt, .int .i64 Z.P.ce, .int .i64 Z.ix, .int .i64 Z.cc, .int .i64 Z.fi, .int .i64 Z.la] 27) 35 #[.int .i64 a, .int .i64 b]
  have hB := bal (ba w (.cells #[.slice Y.ds Z.nd Y.dsc, .slice Y.lv Z.nl Y.lvc, .slice Y.sp Z.ns Y.spc, .slice Y.tl Z.nt Y.tlc, .slice Y.ms Z.nm Y.msc, .string Z.P.nm, .int .i64 Z.P.em, .int .i64 Z.P.fu, .slice Y.Q.al Z.P.na Y.Q.alc, .slice Y.Q.ma Z.P.nM Y.Q.mac, .slice Y.Q.tC Z.P.nC Y.Q.tCc, .slice Y.Q.tF Z.P.nF Y.Q.tFc, .slice Y.Q.tR Z.P.nR Y.Q.tRc, .slice Y.Q.dD Z.P.nD Y.Q.dDc, .slice Y.Q.dI Z.P.nI Y.Q.dIc, .slice Y.Q.dX Z.P.nX Y.Q.dXc, .slice Y.Q.dN Z.P.nN Y.Q.dNc, .int .i64 Z.P.rf, .int .i64 Z.P.xt, .int .i64 Z.P.ce, .int .i64 Z.ix, .int .i64 Z.cc, .int .i64 Z.fi, .int .i64 Z.la] 27)) (.cells #[.int .i64 a, .int .i64 b] 35)
  go_upto_region 1 with fail
  generalize World.alloc (World.alloc w _) _ = w1 at G C hB ⊢
  obtain ⟨d0, d1, d2, d20, d21, d22, d23, d24, d25⟩ := G.ow24
  go_wp2_with (with_reducible show wpList _ _ _ _ _ _; refine wpList_B _ rfl rfl rfl (by with_reducible assumption) ?_)
  refine (KCK.out _ (H.keep hB)).mono ?_
  rintro e w2 ⟨rfl, hb⟩
  clear d0 d1 d2 d20 d21 d22 d23 d24 d25
  replace hB := bt hB hb
  replace G := G.keep hb
  replace C := C.keep hb
  clear hb
  by_cases hz : z = 0
  rotate_left
  · have HE := Lib.hid ((Oz.lgE_z (i := i) (a := a) (b := b) (by rw [ez.out]; exact hz)).trans ez.out)
    have HV := Lib.hid (Oz.lgV_no (by rw [HE.out]; exact hz))
    have hz1 : (z != 0) = true := by simpa using hz
    clear hz
    go_wp2_with (with_reducible show wpList _ _ _ _ _ _; refine wpList_B _ rfl rfl rfl (by with_reducible assumption) ?_)
    go_returns
    refine ⟨?_, hB⟩
    rw [HE.out, HV.out]; rfl
  subst hz
  have HZ := ez
  have hz := ez.out
  obtain ⟨d0, d1, d2, d20, d21, d22, d23, d24, d25⟩ := G.ow24
  obtain ⟨c0, c1, c2, c3⟩ := C.open2
  by_cases q1 : 0 ≤ i
  rotate_left
  · have HE := Lib.hid (Oz.lgE_1 (i := i) (a := a) (b := b) hz (by unfold Oz.ixB; simp; omega))
    have HV := Lib.hid (Oz.lgV_no (by rw [HE.out]; omega))
    have q1' : i < 0 := by omega
    clear hz q1
    go_wp2_with (with_reducible show wpList _ _ _ _ _ _; refine wpList_B _ rfl rfl rfl (by with_reducible assumption) ?_)
    go_returns
    refine ⟨?_, hB⟩
    rw [HE.out, HV.out]; rfl
  by_cases q2 : i < (Z.nd : Int)
  rotate_left
  · have HE := Lib.hid (Oz.lgE_1 (i := i) (a := a) (b := b) hz (by unfold Oz.ixB; simp; omega))
    have HV := Lib.hid (Oz.lgV_no (by rw [HE.out]; omega))
    have q1' : ¬ i < 0 := by omega
    have q2' : (Z.nd : Int) ≤ i := by omega
    clear hz q1 q2
    go_wp2_with (with_reducible show wpList _ _ _ _ _ _; refine wpList_B _ rfl rfl rfl (by with_reducible assumption) ?_)
    go_returns
    refine ⟨?_, hB⟩
    rw [HE.out, HV.out]; rfl
  have q1' : ¬ i < 0 := by omega
  have q2' : ¬ (Z.nd : Int) ≤ i := by omega
  have q1d : decide (i < 0) = false := decide_eq_false q1'
  have q2d : decide ((Z.nd : Int) ≤ i) = false := decide_eq_false q2'
  have q1 : Oz.ixB i Z.nd = true := decide_eq_true ⟨q1, q2⟩
  clear hz q2
  go_wp2_with (with_reducible show wpList _ _ _ _ _ _; refine wpList_B _ rfl rfl rfl (by with_reducible assumption) ?_)
  refine (named_c _ _ _ _ _).mono ?_
  cases q3 : Oz.knB Z a b
  · have HE := Lib.hid (Oz.lgE_1 (i := i) (a := a) (b := b) HZ.out (by rw [q1, q3]; rfl))
    have HV := Lib.hid (Oz.lgV_no (by rw [HE.out]; omega))
    rintro e w3 ⟨rfl, hb⟩
    clear d0 d1 d2 d20 d21 d22 d23 d24 d25
    clear c0 c1 c2 c3
    go_wp2_with (with_reducible show wpList _ _ _ _ _ _; refine wpList_B _ rfl rfl rfl (by with_reducible assumption) ?_)
    go_returns
    refine ⟨?_, bt hB hb⟩
    rw [HE.out, HV.out]; rfl
  rintro e w3 ⟨rfl, hb⟩
  clear d0 d1 d2 d20 d21 d22 d23 d24 d25
  clear c0 c1 c2 c3
  replace hB := bt hB hb
  replace G := G.keep hb
  replace C := C.keep hb
  clear hb
  have HI := of_decide_eq_true q1
  obtain ⟨⟨k1, k2⟩, k3, k4⟩ := Oz.kn_iff.1 q3
  have KK := rcost_o_x Z Y HZ.out HI.1 HI.2 k1 k2 k3 k4
  have HE := Lib.hid (Oz.lgE_0 HZ.out q1 q3)
  have HV := Lib.hid (Oz.lgV_0 HZ.out q1 q3)
  obtain ⟨d0, d1, d2, d20, d21, d22, d23, d24, d25⟩ := G.ow24
  obtain ⟨c0, c1, c2, c3⟩ := C.open2
  go_wp2_with (with_reducible show wpList _ _ _ _ _ _; refine wpList_B _ rfl rfl rfl (by with_reducible assumption) ?_)
  refine (KK _ (H.keep hB)).mono ?_
  rintro e w4 ⟨rfl, hb⟩
  go_wp2_with (with_reducible show wpList _ _ _ _ _ _; refine wpList_B _ rfl rfl rfl (by with_reducible assumption) ?_)
  go_returns
  refine ⟨?_, bt hB hb⟩
  rw [HE.out, HV.out]; rfl
end Go.Proofs.Ytoeklllahpegfaa
/-
  Contracts: the reference's Cost.
-/
namespace Go.Proofs.Ytoeklllahpegfaa
set_option linter.unusedVariables false
set_option linter.unusedSimpArgs false
open Go.RowKit
attribute [local irreducible] World.setCell World.cell?

set_option maxRecDepth 100000 in
set_option maxHeartbeats 8000000 in
theorem rtotal_o (Z : ZD) (Y : ZA) (A : Option Addr) (l c : Nat) (N : Nat → Nat → Int) (w : World) (H : ZIn w Z Y) (U : Rd w 2 A l c (iv N)) : Calls Try.prog 15 #[.agg #[.slice Y.ds Z.nd Y.dsc, .slice Y.lv Z.nl Y.lvc, .slice Y.sp Z.ns Y.spc, .slice Y.tl Z.nt Y.tlc, .slice Y.ms Z.nm Y.msc, .string Z.P.nm, .int .i64 Z.P.em, .int .i64 Z.P.fu, .slice Y.Q.al Z.P.na Y.Q.alc, .slice Y.Q.ma Z.P.nM Y.Q.mac, .slice Y.Q.tC Z.P.nC Y.Q.tCc, .slice Y.Q.tF Z.P.nF Y.Q.tFc, .slice Y.Q.tR Z.P.nR Y.Q.tRc, .slice Y.Q.dD Z.P.nD Y.Q.dDc, .slice Y.Q.dI Z.P.nI Y.Q.dIc, .slice Y.Q.dX Z.P.nX Y.Q.dXc, .slice Y.Q.dN Z.P.nN Y.Q.dNc, .int .i64 Z.P.rf, .int .i64 Z.P.xt, .int .i64 Z.P.ce, .int .i64 Z.ix, .int .i64 Z.cc, .int .i64 Z.fi, .int .i64 Z.la], .slice A l c] w fun e w' => e = .returned (.tuple #[.int .i64 (Oz.qV Z l (fun p => N p 0) (fun p => N p 1)), .int .i64 (Oz.qE Z l (fun p => N p 0) (fun p => N p 1))]) ∧ Below w.heap.size w w' := by
  have r1 := U.le
  have r2 := U.mx
  obtain ⟨z, ez⟩ : ∃ z, Hid (Oz.zck Z = z) := ⟨_, rfl⟩
  have KCK := Lib.hid (fun wx (h : ZIn wx Z Y) => rcheck_z Z Y wx h)
  rw [ez.out] at KCK
  go_enter Try.func15, Try.ntmps15
  try simp only [List.append_eq, List.cons_append, List.nil_append]
  have G := Blk.new w 27 #[.slice Y.ds Z.nd Y.dsc, .slice Y.lv Z.nl Y.lvc, .slice Y.sp Z.ns Y.spc, .slice Y.tl Z.nt Y.tlc, .slice Y.ms Z.nm Y.msc, .string Z.P.nm, .int .i64 Z.P.em, .int .i64 Z.P.fu, .slice Y.Q.al Z.P.na Y.Q.alc, .slice Y.Q.ma Z.P.nM Y.Q.mac, .slice Y.Q.tC Z.P.nC Y.Q.tCc, .slice Y.Q.tF Z.P.nF Y.Q.tFc, .slice Y.Q.tR Z.P.nR Y.Q.tRc, .slice Y.Q.dD Z.P.nD Y.Q.dDc, .slice Y.Q.dI Z.P.nI Y.Q.dIc, .slice Y.Q.dX Z.P.nX Y.Q.dXc, .slice Y.Q.dN Z.P.nN Y.Q.dNc, .int .i64 Z.P.rf, .int .i64 Z.P.xt, .int .i64 Z.P.ce, .int .i64 Z.ix, .int .i64 Z.cc, .int .i64 Z.fi, .int .i64 Z.la]
  have hB := ba w (.cells #[.slice Y.ds Z.nd Y.dsc, .slice Y.lv Z.nl Y.lvc, .slice Y.sp Z.ns Y.spc, .slice Y.tl Z.nt Y.tlc, .slice Y.ms Z.nm Y.msc, .string Z.P.nm, .int .i64 Z.P.em, .int .i64 Z.P.fu, .slice Y.Q.al Z.P.na Y.Q.alc, .slice Y.Q.ma Z.P.nM Y.Q.mac, .slice Y.Q.tC Z.P.nC Y.Q.tCc, .slice Y.Q.tF Z.P.nF Y.Q.tFc, .slice Y.Q.tR Z.P.nR Y.Q.tRc, .slice Y.Q.dD Z.P.nD Y.Q.dDc, .slice Y.Q.dI Z.P.nI Y.Q.dIc, .slice Y.Q.dX Z.P.nX Y.Q.dXc, .slice Y.Q.dN Z.P.nN Y.Q.dNc, .int .i64 Z.P.rf, .int .i64 Z.P.xt, .int .i64 Z.P.ce, .int .i64 Z.ix, .int .i64 Z.cc, .int .i64 Z.fi, .int .i64 Z.la] 27)
  go_upto_region 1 with fail
  generalize World.alloc w _ = w1 at G hB ⊢
  obtain ⟨d0, d1, d2, d20, d21, d22, d23, d24, d25⟩ := G.ow24
  go_wp2_with (with_reducible show wpList _ _ _ _ _ _; refine wpList_B _ rfl rfl rfl (by with_reducible assumption) ?_)
  refine (KCK.out _ (H.keep hB)).mono ?_
  rintro e w2 ⟨rfl, hb⟩
  clear d0 d1 d2 d20 d21 d22 d23 d24 d25
  replace hB := bt hB hb
  replace G := G.keep hb
  clear hb
  by_cases hz : z = 0
  rotate_left
  · have HE := Lib.hid ((Oz.qE_z (l := l) (L := fun p => N p 0) (S := fun p => N p 1) (by rw [ez.out]; exact hz)).trans ez.out)
    have HV := Lib.hid (Oz.qV_no (by rw [HE.out]; exact hz))
    have hz1 : (z != 0) = true := by simpa using hz
    clear hz
    go_wp2_with (with_reducible show wpList _ _ _ _ _ _; refine wpList_B _ rfl rfl rfl (by with_reducible assumption) ?_)
    go_returns
    refine ⟨?_, hB⟩
    rw [HE.out, HV.out]; rfl
  subst hz
  have HZ := ez
  have O := Oz.zck_ok ez.out
  have n1 := O.nd2
  have n2 := O.nl2
  have n3 := O.fi
  have n4 := O.la
  have n5 := O.cc
  obtain ⟨d0, d1, d2, d20, d21, d22, d23, d24, d25⟩ := G.ow24
  by_cases hl : l = Z.nd
  rotate_left
  · have HE := Lib.hid (Oz.qE_l (L := fun p => N p 0) (S := fun p => N p 1) HZ.out hl)
    have HV := Lib.hid (Oz.qV_no (by rw [HE.out]; omega))
    have h3 : ((l : Int) != (Z.nd : Int)) = true := by simp; omega
    clear hl
    go_wp2_with (with_reducible show wpList _ _ _ _ _ _; refine wpList_B _ rfl rfl rfl (by with_reducible assumption) ?_)
    go_returns
    refine ⟨?_, hB⟩
    rw [HE.out, HV.out]; rfl
  subst hl
  go_wp2_with fail
  go_quiet (fail)
  have hB0 := bdnl hB ‹Nat›
  replace G := G.drewN ‹Nat›
  replace hB := hB0
  clear hB0
  go_wp2_with (with_reducible show wpList _ _ _ _ _ _; refine wpList_B _ rfl rfl rfl (by with_reducible assumption) ?_)
  clear d0 d1 d2 d20 d21 d22 d23 d24 d25
  go_loopw [7, 8, 28] (fun x7 x8 i wr => ∃ (k : Nat) (a m : Int), k ≤ Z.nd ∧ i = .int .i64 k ∧ x8 = .int .i64 a ∧ x7 = .int .i64 m ∧ Hid (a = Oz.atL Z (fun p => N p 0) k) ∧ Hid (m = Oz.cSm Z (fun p => N p 0) (fun p => N p 1) k) ∧ Hid (Oz.eFi Z (fun p => N p 0) (fun p => N p 1) k = 0) ∧ (0 ≤ a ∧ a < Z.nl) ∧ Blk wr w.heap.size 27 #[.slice Y.ds Z.nd Y.dsc, .slice Y.lv Z.nl Y.lvc, .slice Y.sp Z.ns Y.spc, .slice Y.tl Z.nt Y.tlc, .slice Y.ms Z.nm Y.msc, .string Z.P.nm, .int .i64 Z.P.em, .int .i64 Z.P.fu, .slice Y.Q.al Z.P.na Y.Q.alc, .slice Y.Q.ma Z.P.nM Y.Q.mac, .slice Y.Q.tC Z.P.nC Y.Q.tCc, .slice Y.Q.tF Z.P.nF Y.Q.tFc, .slice Y.Q.tR Z.P.nR Y.Q.tRc, .slice Y.Q.dD Z.P.nD Y.Q.dDc, .slice Y.Q.dI Z.P.nI Y.Q.dIc, .slice Y.Q.dX Z.P.nX Y.Q.dXc, .slice Y.Q.dN Z.P.nN Y.Q.dNc, .int .i64 Z.P.rf, .int .i64 Z.P.xt, .int .i64 Z.P.ce, .int .i64 Z.ix, .int .i64 Z.cc, .int .i64 Z.fi, .int .i64 Z.la] ∧ Below w.heap.size w wr) (fun _ _ i _ => Z.nd - (intOf i).toNat)
  case atStart => exact ⟨0, Z.fi, 0, Nat.zero_le _, rfl, rfl, rfl, Lib.hid rfl, Lib.hid rfl, Lib.hid rfl, n3, G, hB⟩
  case round =>
    clear G hB
    obtain ⟨k, a, m, hk, rfl, rfl, rfl, ha, hm, hf, ab, G, hB⟩ := hrel
    have mb := Oz.cSm_bd O hk hf.out
    rw [← hm.out] at mb
    by_cases hlt : k < Z.nd
    · obtain ⟨b, off, eA, hbl, u0, u1⟩ := (U.keep hB).at2 hlt
      have HA := Lib.hid eA
      rw [HA.out]
      clear eA
      obtain ⟨d0, d1, d2, d20, d21, d22, d23, d24, d25⟩ := G.ow24
      cases q : Oz.knB Z (N k 0) (N k 1)
      · have e1 : Oz.eLg Z (fun p => N p 0) (fun p => N p 1) k = 1 := by unfold Oz.eLg; rw [q]; rfl
        have HE := Lib.hid ((Oz.qE_p HZ.out hlt hf.out (by omega)).trans e1)
        have HV := Lib.hid (Oz.qV_no (by rw [HE.out]; omega))
        clear e1
        have GA := G.alloc (.cells #[.int .i64 (N k 0), .int .i64 (N k 1)] 35)
        go_wp2_with (with_reducible show wpList _ _ _ _ _ _; refine wpList_B _ rfl rfl rfl (by with_reducible assumption) ?_)
        replace hB := bal hB (.cells #[.int .i64 (N k 0), .int .i64 (N k 1)] 35)
        refine (named_c _ _ _ _ _).mono ?_
        rw [q]
        rintro e w3 ⟨rfl, hb⟩
        go_wp2_with (with_reducible show wpList _ _ _ _ _ _; refine wpList_B _ rfl rfl rfl (by with_reducible assumption) ?_)
        go_returns
        refine ⟨?_, bt hB hb⟩
        rw [HE.out, HV.out]; rfl
      obtain ⟨⟨k1, k2⟩, k3, k4⟩ := Oz.kn_iff.1 q
      have EL : Hid (Oz.eLg Z (fun p => N p 0) (fun p => N p 1) k = if 1 < Oz.dfW a (N k 0) then 9 else Oz.coE Z k (N k 0).toNat (N k 1).toNat) := Lib.hid (by unfold Oz.eLg; rw [if_pos q, ← ha.out])
      have CL : Hid (Oz.cLg Z (fun p => N p 0) (fun p => N p 1) k = Oz.cs Z k (N k 0).toNat (N k 1).toNat + Z.cc * Oz.dfW a (N k 0)) := Lib.hid (by unfold Oz.cLg; rw [← ha.out])
      have KK := Lib.hid (fun (wx : World) (h : ZIn wx Z Y) => rcost_o_x Z Y HZ.out (by omega : (0 : Int) ≤ (k : Int)) (by omega) k1 k2 k3 k4 wx h)
      rw [Int.toNat_natCast] at KK
      have q' := Lib.hid q
      have KB := Lib.hid (fun h => Oz.cs_bd (j := (N k 0).toNat) (s := (N k 1).toNat) O hlt (by omega) h)
      have KD := Oz.dfW_nn a (N k 0)
      have HS1 := Lib.hid (fun h : Oz.eLg Z (fun p => N p 0) (fun p => N p 1) k = 0 => Oz.eFi_next hf.out h)
      have HS2 := Lib.hid (fun h : Oz.eLg Z (fun p => N p 0) (fun p => N p 1) k ≠ 0 => Oz.qE_p HZ.out hlt hf.out h)
      have HS3 : Hid (Oz.cSm Z (fun p => N p 0) (fun p => N p 1) (k + 1) = m + Oz.cLg Z (fun p => N p 0) (fun p => N p 1) k) := Lib.hid (by rw [Oz.cSm, hm.out])
      have HT : Hid (N k 0 = Oz.atL Z (fun p => N p 0) (k + 1)) := Lib.hid rfl
      clear q
      have C := Blk.new wr 35 #[.int .i64 (N k 0), .int .i64 (N k 1)]
      have GA := G.alloc (.cells #[.int .i64 (N k 0), .int .i64 (N k 1)] 35)
      go_wp2_with (with_reducible show wpList _ _ _ _ _ _; refine wpList_B _ rfl rfl rfl (by with_reducible assumption) ?_)
      refine (named_c _ _ _ _ _).mono ?_
      rw [q'.out]
      rintro e w3 ⟨rfl, hb⟩
      clear d0 d1 d2 d20 d21 d22 d23 d24 d25
      replace G := GA.keep hb
      clear GA
      replace hB := bt (bal hB (.cells #[.int .i64 (N k 0), .int .i64 (N k 1)] 35)) hb
      replace C := C.keep hb
      clear hb
      have KH := gap_c a (N k 0) w3 (by omega) (by omega)
      have KQ := Lib.hid (fun n => gap_c a (N k 0) (World.drewN w3 n) (by omega) (by omega))
      obtain ⟨c0, c1, c2, c3⟩ := C.open2
      go_wp2_with (with_reducible show wpList _ _ _ _ _ _; refine wpList_B _ rfl rfl rfl (by with_reducible assumption) ?_)
      refine KH.mono ?_
      rintro e w_ ⟨rfl, rfl⟩
      clear KH
      by_cases h9 : 1 < Oz.dfW a (N k 0)
      · have e1 := EL.out
        rw [if_pos h9] at e1
        have HE := Lib.hid ((HS2.out (by omega)).trans e1)
        have HV := Lib.hid (Oz.qV_no (by rw [HE.out]; omega))
        clear e1
        go_wp2_with (with_reducible show wpList _ _ _ _ _ _; refine wpList_B _ rfl rfl rfl (by with_reducible assumption) ?_)
        go_returns
        refine ⟨?_, hB⟩
        rw [HE.out, HV.out]; rfl
      have e1 := EL.out
      rw [if_neg h9] at e1
      have E1 := Lib.hid e1
      clear e1 EL
      obtain ⟨d0, d1, d2, d20, d21, d22, d23, d24, d25⟩ := G.ow24
      go_wp2_with (with_reducible show wpList _ _ _ _ _ _; refine wpList_B _ rfl rfl rfl (by with_reducible assumption) ?_)
      refine (KK.out _ (H.keep hB)).mono ?_
      rintro e w4 ⟨rfl, hb⟩
      clear d0 d1 d2 d20 d21 d22 d23 d24 d25
      clear c0 c1 c2 c3
      replace hB := bt hB hb
      replace G := G.keep hb
      replace C := C.keep hb
      clear hb KK KQ
      have KQ := Lib.hid (fun n => gap_c a (N k 0) (World.drewN w4 n) (by omega) (by omega))
      cases qo : Oz.okc Z k (N k 0).toNat (N k 1).toNat
      · have e1 := E1.out
        rw [(Oz.coE_f qo).1] at e1
        have HE := Lib.hid ((HS2.out (by omega)).trans e1)
        have HV := Lib.hid (Oz.qV_no (by rw [HE.out]; omega))
        have e2 := Lib.hid (Oz.coE_f qo).1
        rw [e2.out]
        clear e1
        go_wp2_with (with_reducible show wpList _ _ _ _ _ _; refine wpList_B _ rfl rfl rfl (by with_reducible assumption) ?_)
        go_returns
        refine ⟨?_, hB⟩
        rw [HE.out, HV.out]; rfl
      have e1 := E1.out
      rw [(Oz.coE_t qo).1] at e1
      have HN := Lib.hid (HS1.out e1)
      have e2 := Lib.hid (Oz.coE_t qo).1
      have e3 := Lib.hid (Oz.coE_t qo).2
      rw [e2.out, e3.out]
      have kb := KB.out qo
      have HSM := Lib.hid (HS3.out.trans (by rw [CL.out]))
      have pb := Oz.cc_le O KD (show Oz.dfW a (N k 0) ≤ 1 by omega)
      clear e1 qo KB E1 HS1 HS2 HS3 CL
      generalize Oz.cs Z k (N k 0).toNat (N k 1).toNat = x at *
      generalize hd : Oz.dfW a (N k 0) = d at *
      have HD := Lib.hid hd
      clear hd
      obtain ⟨x0, x1⟩ := kb
      obtain ⟨m0, m1⟩ := mb
      obtain ⟨p0, p1⟩ := pb
      obtain ⟨d0, d1, d2, d20, d21, d22, d23, d24, d25⟩ := G.ow24
      obtain ⟨c0, c1, c2, c3⟩ := C.open2
      go_wp2_with (with_reducible show wpList _ _ _ _ _ _; refine wpList_B _ rfl rfl rfl (by with_reducible assumption) ?_)
      go_quiet ((go_at_call 44; exact quiet_left' (KQ.out _)))
      have hB1 := bdnl hB ‹Nat›
      have G1 := G.drewN ‹Nat›
      go_wp2_with (with_reducible show wpList _ _ _ _ _ _; refine wpList_B _ rfl rfl rfl (by with_reducible assumption) ?_)
      go_roundw
      case rel => exact ⟨k + 1, _, _, by omega, by go_num, rfl, rfl, HT, Lib.hid (by rw [HSM.out] <;> omega), HN, ⟨k1, k2⟩, G1, hB1⟩
      case measure => simp [intOf]; omega
    · obtain rfl : k = Z.nd := by omega
      clear hlt
      have KH := gap_c a Z.la wr (by omega) (by omega)
      have KD := Oz.dfW_nn a Z.la
      obtain ⟨d0, d1, d2, d20, d21, d22, d23, d24, d25⟩ := G.ow24
      go_wp2_with (with_reducible show wpList _ _ _ _ _ _; refine wpList_B _ rfl rfl rfl (by with_reducible assumption) ?_)
      refine KH.mono ?_
      rintro e w_ ⟨rfl, rfl⟩
      clear KH
      have HS4 : Hid (Oz.dfW (Oz.atL Z (fun p => N p 0) Z.nd) Z.la = Oz.dfW a Z.la) := Lib.hid (by rw [ha.out])
      by_cases h9 : 1 < Oz.dfW a Z.la
      · have HE := Lib.hid (Oz.qE_9 HZ.out hf.out (by rw [HS4.out]; exact h9))
        have HV := Lib.hid (Oz.qV_no (by rw [HE.out]; omega))
        go_wp2_with (with_reducible show wpList _ _ _ _ _ _; refine wpList_B _ rfl rfl rfl (by with_reducible assumption) ?_)
        go_returns
        refine ⟨?_, hB⟩
        rw [HE.out, HV.out]; rfl
      have HE := Lib.hid (Oz.qE_0 HZ.out hf.out (by rw [HS4.out]; exact h9))
      have HV := Lib.hid (Oz.qV_yes HE.out)
      have HV2 := Lib.hid (HV.out.trans (by rw [HS4.out, ← hm.out]))
      have KQ := Lib.hid (fun n => gap_c a Z.la (World.drewN wr n) (by omega) (by omega))
      have pb := Oz.cc_le O KD (show Oz.dfW a Z.la ≤ 1 by omega)
      clear HV HS4 hm ha
      generalize hd : Oz.dfW a Z.la = d at *
      have HD := Lib.hid hd
      clear hd
      obtain ⟨m0, m1⟩ := mb
      obtain ⟨p0, p1⟩ := pb
      go_wp2_with (with_reducible show wpList _ _ _ _ _ _; refine wpList_B _ rfl rfl rfl (by with_reducible assumption) ?_)
      go_quiet ((go_at_call 44; exact quiet_left' (KQ.out _)))
      have hB1 := bdnl hB ‹Nat›
      go_wp2_with (with_reducible show wpList _ _ _ _ _ _; refine wpList_B _ rfl rfl rfl (by with_reducible assumption) ?_)
      go_returns
      refine ⟨?_, hB1⟩
      rw [HE.out, HV2.out]; first | rfl | skip
end Go.Proofs.Ytoeklllahpegfaa
/-
  The walk of OptimizeCosts.
-/
namespace Go.Proofs.Ytoeklllahpegfaa
set_option linter.unusedVariables false
set_option linter.unusedSimpArgs false
open Go.RowKit
attribute [local irreducible] World.setCell World.cell?

theorem wp_B {op : Oper} {a : Act} {w : World} {K : Act → World → Prop} {Q : Exit → Act → World → Prop} (x : Operand) (ho : op.op = .load 27 x) {g : Nat} {t : TypeId} {a0 a1 a2 a3 a4 a5 a6 a7 a8 a9 a10 a11 a12 a13 a14 a15 a16 a17 a18 a19 a20 a21 a22 a23 : Value}
    (hx : a.eval x = .pointer (some ⟨g, 0, none⟩)) (G : Blk w g t #[a0, a1, a2, a3, a4, a5, a6, a7, a8, a9, a10, a11, a12, a13, a14, a15, a16, a17, a18, a19, a20, a21, a22, a23]) (h : K (a.put op.dst (.agg #[a0, a1, a2, a3, a4, a5, a6, a7, a8, a9, a10, a11, a12, a13, a14, a15, a16, a17, a18, a19, a20, a21, a22, a23])) w) : Oper.wp Try.prog op a w K Q := by
  unfold Oper.wp execOp
  simp only [ho, hx, run_B G, Sem.run_bind, Sem.run_pure, Result.andThen_ok]
  exact h
set_option maxRecDepth 100000 in
set_option maxHeartbeats 8000000 in
theorem law_costs (Z : ZD) (Y : ZA) (B : Option Addr) (l d : Nat) (N : Nat → Nat → Int) (q : Int) (w : World) (H : ZIn w Z Y) (U : Rd w 2 B l d (iv N)) : Calls Try.prog 3 #[.agg #[.slice Y.ds Z.nd Y.dsc, .slice Y.lv Z.nl Y.lvc, .slice Y.sp Z.ns Y.spc, .slice Y.tl Z.nt Y.tlc, .slice Y.ms Z.nm Y.msc, .string Z.P.nm, .int .i64 Z.P.em, .int .i64 Z.P.fu, .slice Y.Q.al Z.P.na Y.Q.alc, .slice Y.Q.ma Z.P.nM Y.Q.mac, .slice Y.Q.tC Z.P.nC Y.Q.tCc, .slice Y.Q.tF Z.P.nF Y.Q.tFc, .slice Y.Q.tR Z.P.nR Y.Q.tRc, .slice Y.Q.dD Z.P.nD Y.Q.dDc, .slice Y.Q.dI Z.P.nI Y.Q.dIc, .slice Y.Q.dX Z.P.nX Y.Q.dXc, .slice Y.Q.dN Z.P.nN Y.Q.dNc, .int .i64 Z.P.rf, .int .i64 Z.P.xt, .int .i64 Z.P.ce, .int .i64 Z.ix, .int .i64 Z.cc, .int .i64 Z.fi, .int .i64 Z.la], .slice B l d, .int .i64 q] w fun e w' => e = .returned (.bool true) ∧ Below w.heap.size w w' := by
  have r1 := U.le
  have r2 := U.mx
  obtain ⟨z, ez⟩ : ∃ z, Hid (Oz.zck Z = z) := ⟨_, rfl⟩
  have KC := Lib.hid (fun wx (h : ZIn wx Z Y) => ocheck_c Z Y wx h)
  have KR := Lib.hid (fun wx (h : ZIn wx Z Y) => rcheck_z Z Y wx h)
  rw [ez.out] at KC KR
  obtain ⟨qe, hqe⟩ : ∃ qe, Hid (Oz.qE Z l (fun p => N p 0) (fun p => N p 1) = qe) := ⟨_, Lib.hid rfl⟩
  obtain ⟨qv, hqv⟩ : ∃ qv, Hid (Oz.qV Z l (fun p => N p 0) (fun p => N p 1) = qv) := ⟨_, Lib.hid rfl⟩
  have KT := Lib.hid (fun wx (h : ZIn wx Z Y) (u : Rd wx 2 B l d (iv N)) => total_o Z Y B l d N wx h u)
  have KU := Lib.hid (fun wx (h : ZIn wx Z Y) (u : Rd wx 2 B l d (iv N)) => rtotal_o Z Y B l d N wx h u)
  rw [hqe.out, hqv.out] at KT KU
  go_enter Try.func3, Try.ntmps3
  try simp only [List.append_eq, List.cons_append, List.nil_append]
  have PB := Blk.new w 27 #[.slice Y.ds Z.nd Y.dsc, .slice Y.lv Z.nl Y.lvc, .slice Y.sp Z.ns Y.spc, .slice Y.tl Z.nt Y.tlc, .slice Y.ms Z.nm Y.msc, .string Z.P.nm, .int .i64 Z.P.em, .int .i64 Z.P.fu, .slice Y.Q.al Z.P.na Y.Q.alc, .slice Y.Q.ma Z.P.nM Y.Q.mac, .slice Y.Q.tC Z.P.nC Y.Q.tCc, .slice Y.Q.tF Z.P.nF Y.Q.tFc, .slice Y.Q.tR Z.P.nR Y.Q.tRc, .slice Y.Q.dD Z.P.nD Y.Q.dDc, .slice Y.Q.dI Z.P.nI Y.Q.dIc, .slice Y.Q.dX Z.P.nX Y.Q.dXc, .slice Y.Q.dN Z.P.nN Y.Q.dNc, .int .i64 Z.P.rf, .int .i64 Z.P.xt, .int .i64 Z.P.ce, .int .i64 Z.ix, .int .i64 Z.cc, .int .i64 Z.fi, .int .i64 Z.la]
  have hB := ba w (.cells #[.slice Y.ds Z.nd Y.dsc, .slice Y.lv Z.nl Y.lvc, .slice Y.sp Z.ns Y.spc, .slice Y.tl Z.nt Y.tlc, .slice Y.ms Z.nm Y.msc, .string Z.P.nm, .int .i64 Z.P.em, .int .i64 Z.P.fu, .slice Y.Q.al Z.P.na Y.Q.alc, .slice Y.Q.ma Z.P.nM Y.Q.mac, .slice Y.Q.tC Z.P.nC Y.Q.tCc, .slice Y.Q.tF Z.P.nF Y.Q.tFc, .slice Y.Q.tR Z.P.nR Y.Q.tRc, .slice Y.Q.dD Z.P.nD Y.Q.dDc, .slice Y.Q.dI Z.P.nI Y.Q.dIc, .slice Y.Q.dX Z.P.nX Y.Q.dXc, .slice Y.Q.dN Z.P.nN Y.Q.dNc, .int .i64 Z.P.rf, .int .i64 Z.P.xt, .int .i64 Z.P.ce, .int .i64 Z.ix, .int .i64 Z.cc, .int .i64 Z.fi, .int .i64 Z.la] 27)
  go_upto_region 1 with fail
  generalize World.alloc w _ = w1 at PB hB ⊢
  go_cut [20] (fun s20 wx => s20 = .bool false ∧ Below w1.heap.size w1 wx)
  case first =>
    have e1 := Lib.hid (show (z != z) = false by simp)
    refine wp_region_inv (fun L x G wx => Below w1.heap.size w1 wx ∧ Blk wx w.heap.size 27 #[.slice Y.ds Z.nd Y.dsc, .slice Y.lv Z.nl Y.lvc, .slice Y.sp Z.ns Y.spc, .slice Y.tl Z.nt Y.tlc, .slice Y.ms Z.nm Y.msc, .string Z.P.nm, .int .i64 Z.P.em, .int .i64 Z.P.fu, .slice Y.Q.al Z.P.na Y.Q.alc, .slice Y.Q.ma Z.P.nM Y.Q.mac, .slice Y.Q.tC Z.P.nC Y.Q.tCc, .slice Y.Q.tF Z.P.nF Y.Q.tFc, .slice Y.Q.tR Z.P.nR Y.Q.tRc, .slice Y.Q.dD Z.P.nD Y.Q.dDc, .slice Y.Q.dI Z.P.nI Y.Q.dIc, .slice Y.Q.dX Z.P.nX Y.Q.dXc, .slice Y.Q.dN Z.P.nN Y.Q.dNc, .int .i64 Z.P.rf, .int .i64 Z.P.xt, .int .i64 Z.P.ce, .int .i64 Z.ix, .int .i64 Z.cc, .int .i64 Z.fi, .int .i64 Z.la] ∧ (L 0 → x 12 = .bool true) ∧ (L 1 → x 13 = .bool false) ∧ (L 2 → x 14 = .bool false) ∧ (L 3 → x 15 = .agg #[.slice Y.ds Z.nd Y.dsc, .slice Y.lv Z.nl Y.lvc, .slice Y.sp Z.ns Y.spc, .slice Y.tl Z.nt Y.tlc, .slice Y.ms Z.nm Y.msc, .string Z.P.nm, .int .i64 Z.P.em, .int .i64 Z.P.fu, .slice Y.Q.al Z.P.na Y.Q.alc, .slice Y.Q.ma Z.P.nM Y.Q.mac, .slice Y.Q.tC Z.P.nC Y.Q.tCc, .slice Y.Q.tF Z.P.nF Y.Q.tFc, .slice Y.Q.tR Z.P.nR Y.Q.tRc, .slice Y.Q.dD Z.P.nD Y.Q.dDc, .slice Y.Q.dI Z.P.nI Y.Q.dIc, .slice Y.Q.dX Z.P.nX Y.Q.dXc, .slice Y.Q.dN Z.P.nN Y.Q.dNc, .int .i64 Z.P.rf, .int .i64 Z.P.xt, .int .i64 Z.P.ce, .int .i64 Z.ix, .int .i64 Z.cc, .int .i64 Z.fi, .int .i64 Z.la]) ∧ (L 4 → x 16 = .int .i64 z) ∧ (L 5 → x 17 = .agg #[.slice Y.ds Z.nd Y.dsc, .slice Y.lv Z.nl Y.lvc, .slice Y.sp Z.ns Y.spc, .slice Y.tl Z.nt Y.tlc, .slice Y.ms Z.nm Y.msc, .string Z.P.nm, .int .i64 Z.P.em, .int .i64 Z.P.fu, .slice Y.Q.al Z.P.na Y.Q.alc, .slice Y.Q.ma Z.P.nM Y.Q.mac, .slice Y.Q.tC Z.P.nC Y.Q.tCc, .slice Y.Q.tF Z.P.nF Y.Q.tFc, .slice Y.Q.tR Z.P.nR Y.Q.tRc, .slice Y.Q.dD Z.P.nD Y.Q.dDc, .slice Y.Q.dI Z.P.nI Y.Q.dIc, .slice Y.Q.dX Z.P.nX Y.Q.dXc, .slice Y.Q.dN Z.P.nN Y.Q.dNc, .int .i64 Z.P.rf, .int .i64 Z.P.xt, .int .i64 Z.P.ce, .int .i64 Z.ix, .int .i64 Z.cc, .int .i64 Z.fi, .int .i64 Z.la]) ∧ (L 6 → x 18 = .int .i64 z) ∧ (L 7 → x 19 = .bool false) ∧ (L 8 → x 20 = .bool false)) [12, 13, 14, 15, 16, 17, 18, 19, 20] 9 (by kernel_rfl) (by kernel_rfl) (by kernel_rfl) ?h0 ?st ?fin
    case h0 => exact ⟨bdr (Below.refl _ _), PB.drew, fun q => q.elim, fun q => q.elim, fun q => q.elim, fun q => q.elim, fun q => q.elim, fun q => q.elim, fun q => q.elim, fun q => q.elim, fun q => q.elim⟩
    case st =>
      refine StepsOk.cons (i := 0) rfl (fun L x G wx K Q hn hp hJ hK => ?_) ?_
      · skip
        simp only [putAll, Act.put, List.setIfInBounds_toArray, List.set_cons_zero, List.set_cons_succ]
        go_simp
        refine (awake_c _).mono ?_
        rintro e w2 ⟨rfl, hb⟩
        try go_simp
        refine hK _ G _ (by kernel_rfl) ?_
        exact ⟨bt hJ.1 hb, Blk.keep hJ.2.1 hb, fun _ => rfl, fun q => (hJ.2.2.2.1) (q.resolve_left (by decide)), fun q => (hJ.2.2.2.2.1) (q.resolve_left (by decide)), fun q => (hJ.2.2.2.2.2.1) (q.resolve_left (by decide)), fun q => (hJ.2.2.2.2.2.2.1) (q.resolve_left (by decide)), fun q => (hJ.2.2.2.2.2.2.2.1) (q.resolve_left (by decide)), fun q => (hJ.2.2.2.2.2.2.2.2.1) (q.resolve_left (by decide)), fun q => (hJ.2.2.2.2.2.2.2.2.2.1) (q.resolve_left (by decide)), fun q => (hJ.2.2.2.2.2.2.2.2.2.2) (q.resolve_left (by decide))⟩
      refine StepsOk.cons (i := 1) rfl (fun L x G wx K Q hn hp hJ hK => ?_) ?_
      · skip
        have p0 : L 0 := hp ⟨0, .data⟩ (by simp) rfl
        have e0 := (hJ.2.2.1) p0
        simp only [putAll, Act.put, List.setIfInBounds_toArray, List.set_cons_zero, List.set_cons_succ]
        go_simp
        refine hK _ G _ (by kernel_rfl) ?_
        exact ⟨hJ.1, hJ.2.1, fun _ => by first | exact rfl | exact e0, fun _ => rfl, fun q => (hJ.2.2.2.2.1) (q.resolve_left (by decide)), fun q => (hJ.2.2.2.2.2.1) (q.resolve_left (by decide)), fun q => (hJ.2.2.2.2.2.2.1) (q.resolve_left (by decide)), fun q => (hJ.2.2.2.2.2.2.2.1) (q.resolve_left (by decide)), fun q => (hJ.2.2.2.2.2.2.2.2.1) (q.resolve_left (by decide)), fun q => (hJ.2.2.2.2.2.2.2.2.2.1) (q.resolve_left (by decide)), fun q => (hJ.2.2.2.2.2.2.2.2.2.2) (q.resolve_left (by decide))⟩
      refine StepsOk.cons (i := 2) rfl (fun L x G wx K Q hn hp hJ hK => ?_) ?_
      · skip
        have p1 : L 1 := hp ⟨1, .data⟩ (by simp) rfl
        have e1 := (hJ.2.2.2.1) p1
        simp only [putAll, Act.put, List.setIfInBounds_toArray, List.set_cons_zero, List.set_cons_succ]
        go_simp
        refine hK _ G _ (by kernel_rfl) ?_
        exact ⟨hJ.1, hJ.2.1, fun q => (hJ.2.2.1) (q.resolve_left (by decide)), fun _ => by first | exact rfl | exact e1, fun _ => rfl, fun q => (hJ.2.2.2.2.2.1) (q.resolve_left (by decide)), fun q => (hJ.2.2.2.2.2.2.1) (q.resolve_left (by decide)), fun q => (hJ.2.2.2.2.2.2.2.1) (q.resolve_left (by decide)), fun q => (hJ.2.2.2.2.2.2.2.2.1) (q.resolve_left (by decide)), fun q => (hJ.2.2.2.2.2.2.2.2.2.1) (q.resolve_left (by decide)), fun q => (hJ.2.2.2.2.2.2.2.2.2.2) (q.resolve_left (by decide))⟩
      refine StepsOk.consT (i := 3) 2 14 false rfl rfl (by kernel_rfl) (fun L x G wx hp hJ => hJ.2.2.2.2.1 (hp ⟨2, .guard⟩ (by simp) rfl)) (fun L x G wx K Q hn hp hJ hK => ?_) ?_
      · skip
        simp only [putAll, Act.put, List.setIfInBounds_toArray, List.set_cons_zero, List.set_cons_succ]
        refine wp_B _ rfl rfl hJ.2.1 ?_
        refine hK _ G _ (by kernel_rfl) ?_
        exact ⟨hJ.1, hJ.2.1, fun q => (hJ.2.2.1) (q.resolve_left (by decide)), fun q => (hJ.2.2.2.1) (q.resolve_left (by decide)), fun q => (hJ.2.2.2.2.1) (q.resolve_left (by decide)), fun _ => rfl, fun q => (hJ.2.2.2.2.2.2.1) (q.resolve_left (by decide)), fun q => (hJ.2.2.2.2.2.2.2.1) (q.resolve_left (by decide)), fun q => (hJ.2.2.2.2.2.2.2.2.1) (q.resolve_left (by decide)), fun q => (hJ.2.2.2.2.2.2.2.2.2.1) (q.resolve_left (by decide)), fun q => (hJ.2.2.2.2.2.2.2.2.2.2) (q.resolve_left (by decide))⟩
      refine StepsOk.consT (i := 4) 2 14 false rfl rfl (by kernel_rfl) (fun L x G wx hp hJ => hJ.2.2.2.2.1 (hp ⟨2, .guard⟩ (by simp) rfl)) (fun L x G wx K Q hn hp hJ hK => ?_) ?_
      · skip
        have p3 : L 3 := hp ⟨3, .data⟩ (by simp) rfl
        have e3 := (hJ.2.2.2.2.2.1) p3
        simp only [putAll, Act.put, List.setIfInBounds_toArray, List.set_cons_zero, List.set_cons_succ]
        go_simp
        refine (KC.out _ (H.keep (bt hB hJ.1))).mono ?_
        rintro e w2 ⟨rfl, hb⟩
        try go_simp
        refine hK _ G _ (by kernel_rfl) ?_
        exact ⟨bt hJ.1 hb, Blk.keep hJ.2.1 hb, fun q => (hJ.2.2.1) (q.resolve_left (by decide)), fun q => (hJ.2.2.2.1) (q.resolve_left (by decide)), fun q => (hJ.2.2.2.2.1) (q.resolve_left (by decide)), fun _ => by first | exact rfl | exact e3, fun _ => rfl, fun q => (hJ.2.2.2.2.2.2.2.1) (q.resolve_left (by decide)), fun q => (hJ.2.2.2.2.2.2.2.2.1) (q.resolve_left (by decide)), fun q => (hJ.2.2.2.2.2.2.2.2.2.1) (q.resolve_left (by decide)), fun q => (hJ.2.2.2.2.2.2.2.2.2.2) (q.resolve_left (by decide))⟩
      refine StepsOk.consT (i := 5) 2 14 false rfl rfl (by kernel_rfl) (fun L x G wx hp hJ => hJ.2.2.2.2.1 (hp ⟨2, .guard⟩ (by simp) rfl)) (fun L x G wx K Q hn hp hJ hK => ?_) ?_
      · skip
        simp only [putAll, Act.put, List.setIfInBounds_toArray, List.set_cons_zero, List.set_cons_succ]
        refine wp_B _ rfl rfl hJ.2.1 ?_
        refine hK _ G _ (by kernel_rfl) ?_
        exact ⟨hJ.1, hJ.2.1, fun q => (hJ.2.2.1) (q.resolve_left (by decide)), fun q => (hJ.2.2.2.1) (q.resolve_left (by decide)), fun q => (hJ.2.2.2.2.1) (q.resolve_left (by decide)), fun q => (hJ.2.2.2.2.2.1) (q.resolve_left (by decide)), fun q => (hJ.2.2.2.2.2.2.1) (q.resolve_left (by decide)), fun _ => rfl, fun q => (hJ.2.2.2.2.2.2.2.2.1) (q.resolve_left (by decide)), fun q => (hJ.2.2.2.2.2.2.2.2.2.1) (q.resolve_left (by decide)), fun q => (hJ.2.2.2.2.2.2.2.2.2.2) (q.resolve_left (by decide))⟩
      refine StepsOk.consT (i := 6) 2 14 false rfl rfl (by kernel_rfl) (fun L x G wx hp hJ => hJ.2.2.2.2.1 (hp ⟨2, .guard⟩ (by simp) rfl)) (fun L x G wx K Q hn hp hJ hK => ?_) ?_
      · skip
        have p5 : L 5 := hp ⟨5, .data⟩ (by simp) rfl
        have e5 := (hJ.2.2.2.2.2.2.2.1) p5
        simp only [putAll, Act.put, List.setIfInBounds_toArray, List.set_cons_zero, List.set_cons_succ]
        go_simp
        refine (KR.out _ (H.keep (bt hB hJ.1))).mono ?_
        rintro e w2 ⟨rfl, hb⟩
        try go_simp
        refine hK _ G _ (by kernel_rfl) ?_
        exact ⟨bt hJ.1 hb, Blk.keep hJ.2.1 hb, fun q => (hJ.2.2.1) (q.resolve_left (by decide)), fun q => (hJ.2.2.2.1) (q.resolve_left (by decide)), fun q => (hJ.2.2.2.2.1) (q.resolve_left (by decide)), fun q => (hJ.2.2.2.2.2.1) (q.resolve_left (by decide)), fun q => (hJ.2.2.2.2.2.2.1) (q.resolve_left (by decide)), fun _ => by first | exact rfl | exact e5, fun _ => rfl, fun q => (hJ.2.2.2.2.2.2.2.2.2.1) (q.resolve_left (by decide)), fun q => (hJ.2.2.2.2.2.2.2.2.2.2) (q.resolve_left (by decide))⟩
      refine StepsOk.consT (i := 7) 2 14 false rfl rfl (by kernel_rfl) (fun L x G wx hp hJ => hJ.2.2.2.2.1 (hp ⟨2, .guard⟩ (by simp) rfl)) (fun L x G wx K Q hn hp hJ hK => ?_) ?_
      · skip
        have p4 : L 4 := hp ⟨4, .data⟩ (by simp) rfl
        have e4 := (hJ.2.2.2.2.2.2.1) p4
        have p6 : L 6 := hp ⟨6, .data⟩ (by simp) rfl
        have e6 := (hJ.2.2.2.2.2.2.2.2.1) p6
        simp only [putAll, Act.put, List.setIfInBounds_toArray, List.set_cons_zero, List.set_cons_succ]
        go_simp
        refine hK _ G _ (by kernel_rfl) ?_
        exact ⟨hJ.1, hJ.2.1, fun q => (hJ.2.2.1) (q.resolve_left (by decide)), fun q => (hJ.2.2.2.1) (q.resolve_left (by decide)), fun q => (hJ.2.2.2.2.1) (q.resolve_left (by decide)), fun q => (hJ.2.2.2.2.2.1) (q.resolve_left (by decide)), fun _ => by first | exact rfl | exact e4, fun q => (hJ.2.2.2.2.2.2.2.1) (q.resolve_left (by decide)), fun _ => by first | exact rfl | exact e6, fun _ => rfl, fun q => (hJ.2.2.2.2.2.2.2.2.2.2) (q.resolve_left (by decide))⟩
      refine StepsOk.cons (i := 8) rfl (fun L x G wx K Q hn hp hJ hK => ?_) ?_
      · skip
        have p2 : L 2 := hp ⟨2, .data⟩ (by simp) rfl
        have e2 := (hJ.2.2.2.2.1) p2
        have p7 : L 7 := hp ⟨7, .data⟩ (by simp) rfl
        have e7 := (hJ.2.2.2.2.2.2.2.2.2.1) p7
        simp only [putAll, Act.put, List.setIfInBounds_toArray, List.set_cons_zero, List.set_cons_succ]
        go_simp
        refine hK _ G _ (by kernel_rfl) ?_
        exact ⟨hJ.1, hJ.2.1, fun q => (hJ.2.2.1) (q.resolve_left (by decide)), fun q => (hJ.2.2.2.1) (q.resolve_left (by decide)), fun _ => by first | exact rfl | exact e2, fun q => (hJ.2.2.2.2.2.1) (q.resolve_left (by decide)), fun q => (hJ.2.2.2.2.2.2.1) (q.resolve_left (by decide)), fun q => (hJ.2.2.2.2.2.2.2.1) (q.resolve_left (by decide)), fun q => (hJ.2.2.2.2.2.2.2.2.1) (q.resolve_left (by decide)), fun _ => by first | exact rfl | exact e7, fun _ => rfl⟩
      exact StepsOk.nil
    case fin =>
      intro L x G wf hall hJ
      have u8 := (hJ.2.2.2.2.2.2.2.2.2.2) (hall 8 (by decide))
      have hb := hJ.1
      simp only [putAll, Act.put, List.setIfInBounds_toArray, List.set_cons_zero, List.set_cons_succ]
      simp only [u8]
      go_wp2_with fail
      go_meet
      exact ⟨rfl, hb⟩
  case rest =>
    obtain ⟨rfl, hb⟩ := hcut
    replace hB := bt hB hb
    replace PB := PB.keep hb
    clear hb KC KR
    obtain ⟨d0, d1, d2, d20, d21, d22, d23, d24, d25⟩ := PB.ow24
    go_wp2_with (with_reducible show wpList _ _ _ _ _ _; refine wpList_B _ rfl rfl rfl (by with_reducible assumption) ?_)
    refine (KT.out _ (H.keep hB) (U.keep hB)).mono ?_
    rintro e w2 ⟨rfl, hb⟩
    clear d0 d1 d2 d20 d21 d22 d23 d24 d25
    replace hB := bt hB hb
    replace PB := PB.keep hb
    clear hb
    obtain ⟨d0, d1, d2, d20, d21, d22, d23, d24, d25⟩ := PB.ow24
    go_wp2_with (with_reducible show wpList _ _ _ _ _ _; refine wpList_B _ rfl rfl rfl (by with_reducible assumption) ?_)
    refine (KU.out _ (H.keep hB) (U.keep hB)).mono ?_
    rintro e w3 ⟨rfl, hb⟩
    clear d0 d1 d2 d20 d21 d22 d23 d24 d25
    replace hB := bt hB hb
    replace PB := PB.keep hb
    clear hb KT KU
    have KL := Lib.hid (fun a b wx (h : ZIn wx Z Y) => leg_o Z Y q a b wx h)
    have KM := Lib.hid (fun a b wx (h : ZIn wx Z Y) => rleg_o Z Y q a b wx h)
    by_cases hl : l = 0
    · subst hl
      have hl1 : ¬ (0 : Int) < ((0 : Nat) : Int) := by omega
      have C := Blk.new w3 35 #[.int .i64 0, .int .i64 0]
      replace PB := PB.alloc (.cells #[.int .i64 0, .int .i64 0] 35)
      replace hB := bal hB (.cells #[.int .i64 0, .int .i64 0] 35)
      obtain ⟨d0, d1, d2, d20, d21, d22, d23, d24, d25⟩ := PB.ow24
      obtain ⟨c0, c1, c2, c3⟩ := C.open2
      go_wp2_with (with_reducible show wpList _ _ _ _ _ _; refine wpList_B _ rfl rfl rfl (by with_reducible assumption) ?_)
      refine (KL.out 0 0 _ (H.keep hB)).mono ?_
      rintro e w4 ⟨rfl, hb⟩
      clear d0 d1 d2 d20 d21 d22 d23 d24 d25
      clear c0 c1 c2 c3
      replace hB := bt hB hb
      replace PB := PB.keep hb
      replace C := C.keep hb
      clear hb
      obtain ⟨d0, d1, d2, d20, d21, d22, d23, d24, d25⟩ := PB.ow24
      obtain ⟨c0, c1, c2, c3⟩ := C.open2
      go_wp2_with (with_reducible show wpList _ _ _ _ _ _; refine wpList_B _ rfl rfl rfl (by with_reducible assumption) ?_)
      refine (KM.out 0 0 _ (H.keep hB)).mono ?_
      rintro e w5 ⟨rfl, hb⟩
      clear d0 d1 d2 d20 d21 d22 d23 d24 d25
      clear c0 c1 c2 c3
      replace hB := bt hB hb
      clear hb PB C
      generalize Oz.lgV Z q 0 0 = lv at *
      generalize Oz.lgE Z q 0 0 = le at *
      go_wp2_with fail
      go_returns
      first | exact ⟨rfl, hB⟩ | exact hB
    · obtain ⟨b1, o1, eA, hbl1, x0, x1⟩ := (U.keep hB).at2 (k := 0) (by omega)
      rw [Nat.zero_mul, Nat.add_zero] at x0 x1
      have HA := Lib.hid eA
      rw [HA.out]
      clear eA
      have hl1 : (0 : Int) < (l : Int) := by omega
      have C := Blk.new w3 35 #[.int .i64 (N 0 0), .int .i64 (N 0 1)]
      replace PB := PB.alloc (.cells #[.int .i64 (N 0 0), .int .i64 (N 0 1)] 35)
      replace hB := bal hB (.cells #[.int .i64 (N 0 0), .int .i64 (N 0 1)] 35)
      obtain ⟨d0, d1, d2, d20, d21, d22, d23, d24, d25⟩ := PB.ow24
      obtain ⟨c0, c1, c2, c3⟩ := C.open2
      go_wp2_with (with_reducible show wpList _ _ _ _ _ _; refine wpList_B _ rfl rfl rfl (by with_reducible assumption) ?_)
      refine (KL.out (N 0 0) (N 0 1) _ (H.keep hB)).mono ?_
      rintro e w4 ⟨rfl, hb⟩
      clear d0 d1 d2 d20 d21 d22 d23 d24 d25
      clear c0 c1 c2 c3
      replace hB := bt hB hb
      replace PB := PB.keep hb
      replace C := C.keep hb
      clear hb
      obtain ⟨d0, d1, d2, d20, d21, d22, d23, d24, d25⟩ := PB.ow24
      obtain ⟨c0, c1, c2, c3⟩ := C.open2
      go_wp2_with (with_reducible show wpList _ _ _ _ _ _; refine wpList_B _ rfl rfl rfl (by with_reducible assumption) ?_)
      refine (KM.out (N 0 0) (N 0 1) _ (H.keep hB)).mono ?_
      rintro e w5 ⟨rfl, hb⟩
      clear d0 d1 d2 d20 d21 d22 d23 d24 d25
      clear c0 c1 c2 c3
      replace hB := bt hB hb
      clear hb PB C
      generalize Oz.lgV Z q (N 0 0) (N 0 1) = lv at *
      generalize Oz.lgE Z q (N 0 0) (N 0 1) = le at *
      go_wp2_with fail
      go_returns
      first | exact ⟨rfl, hB⟩ | exact hB
end Go.Proofs.Ytoeklllahpegfaa
/-
  Contracts: choices, graphs.
-/
namespace Go.Proofs.Ytoeklllahpegfaa
set_option linter.unusedVariables false
set_option linter.unusedSimpArgs false
open Go.RowKit
attribute [local irreducible] World.setCell World.cell?

set_option maxRecDepth 100000 in
set_option maxHeartbeats 4000000 in
theorem choices_c (A B : Option Addr) (n c d : Nat) (N : Nat → Nat → Int) (w : World) (R : Rd w 2 A n c (iv N)) (S : Rd w 2 B n d (iv N)) : Calls Try.prog 23 #[.slice A n c, .slice B n d] w fun e w' => e = .returned (.bool true) ∧ Below w.heap.size w w' := by
  have r1 := R.le
  have r2 := R.mx
  have s1 := S.le
  have s2 := S.mx
  go_enter Try.func23, Try.ntmps23
  try simp only [List.append_eq, List.cons_append, List.nil_append]
  go_wp2_with fail
  go_loopw [5, 13] (fun s_ i_ wr => ∃ k : Nat, k ≤ n ∧ i_ = .int .i64 (k : Int) ∧ Below w.heap.size w wr) (fun _ i_ _ => n - (intOf i_).toNat)
  case atStart => exact ⟨0, Nat.zero_le _, rfl, Below.refl _ _⟩
  case round =>
    obtain ⟨k, hk, rfl, hW⟩ := hrel
    by_cases hlt : k < n
    · obtain ⟨b1, o1, eA, hbl1, x0, x1⟩ := (R.keep hW).at2 hlt
      obtain ⟨b2, o2, eB, hbl2, y0, y1⟩ := (S.keep hW).at2 hlt
      have HA := Lib.hid eA
      have HB := Lib.hid eB
      rw [HA.out, HB.out]
      clear eA eB
      go_wp2_with fail
      go_quiet (fail)
      go_wp2_with fail
      first
        | exact ⟨⟨k + 1, by omega, by go_num, bdnl hW _⟩, by simp [intOf]; omega⟩
        | (rw [← HA.out, ← HB.out]; go_roundw; case rel => exact ⟨k + 1, by omega, by go_num, bdnl hW _⟩; case measure => simp [intOf]; omega)
    · obtain rfl : k = n := by omega
      go_wp2_with fail
      go_returns
      first | exact ⟨rfl, hW⟩ | exact hW
set_option maxRecDepth 100000 in
set_option maxHeartbeats 4000000 in
theorem graphs_c (A B : Option Addr) (n : Int) (m c d : Nat) (E : Nat → Nat → Int) (w : World) (R : Rd w 3 A m c (iv E)) (S : Rd w 3 B m d (iv E)) : Calls Try.prog 20 #[.agg #[.int .i64 n, .slice A m c], .agg #[.int .i64 n, .slice B m d]] w fun e w' => e = .returned (.bool true) ∧ Below w.heap.size w w' := by
  have r1 := R.le
  have r2 := R.mx
  have s1 := S.le
  have s2 := S.mx
  go_enter Try.func20, Try.ntmps20
  try simp only [List.append_eq, List.cons_append, List.nil_append]
  have GX := (Blk.new w 41 #[.int .i64 n, .slice A m c]).alloc (.cells #[.int .i64 n, .slice B m d] 41)
  have GY := Blk.new1 w (.cells #[.int .i64 n, .slice A m c] 41) 41 #[.int .i64 n, .slice B m d]
  have hB := bal (ba w (.cells #[.int .i64 n, .slice A m c] 41)) (.cells #[.int .i64 n, .slice B m d] 41)
  go_upto_region 1 with fail
  generalize World.alloc (World.alloc w _) _ = w1 at GX GY hB ⊢
  obtain ⟨c0, c1, c2, c3⟩ := GX.open2
  obtain ⟨e0, e1, e2, e3⟩ := GY.open2
  go_wp2_with fail
  clear c0 c1 c2 c3 e0 e1 e2 e3
  go_loopw [5, 23] (fun s_ i_ wr => ∃ k : Nat, k ≤ m ∧ i_ = .int .i64 (k : Int) ∧ Below w1.heap.size w1 wr) (fun _ i_ _ => m - (intOf i_).toNat)
  case atStart => exact ⟨0, Nat.zero_le _, rfl, Below.refl _ _⟩
  case round =>
    obtain ⟨k, hk, rfl, hW⟩ := hrel
    by_cases hlt : k < m
    · obtain ⟨b1, o1, eA, hbl1, x0, x1, x2⟩ := ((R.keep hB).keep hW).at3 hlt
      obtain ⟨b2, o2, eB, hbl2, y0, y1, y2⟩ := ((S.keep hB).keep hW).at3 hlt
      obtain ⟨c0, c1, c2, c3⟩ := (GX.keep hW).open2
      obtain ⟨e0, e1, e2, e3⟩ := (GY.keep hW).open2
      rw [eA] at c1
      rw [eB] at e1
      have HA := Lib.hid eA
      have HB := Lib.hid eB
      rw [HA.out, HB.out]
      clear eA eB
      go_wp2_with fail
      go_quiet (fail)
      go_wp2_with fail
      first
        | exact ⟨⟨k + 1, by omega, by go_num, bdnl hW _⟩, by simp [intOf]; omega⟩
        | (rw [← HA.out, ← HB.out]; go_roundw; case rel => exact ⟨k + 1, by omega, by go_num, bdnl hW _⟩; case measure => simp [intOf]; omega)
    · obtain rfl : k = m := by omega
      go_wp2_with fail
      go_returns
      first | exact ⟨rfl, bt hB hW⟩ | exact bt hB hW
end Go.Proofs.Ytoeklllahpegfaa
