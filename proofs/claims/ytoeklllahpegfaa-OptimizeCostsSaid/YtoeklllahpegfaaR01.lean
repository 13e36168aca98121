/-
  Words and contracts, put together: OVq, VW6, VW7, VW17, O8, OBp, OB, OBq, OBz.
-/
import Derived.Test.YtoeklllahpegfaaM01
import Derived.Test.YtoeklllahpegfaaM02
import Derived.Test.YtoeklllahpegfaaM03
import Derived.Test.YtoeklllahpegfaaM04
import Derived.Test.YtoeklllahpegfaaM05
/-
  Plain: the value of a list as the reference says it.
-/
namespace Go.Proofs.Ytoeklllahpegfaa
set_option linter.unusedVariables false
set_option linter.unusedSimpArgs false
open Go.RowKit

namespace Oz
section
variable {n : Nat} {al l : Nat → Int} {x : Int}
theorem fk_all : ∀ {m : Nat}, (∀ i, i < m → al i < x) → fk al x m = m
  | 0, _ => rfl
  | m + 1, h => fk_step (fk_all fun i hi => h i (by omega)) (h m (by omega))
theorem asc_lt (h : ∀ i, i + 1 < n → al i < al (i + 1)) {i : Nat} : ∀ {j : Nat}, i < j → j < n → al i < al j
  | 0, hj, _ => by omega
  | j + 1, hj, hn => by
    have h1 := h j hn
    by_cases e : i = j
    · subst e; exact h1
    · have := asc_lt h (i := i) (j := j) (by omega) (by omega)
      omega
theorem vW_lo (hn : 1 ≤ n) (h : x ≤ al 0) : vW n al l x = l 0 := vW_0 (fk_at (k := 0) rfl (by omega) (by omega))
theorem lin_1 (a d : Int) (hd : d ≠ 0) : a * d / d = a := Int.mul_ediv_cancel a hd
/-- At a place itself. -/
theorem vW_here (h : ∀ i, i + 1 < n → al i < al (i + 1)) {j : Nat} (hj : j + 1 < n) (hx : x = al (j + 1)) : vW n al l x = l (j + 1) := by
  have hf : fk al x (j + 1) = j + 1 := fk_all fun i hi => by
    have := asc_lt h (i := i) (j := j + 1) (by omega) hj
    omega
  have hf2 : fk al x n = j + 1 := fk_at hf (by omega) hj
  rw [vW_m hf2 (by omega), hx, lin_1 _ _ (by have := h j hj; omega)]
  omega
theorem vW_hi {m : Nat} (hn : n = m + 1) (hm : 1 ≤ m) (h : ∀ i, i + 1 < n → al i < al (i + 1)) (hx : al m ≤ x) : vW n al l x = l m := by
  subst hn
  by_cases e : x = al m
  · obtain ⟨j, rfl⟩ : ∃ j, m = j + 1 := ⟨m - 1, by omega⟩
    exact vW_here h (by omega) e
  · refine vW_n (j := m) (fk_all fun i hi => ?_) rfl
    by_cases q : i = m
    · subst q; omega
    · have := asc_lt h (i := i) (j := m) (by omega) (by omega)
      omega
theorem vW_at (h : ∀ i, i + 1 < n → al i < al (i + 1)) {i : Nat} (hi : i + 1 < n) (h1 : al i ≤ x) (h2 : ¬ al (i + 1) ≤ x) (h0 : al 0 < x) : vW n al l x = l i + (l (i + 1) - l i) * (x - al i) / (al (i + 1) - al i) := by
  by_cases e : x = al i
  · obtain ⟨j, rfl⟩ : ∃ j, i = j + 1 := ⟨i - 1, by
      have : i ≠ 0 := fun q => by subst q; omega
      omega⟩
    rw [vW_here h (by omega) e, e, Int.sub_self, Int.mul_zero, Int.zero_ediv]
    omega
  · have hf : fk al x (i + 1) = i + 1 := fk_all fun q hq => by
      by_cases z : q = i
      · subst z; omega
      · have := asc_lt h (i := q) (j := i) (by omega) (by omega)
        omega
    exact vW_m (fk_at hf (by omega) hi) (by omega)
end
end Oz
end Go.Proofs.Ytoeklllahpegfaa
/-
  Contracts: a number times an int64; the reference's words for sizes and signs.
-/
namespace Go.Proofs.Ytoeklllahpegfaa
set_option linter.unusedVariables false
set_option linter.unusedSimpArgs false
open Go.RowKit

theorem times_facts {x a : Int} (hx : Wi.inW x) (h1 : -9223372036854775808 ≤ a) (h2 : a ≤ 9223372036854775807) :
    0 ≤ Wi.Hq (Wi.ab x) ∧ Wi.Hq (Wi.ab x) ≤ 9223372036854775808 ∧ 0 ≤ Wi.Lr (Wi.ab x) ∧ Wi.Lr (Wi.ab x) ≤ 18446744073709551615 ∧ 0 ≤ Wi.ab a ∧ Wi.ab a ≤ 9223372036854775808 ∧
    0 ≤ Wi.Hq (Wi.Lr (Wi.ab x) * Wi.ab a) ∧ Wi.Hq (Wi.Lr (Wi.ab x) * Wi.ab a) ≤ 18446744073709551615 ∧ 0 ≤ Wi.Lr (Wi.Lr (Wi.ab x) * Wi.ab a) ∧ Wi.Lr (Wi.Lr (Wi.ab x) * Wi.ab a) ≤ 18446744073709551615 ∧
    0 ≤ Wi.Hq (Wi.Hq (Wi.ab x) * Wi.ab a) ∧ Wi.Hq (Wi.Hq (Wi.ab x) * Wi.ab a) ≤ 4611686018427387904 ∧ 0 ≤ Wi.Lr (Wi.Hq (Wi.ab x) * Wi.ab a) ∧ Wi.Lr (Wi.Hq (Wi.ab x) * Wi.ab a) ≤ 18446744073709551615 := by
  have p := (Wi.ab_bd hx).2
  have p0 := (Wi.ab_bd hx).1.1
  have q := ab_i h1 h2
  have e1 : 0 ≤ Wi.Hq (Wi.ab x) ∧ Wi.Hq (Wi.ab x) ≤ 9223372036854775808 := by unfold Wi.Hq; omega
  have e2 := Wi.Lr_bd (Wi.ab x)
  have e3 := Int.mul_nonneg e2.1 q.1
  have e4 := Int.mul_le_mul e2.2 q.2 q.1 (by omega)
  have e5 := Int.mul_nonneg e1.1 q.1
  have e6 := Int.mul_le_mul e1.2 q.2 q.1 (by omega)
  have e7 := Wi.Lr_bd (Wi.Lr (Wi.ab x) * Wi.ab a)
  have e8 := Wi.Lr_bd (Wi.Hq (Wi.ab x) * Wi.ab a)
  refine ⟨e1.1, e1.2, e2.1, e2.2, q.1, q.2, ?_, ?_, e7.1, e7.2, ?_, ?_, e8.1, e8.2⟩ <;> (generalize Wi.Lr (Wi.ab x) * Wi.ab a = P at *; generalize Wi.Hq (Wi.ab x) * Wi.ab a = Q at *; unfold Wi.Hq; omega)
/-- The product of the sizes, out of its parts. -/
theorem times_sum (x a : Int) : Wi.ab x * Wi.ab a = (Wi.Hq (Wi.Hq (Wi.ab x) * Wi.ab a) * 18446744073709551616 + Wi.Lr (Wi.Hq (Wi.ab x) * Wi.ab a)) * 18446744073709551616 + (Wi.Hq (Wi.Lr (Wi.ab x) * Wi.ab a) * 18446744073709551616 + Wi.Lr (Wi.Lr (Wi.ab x) * Wi.ab a)) := by
  have h := Wi.HL (Wi.ab x)
  rw [← Wi.HL, ← Wi.HL]
  generalize Wi.ab x = s at *
  generalize Wi.ab a = m at *
  generalize Wi.Hq s = u at *
  generalize Wi.Lr s = v at *
  subst h
  rw [Int.add_mul, Int.mul_assoc, Int.mul_comm 18446744073709551616, ← Int.mul_assoc]
theorem ab_times (x a : Int) : Wi.sg (Wi.ab x * Wi.ab a) (!Wi.ngb x == decide (a < 0)) = x * a := ab_mul x a
theorem sg_big {s : Int} (n : Bool) (h : 340282366920938463463374607431768211456 ≤ s) : Wi.sg s n < -170141183460469231731687303715884105728 ∨ 170141183460469231731687303715884105728 ≤ Wi.sg s n := by
  cases n <;> simp only [Wi.sg_t, Wi.sg_f] <;> omega
end Go.Proofs.Ytoeklllahpegfaa
/-
  Contracts: the reference's words for sizes and signs.
-/
namespace Go.Proofs.Ytoeklllahpegfaa
set_option linter.unusedVariables false
set_option linter.unusedSimpArgs false
open Go.RowKit

/-! The reference's. -/
theorem ret_u {a b : Int} (h : a = b) : Ending.returned (.int .u64 a) = .returned (.int .u64 b) := by rw [h]
set_option maxHeartbeats 1000000 in
theorem rsize1_c (a : Int) (w : World) (h1 : -9223372036854775808 ≤ a) (h2 : a ≤ 9223372036854775807) : Calls Try.prog 99 #[.int .i64 a] w fun e w' =>
    e = .returned (.int .u64 (Wi.ab a)) ∧ w = w' := by
  by_cases h : a < 0
  · have e := Lib.hid (Wi.ab_neg h)
    go_enter Try.func99, Try.ntmps99
    go_wp2
    go_returns
    exact ⟨ret_int (by rw [e.out]; omega), rfl⟩
  · have e := Lib.hid (@Wi.ab_pos a (by omega))
    go_enter Try.func99, Try.ntmps99
    go_wp2
    go_returns
    exact ⟨ret_int e.out.symm, rfl⟩
end Go.Proofs.Ytoeklllahpegfaa
/-
  Contracts: the reference's division by one word.
-/
namespace Go.Proofs.Ytoeklllahpegfaa
set_option linter.unusedVariables false
set_option linter.unusedSimpArgs false
open Go.RowKit

theorem ret_u3 {a b c a' b' c' : Int} (e1 : a = a') (e2 : b = b') (e3 : c = c') : Ending.returned (.tuple #[.int .u64 a, .int .u64 b, .int .u64 c]) = .returned (.tuple #[.int .u64 a', .int .u64 b', .int .u64 c']) := by rw [e1, e2, e3]
set_option maxRecDepth 100000 in
set_option maxHeartbeats 4000000 in
theorem rdiv1_c (h l x d : Int) (w : World) (H : Wi.Sz h l x) (hd : 0 < d) (hd2 : d ≤ 18446744073709551615) : Calls Try.prog 100 #[.int .u64 h, .int .u64 l, .int .u64 d] w fun e w' =>
    e = .returned (.tuple #[.int .u64 (Wi.Hq (x / d)), .int .u64 (Wi.Lr (x / d)), .int .u64 (x % d)]) ∧ w = w' := by
  go_enter Try.func100, Try.ntmps100
  go_wp2_with fail
  go_loop [0, 1, 6, 7, 8, 9] (fun v0 v1 v6 v7 v8 v9 => ∃ (i : Nat) (hi lo qh ql r S Y : Int), i ≤ 128 ∧ v9 = .int .i64 i ∧ v0 = .int .u64 hi ∧ v1 = .int .u64 lo ∧ v6 = .int .u64 qh ∧ v7 = .int .u64 ql ∧ v8 = .int .u64 r ∧
      Wi.Shf x i S Y ∧ Wi.Sz hi lo Y ∧ Wi.Sz qh ql (S / d) ∧ Hid (r = S % d)) (fun _ _ _ _ _ v9 => 128 - (intOf v9).toNat)
  case atStart =>
    exact ⟨0, h, l, 0, 0, 0, 0, x, by omega, rfl, rfl, rfl, rfl, rfl, rfl, Wi.shf_0 H.hv, H, by rw [Int.zero_ediv]; exact ⟨rfl, rfl, by unfold Wi.inS; omega⟩, Lib.hid (Int.zero_emod d).symm⟩
  case round =>
    obtain ⟨i, hi, lo, qh, ql, r, S, Y, hi128, rfl, rfl, rfl, rfl, rfl, rfl, hS, HY, HQ, HR⟩ := hrel
    by_cases hlt : i < 128
    rotate_left
    · obtain rfl : i = 128 := by omega
      obtain ⟨e1, e2⟩ := Wi.shf_end hS
      have E1 := Lib.hid e1
      clear e1 e2
      go_wp2_with fail
      go_returns
      rw [E1.out] at HQ HR
      exact ⟨ret_u3 HQ.hh HQ.hl HR.out, rfl⟩
    obtain ⟨b, b0, b1, hb, hS2, r0, r1, q0, q1, st1, st2⟩ := rd_step H.hv hd hlt hS
    rw [← HR.out] at r0 r1 st1 st2
    obtain ⟨y1, y2, y3, y4, yv⟩ := HY.bd
    obtain ⟨k1, k2, k3, k4, kv⟩ := HQ.bd
    have k5 : qh ≤ 9223372036854775807 := by omega
    have m4 : r ≤ 18446744073709551615 := by omega
    have hb2 : b = hi / 9223372036854775808 := by omega
    have HB := Lib.hid hb2
    have YV := Lib.hid yv
    have KV := Lib.hid kv
    have ST1 := Lib.hid st1
    have ST2 := Lib.hid st2
    have R1 := Lib.hid r1
    clear hb hb2 yv kv st1 st2 r1 HR HQ HY
    obtain ⟨A2, a3, a4, hA2, eA2⟩ := or_ex (b := hi / 9223372036854775808) r0 m4 (by omega) (by omega)
    obtain ⟨A3, a5, a6, hA3, eA3⟩ := or_ex (b := lo / 9223372036854775808) y1 y2 (by omega) (by omega)
    obtain ⟨A4, a7, a8, hA4, eA4⟩ := @sh_ex lo
    obtain ⟨A5, a9, a10, hA5, eA5⟩ := or_ex' (b := ql / 9223372036854775808) k1 k5 (by omega) (by omega)
    obtain ⟨A6, a11, a12, hA6, eA6⟩ := @sh_ex ql
    have hQ5 : ∃ A7, bits .or .u64 A6 1 = A7 ∧ Hid (A7 = A6 + 1) := ⟨_, rfl, Lib.hid (by rw [← eA6, or_bit k3 (by omega) (by omega), IntKind.wrap_u64])⟩
    obtain ⟨A7, eA7, hA7⟩ := hQ5
    obtain ⟨A8, k8, a13, a14, hA8, eA8⟩ := wsub_ex A2 d a3 a4 (by omega) hd2
    by_cases ht : 9223372036854775808 ≤ r
    · have hb1 : (r / 9223372036854775808 == 1) = true := by simp; omega
      go_wp2_with fail
      have e2 := hA2.out
      have e3 := hA3.out
      have e4 := hA4.out
      have e5 := hA5.out
      have e6 := hA6.out
      have e7 := hA7.out
      have e8 := hA8.out
      have yv := YV.out
      have kv := KV.out
      have hb := HB.out
      have r1 := R1.out
      obtain ⟨z1, z2⟩ := ST1.out (by omega)
      clear eA2 eA3 eA4 eA5 eA6 eA7 eA8 hA2 hA3 hA4 hA5 hA6 hA7 hA8 YV KV HB R1 ST1 ST2
      go_round
      case rel =>
        refine ⟨i + 1, _, _, _, _, _, 2 * S + b, 2 * Y % 340282366920938463463374607431768211456, by omega, by go_num, rfl, rfl, rfl, rfl, rfl, hS2, Wi.sz_of ?_ ?_ ?_ ?_ ?_, Wi.sz_of ?_ ?_ ?_ ?_ ?_, Lib.hid ?_⟩
        all_goals omega
      case measure => first | (simp [intOf]; done) | (simp [intOf]; omega)
    have hb1 : (r / 9223372036854775808 == 1) = false := by simp; omega
    rw [IntWalk.u64_in (r * 2) ⟨by omega, by omega⟩] at eA2
    by_cases hc : d ≤ A2
    · skip
      go_wp2_with fail
      have e2 := hA2.out
      have e3 := hA3.out
      have e4 := hA4.out
      have e5 := hA5.out
      have e6 := hA6.out
      have e7 := hA7.out
      have e8 := hA8.out
      have yv := YV.out
      have kv := KV.out
      have hb := HB.out
      have r1 := R1.out
      obtain ⟨z1, z2⟩ := ST1.out (by omega)
      clear eA2 eA3 eA4 eA5 eA6 eA7 eA8 hA2 hA3 hA4 hA5 hA6 hA7 hA8 YV KV HB R1 ST1 ST2
      go_round
      case rel =>
        refine ⟨i + 1, _, _, _, _, _, 2 * S + b, 2 * Y % 340282366920938463463374607431768211456, by omega, by go_num, rfl, rfl, rfl, rfl, rfl, hS2, Wi.sz_of ?_ ?_ ?_ ?_ ?_, Wi.sz_of ?_ ?_ ?_ ?_ ?_, Lib.hid ?_⟩
        all_goals omega
      case measure => first | (simp [intOf]; done) | (simp [intOf]; omega)
    · skip
      go_wp2_with fail
      have e2 := hA2.out
      have e3 := hA3.out
      have e4 := hA4.out
      have e5 := hA5.out
      have e6 := hA6.out
      have e7 := hA7.out
      have e8 := hA8.out
      have yv := YV.out
      have kv := KV.out
      have hb := HB.out
      have r1 := R1.out
      obtain ⟨z1, z2⟩ := ST2.out (by omega)
      clear eA2 eA3 eA4 eA5 eA6 eA7 eA8 hA2 hA3 hA4 hA5 hA6 hA7 hA8 YV KV HB R1 ST1 ST2
      go_round
      case rel =>
        refine ⟨i + 1, _, _, _, _, _, 2 * S + b, 2 * Y % 340282366920938463463374607431768211456, by omega, by go_num, rfl, rfl, rfl, rfl, rfl, hS2, Wi.sz_of ?_ ?_ ?_ ?_ ?_, Wi.sz_of ?_ ?_ ?_ ?_ ?_, Lib.hid ?_⟩
        all_goals omega
      case measure => first | (simp [intOf]; done) | (simp [intOf]; omega)
end Go.Proofs.Ytoeklllahpegfaa
/-
  Contracts: the reference's Check of performance tables.
-/
namespace Go.Proofs.Ytoeklllahpegfaa
set_option linter.unusedVariables false
set_option linter.unusedSimpArgs false
open Go.RowKit
attribute [local irreducible] World.setCell World.cell?

set_option maxRecDepth 100000 in
set_option maxHeartbeats 16000000 in
theorem r31check_c (P : PD) (Q : PA) (w : World) (H : PIn w P Q) : Calls Try.prog 39 #[.agg #[.string P.nm, .int .i64 P.em, .int .i64 P.fu, .slice Q.al P.na Q.alc, .slice Q.ma P.nM Q.mac, .slice Q.tC P.nC Q.tCc, .slice Q.tF P.nF Q.tFc, .slice Q.tR P.nR Q.tRc, .slice Q.dD P.nD Q.dDc, .slice Q.dI P.nI Q.dIc, .slice Q.dX P.nX Q.dXc, .slice Q.dN P.nN Q.dNc, .int .i64 P.rf, .int .i64 P.xt, .int .i64 P.ce]] w fun e w' => e = .returned (.int .i64 (Oz.rck P)) ∧ Below w.heap.size w w' := by
  have x1 := H.al.le
  have x2 := H.al.mx
  go_enter Try.func39, Try.ntmps39
  go_wp2_with fail
  have G := Blk.new w 25 #[.string P.nm, .int .i64 P.em, .int .i64 P.fu, .slice Q.al P.na Q.alc, .slice Q.ma P.nM Q.mac, .slice Q.tC P.nC Q.tCc, .slice Q.tF P.nF Q.tFc, .slice Q.tR P.nR Q.tRc, .slice Q.dD P.nD Q.dDc, .slice Q.dI P.nI Q.dIc, .slice Q.dX P.nX Q.dXc, .slice Q.dN P.nN Q.dNc, .int .i64 P.rf, .int .i64 P.xt, .int .i64 P.ce]
  have hB := ba w (.cells #[.string P.nm, .int .i64 P.em, .int .i64 P.fu, .slice Q.al P.na Q.alc, .slice Q.ma P.nM Q.mac, .slice Q.tC P.nC Q.tCc, .slice Q.tF P.nF Q.tFc, .slice Q.tR P.nR Q.tRc, .slice Q.dD P.nD Q.dDc, .slice Q.dI P.nI Q.dIc, .slice Q.dX P.nX Q.dXc, .slice Q.dN P.nN Q.dNc, .int .i64 P.rf, .int .i64 P.xt, .int .i64 P.ce] 25)
  replace H := H.keep hB
  have K := Lib.hid (show Oz.rck P = Oz.fst [(Oz.nmB P.nm 8, 5), (decide (1 ≤ P.em), 2), (decide (P.em ≤ 3000000000), 2), (decide (1 ≤ P.fu), 2), (decide (P.fu ≤ 3000000000 - P.em), 2), (decide (2 ≤ P.na), 3), (decide (P.na ≤ 12), 3), (decide (2 ≤ P.nM), 3), (decide (P.nM ≤ 6), 3), ((Oz.shT P.nC P.lC P.nM && decide (P.nC = P.na)), 1), ((Oz.shT P.nF P.lF P.nM && decide (P.nF = P.na)), 1), ((Oz.shT P.nR P.lR P.nM && decide (P.nR = P.na)), 1), (decide (P.nD = P.na), 1), (decide (P.nI = P.na), 1), (decide (P.nX = P.na), 1), (decide (P.nN = P.nM), 1), (Oz.asB P.na P.al, 9), (Oz.asB P.nM P.ma, 9), (Oz.alB P.na P.al (-200000) 6000000, 2), (Oz.alB 1 (fun _ => P.ce) (-200000) 6000000, 2), (Oz.alB P.nM P.ma 1 3000000000, 2), (Oz.alT P.nC P.lC P.tC 0 10000, 2), (Oz.alB P.nD P.dD 1 10000, 2), (Oz.alT P.nF P.lF P.tF 0 50000, 2), (Oz.alT P.nR P.lR P.tR 0 50000, 2), (Oz.alB P.nI P.dI 0 50000, 2), (Oz.alB P.nX P.dX 1 1000, 2), (Oz.alB P.nN P.dN 1 1000, 2), (Oz.alB 1 (fun _ => P.rf) 1 1000, 2), (Oz.alB 1 (fun _ => P.xt) 0 100, 2), (Oz.grid (Oz.cb P.al P.tC) P.na P.nM, 11), (Oz.grid (Oz.up1 P.tF) P.nF P.nM, 11), (Oz.grid (Oz.up1 P.tR) P.nR P.nM, 11), (Oz.lvB P.nD P.dD, 11), (Oz.faB P.nI P.dI, 11), (Oz.faB P.nX P.dX, 11), (Oz.lvB P.nN P.dN, 11)] from rfl)
  go_quiet (fail)
  have hB0 := bdnl hB ‹Nat›
  replace H := H.keep (bdn _ ‹Nat›)
  replace G := G.drewN ‹Nat›
  replace hB := hB0
  clear hB0
  obtain ⟨d0, d1, d2, d3, d4, d5, d6, d7, d8, d9, d10, d11, d12, d13, d14, d15, d16⟩ := G.open15
  go_wp2_with fail
  refine (rname_c _ _ _ H.nm).mono ?_
  cases q : (Oz.nmB P.nm 8)
  · have HE := Lib.hid (K.out.trans (Oz.fst_f q))
    clear q
    rintro e w_ ⟨rfl, rfl⟩
    go_wp2_with fail
    go_returns
    refine ⟨?_, hB⟩
    rw [HE.out]; rfl
  have t1 := Lib.hid q
  replace K := Lib.hid (K.out.trans (Oz.fst_t q))
  clear q
  rintro e w_ ⟨rfl, rfl⟩
  by_cases q : P.em < 1
  · have HE := Lib.hid (K.out.trans (Oz.fst_f (decide_eq_false (by omega))))
    go_wp2_with fail
    go_returns
    refine ⟨?_, hB⟩
    rw [HE.out]; rfl
  have e1 := Lib.hid (show (decide (1 ≤ P.em)) = true from decide_eq_true (by omega))
  replace K := Lib.hid (K.out.trans (Oz.fst_t e1.out))
  have qe1 := q
  clear q
  by_cases q : 3000000000 < P.em
  · have HE := Lib.hid (K.out.trans (Oz.fst_f (decide_eq_false (by omega))))
    go_wp2_with fail
    go_returns
    refine ⟨?_, hB⟩
    rw [HE.out]; rfl
  have e2 := Lib.hid (show (decide (P.em ≤ 3000000000)) = true from decide_eq_true (by omega))
  replace K := Lib.hid (K.out.trans (Oz.fst_t e2.out))
  have qe2 := q
  clear q
  have em1 : 1 ≤ P.em := by omega
  have em2 : P.em ≤ 3000000000 := by omega
  by_cases q : P.fu < 1
  · have HE := Lib.hid (K.out.trans (Oz.fst_f (decide_eq_false (by omega))))
    go_wp2_with fail
    go_returns
    refine ⟨?_, hB⟩
    rw [HE.out]; rfl
  have e3 := Lib.hid (show (decide (1 ≤ P.fu)) = true from decide_eq_true (by omega))
  replace K := Lib.hid (K.out.trans (Oz.fst_t e3.out))
  have qe3 := q
  clear q
  by_cases q : 3000000000 - P.em < P.fu
  · have HE := Lib.hid (K.out.trans (Oz.fst_f (decide_eq_false (by omega))))
    go_wp2_with fail
    go_returns
    refine ⟨?_, hB⟩
    rw [HE.out]; rfl
  have e4 := Lib.hid (show (decide (P.fu ≤ 3000000000 - P.em)) = true from decide_eq_true (by omega))
  replace K := Lib.hid (K.out.trans (Oz.fst_t e4.out))
  have qe4 := q
  clear q
  by_cases q : (P.na : Int) < 2
  · have HE := Lib.hid (K.out.trans (Oz.fst_f (decide_eq_false (by omega))))
    have qn : P.na < 2 := by omega
    go_wp2_with fail
    go_returns
    refine ⟨?_, hB⟩
    rw [HE.out]; rfl
  have qnt4 : ¬ P.na < 2 := by omega
  have t4 := Lib.hid (show (decide (2 ≤ P.na)) = true from decide_eq_true (by omega))
  replace K := Lib.hid (K.out.trans (Oz.fst_t t4.out))
  have qt4 := q
  clear q
  by_cases q : (12 : Int) < (P.na : Int)
  · have HE := Lib.hid (K.out.trans (Oz.fst_f (decide_eq_false (by omega))))
    have qn : 12 < P.na := by omega
    go_wp2_with fail
    go_returns
    refine ⟨?_, hB⟩
    rw [HE.out]; rfl
  have qnt5 : ¬ 12 < P.na := by omega
  have t5 := Lib.hid (show (decide (P.na ≤ 12)) = true from decide_eq_true (by omega))
  replace K := Lib.hid (K.out.trans (Oz.fst_t t5.out))
  have qt5 := q
  clear q
  by_cases q : (P.nM : Int) < 2
  · have HE := Lib.hid (K.out.trans (Oz.fst_f (decide_eq_false (by omega))))
    have qn : P.nM < 2 := by omega
    go_wp2_with fail
    go_returns
    refine ⟨?_, hB⟩
    rw [HE.out]; rfl
  have qnt6 : ¬ P.nM < 2 := by omega
  have t6 := Lib.hid (show (decide (2 ≤ P.nM)) = true from decide_eq_true (by omega))
  replace K := Lib.hid (K.out.trans (Oz.fst_t t6.out))
  have qt6 := q
  clear q
  by_cases q : (6 : Int) < (P.nM : Int)
  · have HE := Lib.hid (K.out.trans (Oz.fst_f (decide_eq_false (by omega))))
    have qn : 6 < P.nM := by omega
    go_wp2_with fail
    go_returns
    refine ⟨?_, hB⟩
    rw [HE.out]; rfl
  have qnt7 : ¬ 6 < P.nM := by omega
  have t7 := Lib.hid (show (decide (P.nM ≤ 6)) = true from decide_eq_true (by omega))
  replace K := Lib.hid (K.out.trans (Oz.fst_t t7.out))
  have qt7 := q
  clear q
  go_wp2_with fail
  refine (r31shaped_c _ _ _ _ _ _ _ _ H.tC).mono ?_
  cases q : ((Oz.shT P.nC P.lC P.nM && decide (P.nC = P.na)))
  · have HE := Lib.hid (K.out.trans (Oz.fst_f q))
    clear q
    rintro e w_ ⟨rfl, rfl⟩
    go_wp2_with fail
    go_returns
    refine ⟨?_, hB⟩
    rw [HE.out]; rfl
  have t8 := Lib.hid q
  replace K := Lib.hid (K.out.trans (Oz.fst_t q))
  clear q
  rintro e w_ ⟨rfl, rfl⟩
  go_wp2_with fail
  refine (r31shaped_c _ _ _ _ _ _ _ _ H.tF).mono ?_
  cases q : ((Oz.shT P.nF P.lF P.nM && decide (P.nF = P.na)))
  · have HE := Lib.hid (K.out.trans (Oz.fst_f q))
    clear q
    rintro e w_ ⟨rfl, rfl⟩
    go_wp2_with fail
    go_returns
    refine ⟨?_, hB⟩
    rw [HE.out]; rfl
  have t9 := Lib.hid q
  replace K := Lib.hid (K.out.trans (Oz.fst_t q))
  clear q
  rintro e w_ ⟨rfl, rfl⟩
  go_wp2_with fail
  refine (r31shaped_c _ _ _ _ _ _ _ _ H.tR).mono ?_
  cases q : ((Oz.shT P.nR P.lR P.nM && decide (P.nR = P.na)))
  · have HE := Lib.hid (K.out.trans (Oz.fst_f q))
    clear q
    rintro e w_ ⟨rfl, rfl⟩
    go_wp2_with fail
    go_returns
    refine ⟨?_, hB⟩
    rw [HE.out]; rfl
  have t10 := Lib.hid q
  replace K := Lib.hid (K.out.trans (Oz.fst_t q))
  clear q
  rintro e w_ ⟨rfl, rfl⟩
  by_cases q : P.nD = P.na
  rotate_left
  · have HE := Lib.hid (K.out.trans (Oz.fst_f (decide_eq_false q)))
    have g1 : ((P.nD : Int) != (P.na : Int)) = true := by simp; omega
    clear q
    go_wp2_with fail
    go_returns
    refine ⟨?_, hB⟩
    rw [HE.out]; rfl
  have t11 := Lib.hid (show (decide (P.nD = P.na)) = true from decide_eq_true q)
  replace K := Lib.hid (K.out.trans (Oz.fst_t t11.out))
  have gt11 : ((P.nD : Int) != (P.na : Int)) = false := by simp; omega
  clear q
  by_cases q : P.nI = P.na
  rotate_left
  · have HE := Lib.hid (K.out.trans (Oz.fst_f (decide_eq_false q)))
    have g1 : ((P.nI : Int) != (P.na : Int)) = true := by simp; omega
    clear q
    go_wp2_with fail
    go_returns
    refine ⟨?_, hB⟩
    rw [HE.out]; rfl
  have t12 := Lib.hid (show (decide (P.nI = P.na)) = true from decide_eq_true q)
  replace K := Lib.hid (K.out.trans (Oz.fst_t t12.out))
  have gt12 : ((P.nI : Int) != (P.na : Int)) = false := by simp; omega
  clear q
  by_cases q : P.nX = P.na
  rotate_left
  · have HE := Lib.hid (K.out.trans (Oz.fst_f (decide_eq_false q)))
    have g1 : ((P.nX : Int) != (P.na : Int)) = true := by simp; omega
    clear q
    go_wp2_with fail
    go_returns
    refine ⟨?_, hB⟩
    rw [HE.out]; rfl
  have t13 := Lib.hid (show (decide (P.nX = P.na)) = true from decide_eq_true q)
  replace K := Lib.hid (K.out.trans (Oz.fst_t t13.out))
  have gt13 : ((P.nX : Int) != (P.na : Int)) = false := by simp; omega
  clear q
  by_cases q : P.nN = P.nM
  rotate_left
  · have HE := Lib.hid (K.out.trans (Oz.fst_f (decide_eq_false q)))
    have g1 : ((P.nN : Int) != (P.nM : Int)) = true := by simp; omega
    clear q
    go_wp2_with fail
    go_returns
    refine ⟨?_, hB⟩
    rw [HE.out]; rfl
  have t14 := Lib.hid (show (decide (P.nN = P.nM)) = true from decide_eq_true q)
  replace K := Lib.hid (K.out.trans (Oz.fst_t t14.out))
  have gt14 : ((P.nN : Int) != (P.nM : Int)) = false := by simp; omega
  clear q
  go_wp2_with fail
  refine (r31rising_c _ _ _ _ _ H.al).mono ?_
  cases q : (Oz.asB P.na P.al)
  · have HE := Lib.hid (K.out.trans (Oz.fst_f q))
    clear q
    rintro e w17 ⟨rfl, h17⟩
    replace H := H.keep h17
    replace G := G.keep h17
    replace hB := bt hB h17
    clear d0 d1 d2 d3 d4 d5 d6 d7 d8 d9 d10 d11 d12 d13 d14 d15 d16
    obtain ⟨d0, d1, d2, d3, d4, d5, d6, d7, d8, d9, d10, d11, d12, d13, d14, d15, d16⟩ := G.open15
    go_wp2_with fail
    go_returns
    refine ⟨?_, hB⟩
    rw [HE.out]; rfl
  have t15 := Lib.hid q
  replace K := Lib.hid (K.out.trans (Oz.fst_t q))
  clear q
  rintro e w17 ⟨rfl, h17⟩
  replace H := H.keep h17
  replace G := G.keep h17
  replace hB := bt hB h17
  clear d0 d1 d2 d3 d4 d5 d6 d7 d8 d9 d10 d11 d12 d13 d14 d15 d16
  obtain ⟨d0, d1, d2, d3, d4, d5, d6, d7, d8, d9, d10, d11, d12, d13, d14, d15, d16⟩ := G.open15
  go_wp2_with fail
  refine (r31rising_c _ _ _ _ _ H.ma).mono ?_
  cases q : (Oz.asB P.nM P.ma)
  · have HE := Lib.hid (K.out.trans (Oz.fst_f q))
    clear q
    rintro e w18 ⟨rfl, h18⟩
    replace H := H.keep h18
    replace G := G.keep h18
    replace hB := bt hB h18
    clear d0 d1 d2 d3 d4 d5 d6 d7 d8 d9 d10 d11 d12 d13 d14 d15 d16
    obtain ⟨d0, d1, d2, d3, d4, d5, d6, d7, d8, d9, d10, d11, d12, d13, d14, d15, d16⟩ := G.open15
    go_wp2_with fail
    go_returns
    refine ⟨?_, hB⟩
    rw [HE.out]; rfl
  have t16 := Lib.hid q
  replace K := Lib.hid (K.out.trans (Oz.fst_t q))
  clear q
  rintro e w18 ⟨rfl, h18⟩
  replace H := H.keep h18
  replace G := G.keep h18
  replace hB := bt hB h18
  clear d0 d1 d2 d3 d4 d5 d6 d7 d8 d9 d10 d11 d12 d13 d14 d15 d16
  obtain ⟨d0, d1, d2, d3, d4, d5, d6, d7, d8, d9, d10, d11, d12, d13, d14, d15, d16⟩ := G.open15
  go_wp2_with fail
  refine (r31within_c _ _ _ _ _ _ _ H.al).mono ?_
  cases q : (Oz.alB P.na P.al (-200000) 6000000)
  · have HE := Lib.hid (K.out.trans (Oz.fst_f q))
    clear q
    rintro e w_ ⟨rfl, rfl⟩
    go_wp2_with fail
    go_returns
    refine ⟨?_, hB⟩
    rw [HE.out]; rfl
  have t17 := Lib.hid q
  replace K := Lib.hid (K.out.trans (Oz.fst_t q))
  clear q
  rintro e w_ ⟨rfl, rfl⟩
  go_wp2_with fail
  refine (r31within_c _ _ _ (fun _ => P.ce) _ _ _ (rd_lit1 _ _ _ (by first | rfl | simp))).mono ?_
  cases q : (Oz.alB 1 (fun _ => P.ce) (-200000) 6000000)
  · have HE := Lib.hid (K.out.trans (Oz.fst_f q))
    clear q
    rintro e w_ ⟨rfl, rfl⟩
    replace H := H.keep (ba _ (.cells #[.int .i64 P.ce] 2))
    replace G := G.alloc (.cells #[.int .i64 P.ce] 2)
    replace hB := bal hB (.cells #[.int .i64 P.ce] 2)
    clear d0 d1 d2 d3 d4 d5 d6 d7 d8 d9 d10 d11 d12 d13 d14 d15 d16
    obtain ⟨d0, d1, d2, d3, d4, d5, d6, d7, d8, d9, d10, d11, d12, d13, d14, d15, d16⟩ := G.open15
    go_wp2_with fail
    go_returns
    refine ⟨?_, hB⟩
    rw [HE.out]; rfl
  have t18 := Lib.hid q
  replace K := Lib.hid (K.out.trans (Oz.fst_t q))
  clear q
  rintro e w_ ⟨rfl, rfl⟩
  replace H := H.keep (ba _ (.cells #[.int .i64 P.ce] 2))
  replace G := G.alloc (.cells #[.int .i64 P.ce] 2)
  replace hB := bal hB (.cells #[.int .i64 P.ce] 2)
  clear d0 d1 d2 d3 d4 d5 d6 d7 d8 d9 d10 d11 d12 d13 d14 d15 d16
  obtain ⟨d0, d1, d2, d3, d4, d5, d6, d7, d8, d9, d10, d11, d12, d13, d14, d15, d16⟩ := G.open15
  go_wp2_with fail
  refine (r31within_c _ _ _ _ _ _ _ H.ma).mono ?_
  cases q : (Oz.alB P.nM P.ma 1 3000000000)
  · have HE := Lib.hid (K.out.trans (Oz.fst_f q))
    clear q
    rintro e w_ ⟨rfl, rfl⟩
    go_wp2_with fail
    go_returns
    refine ⟨?_, hB⟩
    rw [HE.out]; rfl
  have t19 := Lib.hid q
  replace K := Lib.hid (K.out.trans (Oz.fst_t q))
  clear q
  rintro e w_ ⟨rfl, rfl⟩
  go_wp2_with fail
  refine (r31all_c _ _ _ _ _ _ _ _ H.tC).mono ?_
  cases q : (Oz.alT P.nC P.lC P.tC 0 10000)
  · have HE := Lib.hid (K.out.trans (Oz.fst_f q))
    clear q
    rintro e w_ ⟨rfl, rfl⟩
    go_wp2_with fail
    go_returns
    refine ⟨?_, hB⟩
    rw [HE.out]; rfl
  have t20 := Lib.hid q
  replace K := Lib.hid (K.out.trans (Oz.fst_t q))
  clear q
  rintro e w_ ⟨rfl, rfl⟩
  go_wp2_with fail
  refine (r31within_c _ _ _ _ _ _ _ H.dD).mono ?_
  cases q : (Oz.alB P.nD P.dD 1 10000)
  · have HE := Lib.hid (K.out.trans (Oz.fst_f q))
    clear q
    rintro e w_ ⟨rfl, rfl⟩
    go_wp2_with fail
    go_returns
    refine ⟨?_, hB⟩
    rw [HE.out]; rfl
  have t21 := Lib.hid q
  replace K := Lib.hid (K.out.trans (Oz.fst_t q))
  clear q
  rintro e w_ ⟨rfl, rfl⟩
  go_wp2_with fail
  refine (r31all_c _ _ _ _ _ _ _ _ H.tF).mono ?_
  cases q : (Oz.alT P.nF P.lF P.tF 0 50000)
  · have HE := Lib.hid (K.out.trans (Oz.fst_f q))
    clear q
    rintro e w_ ⟨rfl, rfl⟩
    go_wp2_with fail
    go_returns
    refine ⟨?_, hB⟩
    rw [HE.out]; rfl
  have t22 := Lib.hid q
  replace K := Lib.hid (K.out.trans (Oz.fst_t q))
  clear q
  rintro e w_ ⟨rfl, rfl⟩
  go_wp2_with fail
  refine (r31all_c _ _ _ _ _ _ _ _ H.tR).mono ?_
  cases q : (Oz.alT P.nR P.lR P.tR 0 50000)
  · have HE := Lib.hid (K.out.trans (Oz.fst_f q))
    clear q
    rintro e w_ ⟨rfl, rfl⟩
    go_wp2_with fail
    go_returns
    refine ⟨?_, hB⟩
    rw [HE.out]; rfl
  have t23 := Lib.hid q
  replace K := Lib.hid (K.out.trans (Oz.fst_t q))
  clear q
  rintro e w_ ⟨rfl, rfl⟩
  go_wp2_with fail
  refine (r31within_c _ _ _ _ _ _ _ H.dI).mono ?_
  cases q : (Oz.alB P.nI P.dI 0 50000)
  · have HE := Lib.hid (K.out.trans (Oz.fst_f q))
    clear q
    rintro e w_ ⟨rfl, rfl⟩
    go_wp2_with fail
    go_returns
    refine ⟨?_, hB⟩
    rw [HE.out]; rfl
  have t24 := Lib.hid q
  replace K := Lib.hid (K.out.trans (Oz.fst_t q))
  clear q
  rintro e w_ ⟨rfl, rfl⟩
  go_wp2_with fail
  refine (r31within_c _ _ _ _ _ _ _ H.dX).mono ?_
  cases q : (Oz.alB P.nX P.dX 1 1000)
  · have HE := Lib.hid (K.out.trans (Oz.fst_f q))
    clear q
    rintro e w_ ⟨rfl, rfl⟩
    go_wp2_with fail
    go_returns
    refine ⟨?_, hB⟩
    rw [HE.out]; rfl
  have t25 := Lib.hid q
  replace K := Lib.hid (K.out.trans (Oz.fst_t q))
  clear q
  rintro e w_ ⟨rfl, rfl⟩
  go_wp2_with fail
  refine (r31within_c _ _ _ _ _ _ _ H.dN).mono ?_
  cases q : (Oz.alB P.nN P.dN 1 1000)
  · have HE := Lib.hid (K.out.trans (Oz.fst_f q))
    clear q
    rintro e w_ ⟨rfl, rfl⟩
    go_wp2_with fail
    go_returns
    refine ⟨?_, hB⟩
    rw [HE.out]; rfl
  have t26 := Lib.hid q
  replace K := Lib.hid (K.out.trans (Oz.fst_t q))
  clear q
  rintro e w_ ⟨rfl, rfl⟩
  go_wp2_with fail
  refine (r31within_c _ _ _ (fun _ => P.rf) _ _ _ (rd_lit1 _ _ _ (by first | rfl | simp))).mono ?_
  cases q : (Oz.alB 1 (fun _ => P.rf) 1 1000)
  · have HE := Lib.hid (K.out.trans (Oz.fst_f q))
    clear q
    rintro e w_ ⟨rfl, rfl⟩
    replace H := H.keep (ba _ (.cells #[.int .i64 P.rf] 2))
    replace G := G.alloc (.cells #[.int .i64 P.rf] 2)
    replace hB := bal hB (.cells #[.int .i64 P.rf] 2)
    clear d0 d1 d2 d3 d4 d5 d6 d7 d8 d9 d10 d11 d12 d13 d14 d15 d16
    obtain ⟨d0, d1, d2, d3, d4, d5, d6, d7, d8, d9, d10, d11, d12, d13, d14, d15, d16⟩ := G.open15
    go_wp2_with fail
    go_returns
    refine ⟨?_, hB⟩
    rw [HE.out]; rfl
  have t27 := Lib.hid q
  replace K := Lib.hid (K.out.trans (Oz.fst_t q))
  clear q
  rintro e w_ ⟨rfl, rfl⟩
  replace H := H.keep (ba _ (.cells #[.int .i64 P.rf] 2))
  replace G := G.alloc (.cells #[.int .i64 P.rf] 2)
  replace hB := bal hB (.cells #[.int .i64 P.rf] 2)
  clear d0 d1 d2 d3 d4 d5 d6 d7 d8 d9 d10 d11 d12 d13 d14 d15 d16
  obtain ⟨d0, d1, d2, d3, d4, d5, d6, d7, d8, d9, d10, d11, d12, d13, d14, d15, d16⟩ := G.open15
  go_wp2_with fail
  refine (r31within_c _ _ _ (fun _ => P.xt) _ _ _ (rd_lit1 _ _ _ (by first | rfl | simp))).mono ?_
  cases q : (Oz.alB 1 (fun _ => P.xt) 0 100)
  · have HE := Lib.hid (K.out.trans (Oz.fst_f q))
    clear q
    rintro e w_ ⟨rfl, rfl⟩
    replace H := H.keep (ba _ (.cells #[.int .i64 P.xt] 2))
    replace G := G.alloc (.cells #[.int .i64 P.xt] 2)
    replace hB := bal hB (.cells #[.int .i64 P.xt] 2)
    clear d0 d1 d2 d3 d4 d5 d6 d7 d8 d9 d10 d11 d12 d13 d14 d15 d16
    obtain ⟨d0, d1, d2, d3, d4, d5, d6, d7, d8, d9, d10, d11, d12, d13, d14, d15, d16⟩ := G.open15
    go_wp2_with fail
    go_returns
    refine ⟨?_, hB⟩
    rw [HE.out]; rfl
  have t28 := Lib.hid q
  replace K := Lib.hid (K.out.trans (Oz.fst_t q))
  clear q
  rintro e w_ ⟨rfl, rfl⟩
  replace H := H.keep (ba _ (.cells #[.int .i64 P.xt] 2))
  replace G := G.alloc (.cells #[.int .i64 P.xt] 2)
  replace hB := bal hB (.cells #[.int .i64 P.xt] 2)
  clear d0 d1 d2 d3 d4 d5 d6 d7 d8 d9 d10 d11 d12 d13 d14 d15 d16
  obtain ⟨d0, d1, d2, d3, d4, d5, d6, d7, d8, d9, d10, d11, d12, d13, d14, d15, d16⟩ := G.open15
  go_wp2_with fail
  refine (r31climbs_c P Q _ H (of_decide_eq_true t6.out) (of_decide_eq_true t4.out) (Oz.sh_n t8.out) (Oz.sh_ln' t8.out) (Oz.al_bd' t8.out t20.out) (Oz.l_bd t17.out)).mono ?_
  cases q : (Oz.grid (Oz.cb P.al P.tC) P.na P.nM)
  · have HE := Lib.hid (K.out.trans (Oz.fst_f q))
    clear q
    rintro e w31 ⟨rfl, h31⟩
    replace H := H.keep h31
    replace G := G.keep h31
    replace hB := bt hB h31
    clear d0 d1 d2 d3 d4 d5 d6 d7 d8 d9 d10 d11 d12 d13 d14 d15 d16
    obtain ⟨d0, d1, d2, d3, d4, d5, d6, d7, d8, d9, d10, d11, d12, d13, d14, d15, d16⟩ := G.open15
    go_wp2_with fail
    go_returns
    refine ⟨?_, hB⟩
    rw [HE.out]; rfl
  have c29 := Lib.hid q
  replace K := Lib.hid (K.out.trans (Oz.fst_t q))
  clear q
  rintro e w31 ⟨rfl, h31⟩
  replace H := H.keep h31
  replace G := G.keep h31
  replace hB := bt hB h31
  clear d0 d1 d2 d3 d4 d5 d6 d7 d8 d9 d10 d11 d12 d13 d14 d15 d16
  obtain ⟨d0, d1, d2, d3, d4, d5, d6, d7, d8, d9, d10, d11, d12, d13, d14, d15, d16⟩ := G.open15
  go_wp2_with fail
  refine (r31flows_c _ _ _ _ _ _ _ H.tF (Oz.sh_ln t9.out)).mono ?_
  cases q : (Oz.grid (Oz.up1 P.tF) P.nF P.nM)
  · have HE := Lib.hid (K.out.trans (Oz.fst_f q))
    clear q
    rintro e w32 ⟨rfl, h32⟩
    replace H := H.keep h32
    replace G := G.keep h32
    replace hB := bt hB h32
    clear d0 d1 d2 d3 d4 d5 d6 d7 d8 d9 d10 d11 d12 d13 d14 d15 d16
    obtain ⟨d0, d1, d2, d3, d4, d5, d6, d7, d8, d9, d10, d11, d12, d13, d14, d15, d16⟩ := G.open15
    go_wp2_with fail
    go_returns
    refine ⟨?_, hB⟩
    rw [HE.out]; rfl
  have t31 := Lib.hid q
  replace K := Lib.hid (K.out.trans (Oz.fst_t q))
  clear q
  rintro e w32 ⟨rfl, h32⟩
  replace H := H.keep h32
  replace G := G.keep h32
  replace hB := bt hB h32
  clear d0 d1 d2 d3 d4 d5 d6 d7 d8 d9 d10 d11 d12 d13 d14 d15 d16
  obtain ⟨d0, d1, d2, d3, d4, d5, d6, d7, d8, d9, d10, d11, d12, d13, d14, d15, d16⟩ := G.open15
  go_wp2_with fail
  refine (r31flows_c _ _ _ _ _ _ _ H.tR (Oz.sh_ln t10.out)).mono ?_
  cases q : (Oz.grid (Oz.up1 P.tR) P.nR P.nM)
  · have HE := Lib.hid (K.out.trans (Oz.fst_f q))
    clear q
    rintro e w33 ⟨rfl, h33⟩
    replace H := H.keep h33
    replace G := G.keep h33
    replace hB := bt hB h33
    clear d0 d1 d2 d3 d4 d5 d6 d7 d8 d9 d10 d11 d12 d13 d14 d15 d16
    obtain ⟨d0, d1, d2, d3, d4, d5, d6, d7, d8, d9, d10, d11, d12, d13, d14, d15, d16⟩ := G.open15
    go_wp2_with fail
    go_returns
    refine ⟨?_, hB⟩
    rw [HE.out]; rfl
  have t32 := Lib.hid q
  replace K := Lib.hid (K.out.trans (Oz.fst_t q))
  clear q
  rintro e w33 ⟨rfl, h33⟩
  replace H := H.keep h33
  replace G := G.keep h33
  replace hB := bt hB h33
  clear d0 d1 d2 d3 d4 d5 d6 d7 d8 d9 d10 d11 d12 d13 d14 d15 d16
  obtain ⟨d0, d1, d2, d3, d4, d5, d6, d7, d8, d9, d10, d11, d12, d13, d14, d15, d16⟩ := G.open15
  go_wp2_with fail
  refine (r31level_c _ _ _ _ _ H.dD).mono ?_
  cases q : (Oz.lvB P.nD P.dD)
  · have HE := Lib.hid (K.out.trans (Oz.fst_f q))
    clear q
    rintro e w34 ⟨rfl, h34⟩
    replace H := H.keep h34
    replace G := G.keep h34
    replace hB := bt hB h34
    clear d0 d1 d2 d3 d4 d5 d6 d7 d8 d9 d10 d11 d12 d13 d14 d15 d16
    obtain ⟨d0, d1, d2, d3, d4, d5, d6, d7, d8, d9, d10, d11, d12, d13, d14, d15, d16⟩ := G.open15
    go_wp2_with fail
    go_returns
    refine ⟨?_, hB⟩
    rw [HE.out]; rfl
  have t33 := Lib.hid q
  replace K := Lib.hid (K.out.trans (Oz.fst_t q))
  clear q
  rintro e w34 ⟨rfl, h34⟩
  replace H := H.keep h34
  replace G := G.keep h34
  replace hB := bt hB h34
  clear d0 d1 d2 d3 d4 d5 d6 d7 d8 d9 d10 d11 d12 d13 d14 d15 d16
  obtain ⟨d0, d1, d2, d3, d4, d5, d6, d7, d8, d9, d10, d11, d12, d13, d14, d15, d16⟩ := G.open15
  go_wp2_with fail
  refine (r31falling_c _ _ _ _ _ H.dI).mono ?_
  cases q : (Oz.faB P.nI P.dI)
  · have HE := Lib.hid (K.out.trans (Oz.fst_f q))
    clear q
    rintro e w35 ⟨rfl, h35⟩
    replace H := H.keep h35
    replace G := G.keep h35
    replace hB := bt hB h35
    clear d0 d1 d2 d3 d4 d5 d6 d7 d8 d9 d10 d11 d12 d13 d14 d15 d16
    obtain ⟨d0, d1, d2, d3, d4, d5, d6, d7, d8, d9, d10, d11, d12, d13, d14, d15, d16⟩ := G.open15
    go_wp2_with fail
    go_returns
    refine ⟨?_, hB⟩
    rw [HE.out]; rfl
  have t34 := Lib.hid q
  replace K := Lib.hid (K.out.trans (Oz.fst_t q))
  clear q
  rintro e w35 ⟨rfl, h35⟩
  replace H := H.keep h35
  replace G := G.keep h35
  replace hB := bt hB h35
  clear d0 d1 d2 d3 d4 d5 d6 d7 d8 d9 d10 d11 d12 d13 d14 d15 d16
  obtain ⟨d0, d1, d2, d3, d4, d5, d6, d7, d8, d9, d10, d11, d12, d13, d14, d15, d16⟩ := G.open15
  go_wp2_with fail
  refine (r31falling_c _ _ _ _ _ H.dX).mono ?_
  cases q : (Oz.faB P.nX P.dX)
  · have HE := Lib.hid (K.out.trans (Oz.fst_f q))
    clear q
    rintro e w36 ⟨rfl, h36⟩
    replace H := H.keep h36
    replace G := G.keep h36
    replace hB := bt hB h36
    clear d0 d1 d2 d3 d4 d5 d6 d7 d8 d9 d10 d11 d12 d13 d14 d15 d16
    obtain ⟨d0, d1, d2, d3, d4, d5, d6, d7, d8, d9, d10, d11, d12, d13, d14, d15, d16⟩ := G.open15
    go_wp2_with fail
    go_returns
    refine ⟨?_, hB⟩
    rw [HE.out]; rfl
  have t35 := Lib.hid q
  replace K := Lib.hid (K.out.trans (Oz.fst_t q))
  clear q
  rintro e w36 ⟨rfl, h36⟩
  replace H := H.keep h36
  replace G := G.keep h36
  replace hB := bt hB h36
  clear d0 d1 d2 d3 d4 d5 d6 d7 d8 d9 d10 d11 d12 d13 d14 d15 d16
  obtain ⟨d0, d1, d2, d3, d4, d5, d6, d7, d8, d9, d10, d11, d12, d13, d14, d15, d16⟩ := G.open15
  go_wp2_with fail
  refine (r31level_c _ _ _ _ _ H.dN).mono ?_
  cases q : (Oz.lvB P.nN P.dN)
  · have HE := Lib.hid (K.out.trans (Oz.fst_f q))
    clear q
    rintro e w37 ⟨rfl, h37⟩
    replace H := H.keep h37
    replace G := G.keep h37
    replace hB := bt hB h37
    clear d0 d1 d2 d3 d4 d5 d6 d7 d8 d9 d10 d11 d12 d13 d14 d15 d16
    obtain ⟨d0, d1, d2, d3, d4, d5, d6, d7, d8, d9, d10, d11, d12, d13, d14, d15, d16⟩ := G.open15
    go_wp2_with fail
    go_returns
    refine ⟨?_, hB⟩
    rw [HE.out]; rfl
  have t36 := Lib.hid q
  replace K := Lib.hid (K.out.trans (Oz.fst_t q))
  clear q
  rintro e w37 ⟨rfl, h37⟩
  replace H := H.keep h37
  replace G := G.keep h37
  replace hB := bt hB h37
  clear d0 d1 d2 d3 d4 d5 d6 d7 d8 d9 d10 d11 d12 d13 d14 d15 d16
  obtain ⟨d0, d1, d2, d3, d4, d5, d6, d7, d8, d9, d10, d11, d12, d13, d14, d15, d16⟩ := G.open15
  have HE := Lib.hid (K.out.trans (show Oz.fst [] = 0 from rfl))
  go_wp2_with fail
  go_returns
  refine ⟨?_, hB⟩
  rw [HE.out]; rfl
end Go.Proofs.Ytoeklllahpegfaa
/-
  Plain: the reference's first error of a problem.
-/
namespace Go.Proofs.Ytoeklllahpegfaa
set_option linter.unusedVariables false
set_option linter.unusedSimpArgs false
open Go.RowKit

namespace Oz
def rzck (Z : ZD) : Int := fste [(decide (1 ≤ Z.nd), 3), (decide (Z.nd ≤ 24), 3), (decide (1 ≤ Z.nl), 3), (decide (Z.nl ≤ 8), 3), (decide (1 ≤ Z.ns), 3), (decide (Z.ns ≤ 6), 3), (decide (Z.nt = Z.nd), 1), (decide (Z.nm = Z.nd), 1), (decide (0 ≤ Z.fi), 1), (decide (Z.fi < Z.nl), 1), (decide (0 ≤ Z.la), 1), (decide (Z.la < Z.nl), 1), (shT Z.nt Z.lt Z.nl, 1), (asB Z.nl Z.lv, 9), (asB Z.ns Z.sp, 9), (alB Z.nd Z.ds 0 8000000, 2), (alB Z.nl Z.lv (-200000) 6000000, 2), (alB Z.ns Z.sp 1 1000, 2), (alB Z.nm Z.ms 1 3000000000, 2), (alT Z.nt Z.lt Z.tl (-400) 400, 2), (decide (0 ≤ Z.ix), 2), (decide (Z.ix ≤ 1000), 2), (decide (0 ≤ Z.cc), 2), (decide (Z.cc ≤ 1073741824), 2)] (rck Z.P)
end Oz
end Go.Proofs.Ytoeklllahpegfaa
/-
  Contracts: the reference's Check of a problem.
-/
namespace Go.Proofs.Ytoeklllahpegfaa
set_option linter.unusedVariables false
set_option linter.unusedSimpArgs false
open Go.RowKit
attribute [local irreducible] World.setCell World.cell?

set_option maxRecDepth 100000 in
set_option maxHeartbeats 16000000 in
theorem zrcheck_c (Z : ZD) (Y : ZA) (w : World) (H : ZIn w Z Y) : Calls Try.prog 13 #[.agg #[.slice Y.ds Z.nd Y.dsc, .slice Y.lv Z.nl Y.lvc, .slice Y.sp Z.ns Y.spc, .slice Y.tl Z.nt Y.tlc, .slice Y.ms Z.nm Y.msc, .string Z.P.nm, .int .i64 Z.P.em, .int .i64 Z.P.fu, .slice Y.Q.al Z.P.na Y.Q.alc, .slice Y.Q.ma Z.P.nM Y.Q.mac, .slice Y.Q.tC Z.P.nC Y.Q.tCc, .slice Y.Q.tF Z.P.nF Y.Q.tFc, .slice Y.Q.tR Z.P.nR Y.Q.tRc, .slice Y.Q.dD Z.P.nD Y.Q.dDc, .slice Y.Q.dI Z.P.nI Y.Q.dIc, .slice Y.Q.dX Z.P.nX Y.Q.dXc, .slice Y.Q.dN Z.P.nN Y.Q.dNc, .int .i64 Z.P.rf, .int .i64 Z.P.xt, .int .i64 Z.P.ce, .int .i64 Z.ix, .int .i64 Z.cc, .int .i64 Z.fi, .int .i64 Z.la]] w fun e w' => e = .returned (.int .i64 (Oz.rzck Z)) ∧ Below w.heap.size w w' := by
  have x1 := H.ds.le
  have x2 := H.ds.mx
  have x3 := H.lv.le
  have x4 := H.tl.le
  have x5 := H.tl.mx
  go_enter Try.func13, Try.ntmps13
  go_wp2_with fail
  have G := Blk.new w 27 #[.slice Y.ds Z.nd Y.dsc, .slice Y.lv Z.nl Y.lvc, .slice Y.sp Z.ns Y.spc, .slice Y.tl Z.nt Y.tlc, .slice Y.ms Z.nm Y.msc, .string Z.P.nm, .int .i64 Z.P.em, .int .i64 Z.P.fu, .slice Y.Q.al Z.P.na Y.Q.alc, .slice Y.Q.ma Z.P.nM Y.Q.mac, .slice Y.Q.tC Z.P.nC Y.Q.tCc, .slice Y.Q.tF Z.P.nF Y.Q.tFc, .slice Y.Q.tR Z.P.nR Y.Q.tRc, .slice Y.Q.dD Z.P.nD Y.Q.dDc, .slice Y.Q.dI Z.P.nI Y.Q.dIc, .slice Y.Q.dX Z.P.nX Y.Q.dXc, .slice Y.Q.dN Z.P.nN Y.Q.dNc, .int .i64 Z.P.rf, .int .i64 Z.P.xt, .int .i64 Z.P.ce, .int .i64 Z.ix, .int .i64 Z.cc, .int .i64 Z.fi, .int .i64 Z.la]
  have hB := ba w (.cells #[.slice Y.ds Z.nd Y.dsc, .slice Y.lv Z.nl Y.lvc, .slice Y.sp Z.ns Y.spc, .slice Y.tl Z.nt Y.tlc, .slice Y.ms Z.nm Y.msc, .string Z.P.nm, .int .i64 Z.P.em, .int .i64 Z.P.fu, .slice Y.Q.al Z.P.na Y.Q.alc, .slice Y.Q.ma Z.P.nM Y.Q.mac, .slice Y.Q.tC Z.P.nC Y.Q.tCc, .slice Y.Q.tF Z.P.nF Y.Q.tFc, .slice Y.Q.tR Z.P.nR Y.Q.tRc, .slice Y.Q.dD Z.P.nD Y.Q.dDc, .slice Y.Q.dI Z.P.nI Y.Q.dIc, .slice Y.Q.dX Z.P.nX Y.Q.dXc, .slice Y.Q.dN Z.P.nN Y.Q.dNc, .int .i64 Z.P.rf, .int .i64 Z.P.xt, .int .i64 Z.P.ce, .int .i64 Z.ix, .int .i64 Z.cc, .int .i64 Z.fi, .int .i64 Z.la] 27)
  replace H := H.keep hB
  have K := Lib.hid (show Oz.rzck Z = Oz.fste [(decide (1 ≤ Z.nd), 3), (decide (Z.nd ≤ 24), 3), (decide (1 ≤ Z.nl), 3), (decide (Z.nl ≤ 8), 3), (decide (1 ≤ Z.ns), 3), (decide (Z.ns ≤ 6), 3), (decide (Z.nt = Z.nd), 1), (decide (Z.nm = Z.nd), 1), (decide (0 ≤ Z.fi), 1), (decide (Z.fi < Z.nl), 1), (decide (0 ≤ Z.la), 1), (decide (Z.la < Z.nl), 1), (Oz.shT Z.nt Z.lt Z.nl, 1), (Oz.asB Z.nl Z.lv, 9), (Oz.asB Z.ns Z.sp, 9), (Oz.alB Z.nd Z.ds 0 8000000, 2), (Oz.alB Z.nl Z.lv (-200000) 6000000, 2), (Oz.alB Z.ns Z.sp 1 1000, 2), (Oz.alB Z.nm Z.ms 1 3000000000, 2), (Oz.alT Z.nt Z.lt Z.tl (-400) 400, 2), (decide (0 ≤ Z.ix), 2), (decide (Z.ix ≤ 1000), 2), (decide (0 ≤ Z.cc), 2), (decide (Z.cc ≤ 1073741824), 2)] (Oz.rck Z.P) from rfl)
  go_quiet (fail)
  have hB0 := bdnl hB ‹Nat›
  replace H := H.keep (bdn _ ‹Nat›)
  replace G := G.drewN ‹Nat›
  replace hB := hB0
  clear hB0
  obtain ⟨d0, d1, d2, d3, d4, d5, d6, d7, d8, d9, d10, d11, d12, d13, d14, d15, d16, d17, d18, d19, d20, d21, d22, d23, d24, d25⟩ := G.open24
  by_cases q : (Z.nd : Int) < 1
  · have HE := Lib.hid (K.out.trans (Oz.fste_f (decide_eq_false (by omega))))
    have qn : Z.nd < 1 := by omega
    go_wp2_with fail
    go_returns
    refine ⟨?_, hB⟩
    rw [HE.out]; rfl
  have qn1 : ¬ Z.nd < 1 := by omega
  replace K := Lib.hid (K.out.trans (Oz.fste_t (decide_eq_true (by omega))))
  have q1 := q
  clear q
  by_cases q : (24 : Int) < (Z.nd : Int)
  · have HE := Lib.hid (K.out.trans (Oz.fste_f (decide_eq_false (by omega))))
    have qn : 24 < Z.nd := by omega
    go_wp2_with fail
    go_returns
    refine ⟨?_, hB⟩
    rw [HE.out]; rfl
  have qn2 : ¬ 24 < Z.nd := by omega
  replace K := Lib.hid (K.out.trans (Oz.fste_t (decide_eq_true (by omega))))
  have q2 := q
  clear q
  by_cases q : (Z.nl : Int) < 1
  · have HE := Lib.hid (K.out.trans (Oz.fste_f (decide_eq_false (by omega))))
    have qn : Z.nl < 1 := by omega
    go_wp2_with fail
    go_returns
    refine ⟨?_, hB⟩
    rw [HE.out]; rfl
  have qn3 : ¬ Z.nl < 1 := by omega
  replace K := Lib.hid (K.out.trans (Oz.fste_t (decide_eq_true (by omega))))
  have q3 := q
  clear q
  by_cases q : (8 : Int) < (Z.nl : Int)
  · have HE := Lib.hid (K.out.trans (Oz.fste_f (decide_eq_false (by omega))))
    have qn : 8 < Z.nl := by omega
    go_wp2_with fail
    go_returns
    refine ⟨?_, hB⟩
    rw [HE.out]; rfl
  have qn4 : ¬ 8 < Z.nl := by omega
  replace K := Lib.hid (K.out.trans (Oz.fste_t (decide_eq_true (by omega))))
  have q4 := q
  clear q
  by_cases q : (Z.ns : Int) < 1
  · have HE := Lib.hid (K.out.trans (Oz.fste_f (decide_eq_false (by omega))))
    have qn : Z.ns < 1 := by omega
    go_wp2_with fail
    go_returns
    refine ⟨?_, hB⟩
    rw [HE.out]; rfl
  have qn5 : ¬ Z.ns < 1 := by omega
  replace K := Lib.hid (K.out.trans (Oz.fste_t (decide_eq_true (by omega))))
  have q5 := q
  clear q
  by_cases q : (6 : Int) < (Z.ns : Int)
  · have HE := Lib.hid (K.out.trans (Oz.fste_f (decide_eq_false (by omega))))
    have qn : 6 < Z.ns := by omega
    go_wp2_with fail
    go_returns
    refine ⟨?_, hB⟩
    rw [HE.out]; rfl
  have qn6 : ¬ 6 < Z.ns := by omega
  replace K := Lib.hid (K.out.trans (Oz.fste_t (decide_eq_true (by omega))))
  have q6 := q
  clear q
  by_cases q : Z.nt = Z.nd
  rotate_left
  · have HE := Lib.hid (K.out.trans (Oz.fste_f (decide_eq_false q)))
    have g1 : ((Z.nt : Int) != (Z.nd : Int)) = true := by simp; omega
    clear q
    go_wp2_with fail
    go_returns
    refine ⟨?_, hB⟩
    rw [HE.out]; rfl
  have g7 : ((Z.nt : Int) != (Z.nd : Int)) = false := by simp; omega
  replace K := Lib.hid (K.out.trans (Oz.fste_t (decide_eq_true q)))
  clear q
  by_cases q : Z.nm = Z.nd
  rotate_left
  · have HE := Lib.hid (K.out.trans (Oz.fste_f (decide_eq_false q)))
    have g1 : ((Z.nm : Int) != (Z.nd : Int)) = true := by simp; omega
    clear q
    go_wp2_with fail
    go_returns
    refine ⟨?_, hB⟩
    rw [HE.out]; rfl
  have g8 : ((Z.nm : Int) != (Z.nd : Int)) = false := by simp; omega
  replace K := Lib.hid (K.out.trans (Oz.fste_t (decide_eq_true q)))
  clear q
  by_cases q : Z.fi < 0
  · have HE := Lib.hid (K.out.trans (Oz.fste_f (decide_eq_false (by omega))))
    go_wp2_with fail
    go_returns
    refine ⟨?_, hB⟩
    rw [HE.out]; rfl
  replace K := Lib.hid (K.out.trans (Oz.fste_t (decide_eq_true (by omega))))
  have q9 := q
  clear q
  by_cases q : (Z.nl : Int) ≤ Z.fi
  · have HE := Lib.hid (K.out.trans (Oz.fste_f (decide_eq_false (by omega))))
    go_wp2_with fail
    go_returns
    refine ⟨?_, hB⟩
    rw [HE.out]; rfl
  replace K := Lib.hid (K.out.trans (Oz.fste_t (decide_eq_true (by omega))))
  have q10 := q
  clear q
  by_cases q : Z.la < 0
  · have HE := Lib.hid (K.out.trans (Oz.fste_f (decide_eq_false (by omega))))
    go_wp2_with fail
    go_returns
    refine ⟨?_, hB⟩
    rw [HE.out]; rfl
  replace K := Lib.hid (K.out.trans (Oz.fste_t (decide_eq_true (by omega))))
  have q11 := q
  clear q
  by_cases q : (Z.nl : Int) ≤ Z.la
  · have HE := Lib.hid (K.out.trans (Oz.fste_f (decide_eq_false (by omega))))
    go_wp2_with fail
    go_returns
    refine ⟨?_, hB⟩
    rw [HE.out]; rfl
  replace K := Lib.hid (K.out.trans (Oz.fste_t (decide_eq_true (by omega))))
  have q12 := q
  clear q
  go_wp2_with fail
  go_loopw [78] (fun i wr => ∃ k : Nat, k ≤ Z.nt ∧ i = .int .i64 k ∧ Hid (Oz.pre (fun i => decide (Z.lt i = Z.nl)) k = true) ∧ ZIn wr Z Y ∧ Blk wr w.heap.size 27 #[.slice Y.ds Z.nd Y.dsc, .slice Y.lv Z.nl Y.lvc, .slice Y.sp Z.ns Y.spc, .slice Y.tl Z.nt Y.tlc, .slice Y.ms Z.nm Y.msc, .string Z.P.nm, .int .i64 Z.P.em, .int .i64 Z.P.fu, .slice Y.Q.al Z.P.na Y.Q.alc, .slice Y.Q.ma Z.P.nM Y.Q.mac, .slice Y.Q.tC Z.P.nC Y.Q.tCc, .slice Y.Q.tF Z.P.nF Y.Q.tFc, .slice Y.Q.tR Z.P.nR Y.Q.tRc, .slice Y.Q.dD Z.P.nD Y.Q.dDc, .slice Y.Q.dI Z.P.nI Y.Q.dIc, .slice Y.Q.dX Z.P.nX Y.Q.dXc, .slice Y.Q.dN Z.P.nN Y.Q.dNc, .int .i64 Z.P.rf, .int .i64 Z.P.xt, .int .i64 Z.P.ce, .int .i64 Z.ix, .int .i64 Z.cc, .int .i64 Z.fi, .int .i64 Z.la] ∧ Below w.heap.size w wr) (fun i _ => Z.nt - (intOf i).toNat)
  case atStart => exact ⟨0, Nat.zero_le _, rfl, rfl, H, G, hB⟩
  case round =>
    clear H G hB
    clear d0 d1 d2 d3 d4 d5 d6 d7 d8 d9 d10 d11 d12 d13 d14 d15 d16 d17 d18 d19 d20 d21 d22 d23 d24 d25
    obtain ⟨k, hk, rfl, hok, H, G, hB⟩ := hrel
    obtain ⟨d0, d1, d2, d3, d4, d5, d6, d7, d8, d9, d10, d11, d12, d13, d14, d15, d16, d17, d18, d19, d20, d21, d22, d23, d24, d25⟩ := G.open24
    by_cases hlt : k < Z.nt
    · obtain ⟨b_, off_, X, cp, eA, hbl, ra0, RX⟩ := H.tl.at1 hlt
      have HA := Lib.hid eA
      rw [HA.out]
      clear eA
      by_cases e : Z.lt k = Z.nl
      · have HO := Lib.hid (Oz.pre_step (p := fun i => decide (Z.lt i = Z.nl)) hok.out (decide_eq_true e))
        have g1_ : ((Z.lt k : Int) != (Z.nl : Int)) = false := by simp; omega
        clear e
        go_wp2_with fail
        try rw [← HA.out]
        go_roundw
        case rel => exact ⟨k + 1, by omega, by go_num, HO, H, G, hB⟩
        case measure => simp [intOf]; omega
      · have HE := Lib.hid (K.out.trans (Oz.fste_f (Oz.pre_no hlt (decide_eq_false e))))
        have g1_ : ((Z.lt k : Int) != (Z.nl : Int)) = true := by simp; omega
        clear e
        go_wp2_with fail
        go_returns
        refine ⟨?_, hB⟩
        rw [HE.out]; rfl
    have ek : k = Z.nt := by omega
    have hk2 : ¬ (k : Int) < (Z.nt : Int) := by omega
    replace K := Lib.hid (K.out.trans (Oz.fste_t (by rw [← ek]; exact hok.out)))
    clear hlt hk
    go_wp2_with fail
    refine (rrising_c _ _ _ _ _ H.lv).mono ?_
    cases q : (Oz.asB Z.nl Z.lv)
    · have HE := Lib.hid (K.out.trans (Oz.fste_f q))
      clear q
      rintro e w14 ⟨rfl, h14⟩
      replace H := H.keep h14
      replace G := G.keep h14
      replace hB := bt hB h14
      clear d0 d1 d2 d3 d4 d5 d6 d7 d8 d9 d10 d11 d12 d13 d14 d15 d16 d17 d18 d19 d20 d21 d22 d23 d24 d25
      obtain ⟨d0, d1, d2, d3, d4, d5, d6, d7, d8, d9, d10, d11, d12, d13, d14, d15, d16, d17, d18, d19, d20, d21, d22, d23, d24, d25⟩ := G.open24
      go_wp2_with fail
      go_returns
      refine ⟨?_, hB⟩
      rw [HE.out]; rfl
    replace K := Lib.hid (K.out.trans (Oz.fste_t q))
    clear q
    rintro e w14 ⟨rfl, h14⟩
    replace H := H.keep h14
    replace G := G.keep h14
    replace hB := bt hB h14
    clear d0 d1 d2 d3 d4 d5 d6 d7 d8 d9 d10 d11 d12 d13 d14 d15 d16 d17 d18 d19 d20 d21 d22 d23 d24 d25
    obtain ⟨d0, d1, d2, d3, d4, d5, d6, d7, d8, d9, d10, d11, d12, d13, d14, d15, d16, d17, d18, d19, d20, d21, d22, d23, d24, d25⟩ := G.open24
    go_wp2_with fail
    refine (rrising_c _ _ _ _ _ H.sp).mono ?_
    cases q : (Oz.asB Z.ns Z.sp)
    · have HE := Lib.hid (K.out.trans (Oz.fste_f q))
      clear q
      rintro e w15 ⟨rfl, h15⟩
      replace H := H.keep h15
      replace G := G.keep h15
      replace hB := bt hB h15
      clear d0 d1 d2 d3 d4 d5 d6 d7 d8 d9 d10 d11 d12 d13 d14 d15 d16 d17 d18 d19 d20 d21 d22 d23 d24 d25
      obtain ⟨d0, d1, d2, d3, d4, d5, d6, d7, d8, d9, d10, d11, d12, d13, d14, d15, d16, d17, d18, d19, d20, d21, d22, d23, d24, d25⟩ := G.open24
      go_wp2_with fail
      go_returns
      refine ⟨?_, hB⟩
      rw [HE.out]; rfl
    replace K := Lib.hid (K.out.trans (Oz.fste_t q))
    clear q
    rintro e w15 ⟨rfl, h15⟩
    replace H := H.keep h15
    replace G := G.keep h15
    replace hB := bt hB h15
    clear d0 d1 d2 d3 d4 d5 d6 d7 d8 d9 d10 d11 d12 d13 d14 d15 d16 d17 d18 d19 d20 d21 d22 d23 d24 d25
    obtain ⟨d0, d1, d2, d3, d4, d5, d6, d7, d8, d9, d10, d11, d12, d13, d14, d15, d16, d17, d18, d19, d20, d21, d22, d23, d24, d25⟩ := G.open24
    go_wp2_with fail
    refine (rwithin_c _ _ _ _ _ _ _ H.ds).mono ?_
    cases q : (Oz.alB Z.nd Z.ds 0 8000000)
    · have HE := Lib.hid (K.out.trans (Oz.fste_f q))
      clear q
      rintro e w_ ⟨rfl, rfl⟩
      go_wp2_with fail
      go_returns
      refine ⟨?_, hB⟩
      rw [HE.out]; rfl
    replace K := Lib.hid (K.out.trans (Oz.fste_t q))
    clear q
    rintro e w_ ⟨rfl, rfl⟩
    go_wp2_with fail
    refine (rwithin_c _ _ _ _ _ _ _ H.lv).mono ?_
    cases q : (Oz.alB Z.nl Z.lv (-200000) 6000000)
    · have HE := Lib.hid (K.out.trans (Oz.fste_f q))
      clear q
      rintro e w_ ⟨rfl, rfl⟩
      go_wp2_with fail
      go_returns
      refine ⟨?_, hB⟩
      rw [HE.out]; rfl
    replace K := Lib.hid (K.out.trans (Oz.fste_t q))
    clear q
    rintro e w_ ⟨rfl, rfl⟩
    go_wp2_with fail
    refine (rwithin_c _ _ _ _ _ _ _ H.sp).mono ?_
    cases q : (Oz.alB Z.ns Z.sp 1 1000)
    · have HE := Lib.hid (K.out.trans (Oz.fste_f q))
      clear q
      rintro e w_ ⟨rfl, rfl⟩
      go_wp2_with fail
      go_returns
      refine ⟨?_, hB⟩
      rw [HE.out]; rfl
    replace K := Lib.hid (K.out.trans (Oz.fste_t q))
    clear q
    rintro e w_ ⟨rfl, rfl⟩
    go_wp2_with fail
    refine (rwithin_c _ _ _ _ _ _ _ H.ms).mono ?_
    cases q : (Oz.alB Z.nm Z.ms 1 3000000000)
    · have HE := Lib.hid (K.out.trans (Oz.fste_f q))
      clear q
      rintro e w_ ⟨rfl, rfl⟩
      go_wp2_with fail
      go_returns
      refine ⟨?_, hB⟩
      rw [HE.out]; rfl
    replace K := Lib.hid (K.out.trans (Oz.fste_t q))
    clear q
    rintro e w_ ⟨rfl, rfl⟩
    go_wp2_with fail
    go_loopw [122] (fun i wr => ∃ k : Nat, k ≤ Z.nt ∧ i = .int .i64 k ∧ Hid (Oz.pre (fun i => Oz.alB (Z.lt i) (Z.tl i) (-400) 400) k = true) ∧ ZIn wr Z Y ∧ Blk wr w.heap.size 27 #[.slice Y.ds Z.nd Y.dsc, .slice Y.lv Z.nl Y.lvc, .slice Y.sp Z.ns Y.spc, .slice Y.tl Z.nt Y.tlc, .slice Y.ms Z.nm Y.msc, .string Z.P.nm, .int .i64 Z.P.em, .int .i64 Z.P.fu, .slice Y.Q.al Z.P.na Y.Q.alc, .slice Y.Q.ma Z.P.nM Y.Q.mac, .slice Y.Q.tC Z.P.nC Y.Q.tCc, .slice Y.Q.tF Z.P.nF Y.Q.tFc, .slice Y.Q.tR Z.P.nR Y.Q.tRc, .slice Y.Q.dD Z.P.nD Y.Q.dDc, .slice Y.Q.dI Z.P.nI Y.Q.dIc, .slice Y.Q.dX Z.P.nX Y.Q.dXc, .slice Y.Q.dN Z.P.nN Y.Q.dNc, .int .i64 Z.P.rf, .int .i64 Z.P.xt, .int .i64 Z.P.ce, .int .i64 Z.ix, .int .i64 Z.cc, .int .i64 Z.fi, .int .i64 Z.la] ∧ Below w.heap.size w wr) (fun i _ => Z.nt - (intOf i).toNat)
    case atStart => exact ⟨0, Nat.zero_le _, rfl, rfl, H, G, hB⟩
    case round =>
      clear H G hB
      clear d0 d1 d2 d3 d4 d5 d6 d7 d8 d9 d10 d11 d12 d13 d14 d15 d16 d17 d18 d19 d20 d21 d22 d23 d24 d25
      obtain ⟨k, hk, rfl, hok, H, G, hB⟩ := hrel
      obtain ⟨d0, d1, d2, d3, d4, d5, d6, d7, d8, d9, d10, d11, d12, d13, d14, d15, d16, d17, d18, d19, d20, d21, d22, d23, d24, d25⟩ := G.open24
      by_cases hlt : k < Z.nt
      · obtain ⟨b_, off_, X, cp, eA, hbl, ra0, RX⟩ := H.tl.at1 hlt
        have HA := Lib.hid eA
        rw [HA.out]
        clear eA
        go_wp2_with fail
        refine (rwithin_c _ _ _ _ _ _ _ RX).mono ?_
        cases q : Oz.alB (Z.lt k) (Z.tl k) (-400) 400
        · have HE := Lib.hid (K.out.trans (Oz.fste_f (Oz.pre_no hlt q)))
          clear q
          rintro e w_ ⟨rfl, rfl⟩
          go_wp2_with fail
          go_returns
          refine ⟨?_, hB⟩
          rw [HE.out]; rfl
        have HO := Lib.hid (Oz.pre_step (p := fun i => Oz.alB (Z.lt i) (Z.tl i) (-400) 400) hok.out q)
        clear q
        rintro e w_ ⟨rfl, rfl⟩
        go_wp2_with fail
        try rw [← HA.out]
        go_roundw
        case rel => exact ⟨k + 1, by omega, by go_num, HO, H, G, hB⟩
        case measure => simp [intOf]; omega
      have ek : k = Z.nt := by omega
      have hk2 : ¬ (k : Int) < (Z.nt : Int) := by omega
      replace K := Lib.hid (K.out.trans (Oz.fste_t (by rw [← ek]; exact hok.out)))
      clear hlt hk
      by_cases q : Z.ix < 0
      · have HE := Lib.hid (K.out.trans (Oz.fste_f (decide_eq_false (by omega))))
        go_wp2_with fail
        go_returns
        refine ⟨?_, hB⟩
        rw [HE.out]; rfl
      replace K := Lib.hid (K.out.trans (Oz.fste_t (decide_eq_true (by omega))))
      have q21 := q
      clear q
      by_cases q : 1000 < Z.ix
      · have HE := Lib.hid (K.out.trans (Oz.fste_f (decide_eq_false (by omega))))
        go_wp2_with fail
        go_returns
        refine ⟨?_, hB⟩
        rw [HE.out]; rfl
      replace K := Lib.hid (K.out.trans (Oz.fste_t (decide_eq_true (by omega))))
      have q22 := q
      clear q
      by_cases q : Z.cc < 0
      · have HE := Lib.hid (K.out.trans (Oz.fste_f (decide_eq_false (by omega))))
        go_wp2_with fail
        go_returns
        refine ⟨?_, hB⟩
        rw [HE.out]; rfl
      replace K := Lib.hid (K.out.trans (Oz.fste_t (decide_eq_true (by omega))))
      have q23 := q
      clear q
      by_cases q : 1073741824 < Z.cc
      · have HE := Lib.hid (K.out.trans (Oz.fste_f (decide_eq_false (by omega))))
        go_wp2_with fail
        go_returns
        refine ⟨?_, hB⟩
        rw [HE.out]; rfl
      replace K := Lib.hid (K.out.trans (Oz.fste_t (decide_eq_true (by omega))))
      have q24 := q
      clear q
      go_wp2_with fail
      refine (r31check_c Z.P Y.Q _ H.P).mono ?_
      rintro e w9 ⟨rfl, h9⟩
      have HE := Lib.hid (K.out.trans (show Oz.fste [] (Oz.rck Z.P) = Oz.rck Z.P from rfl))
      replace hB := bt hB h9
      go_wp2_with fail
      go_returns
      refine ⟨?_, hB⟩
      rw [HE.out]; rfl
end Go.Proofs.Ytoeklllahpegfaa
/-
  Plain: both first errors of a problem agree.
-/
namespace Go.Proofs.Ytoeklllahpegfaa
set_option linter.unusedVariables false
set_option linter.unusedSimpArgs false
namespace Oz
theorem fste_cong {b b' : Bool} {c e e' : Int} {t t' : List (Bool × Int)} (hb : b = b') (h : b = true → fste t e = fste t' e') : fste ((b, c) :: t) e = fste ((b', c) :: t') e' := by
  subst hb
  cases b
  · rfl
  · exact h rfl
theorem fste_and {a b : Bool} {c e : Int} {t : List (Bool × Int)} : fste ((a, c) :: (b, c) :: t) e = fste ((a && b, c) :: t) e := by cases a <;> cases b <;> rfl
theorem zck_same (Z : ZD) : rzck Z = zck Z := by
  unfold rzck zck
  refine fste_cong rfl fun _ => ?_
  refine fste_cong rfl fun _ => ?_
  refine fste_cong rfl fun _ => ?_
  refine fste_cong rfl fun _ => ?_
  refine fste_cong rfl fun _ => ?_
  refine fste_cong rfl fun _ => ?_
  rw [fste_and, fste_and, fste_and, fste_and, fste_and, fste_and]
  refine fste_cong (by simp only [s0, ixB, Bool.decide_and, Bool.and_assoc]) fun _ => ?_
  refine fste_cong rfl fun _ => ?_
  refine fste_cong rfl fun _ => ?_
  rw [fste_and, fste_and, fste_and, fste_and, fste_and, fste_and, fste_and, fste_and]
  refine fste_cong (by simp only [o0, alB_one, inB, Bool.decide_and, Bool.and_assoc, Bool.and_comm, Bool.and_left_comm]) fun _ => ?_
  exact ck_same Z.P
end Oz
end Go.Proofs.Ytoeklllahpegfaa
/-
  Contract: the reference's Check of a problem, in the program's words.
-/
namespace Go.Proofs.Ytoeklllahpegfaa
set_option linter.unusedVariables false
set_option linter.unusedSimpArgs false
open Go.RowKit
theorem rcheck_z (Z : ZD) (Y : ZA) (w : World) (H : ZIn w Z Y) : Calls Try.prog 13 #[.agg #[.slice Y.ds Z.nd Y.dsc, .slice Y.lv Z.nl Y.lvc, .slice Y.sp Z.ns Y.spc, .slice Y.tl Z.nt Y.tlc, .slice Y.ms Z.nm Y.msc, .string Z.P.nm, .int .i64 Z.P.em, .int .i64 Z.P.fu, .slice Y.Q.al Z.P.na Y.Q.alc, .slice Y.Q.ma Z.P.nM Y.Q.mac, .slice Y.Q.tC Z.P.nC Y.Q.tCc, .slice Y.Q.tF Z.P.nF Y.Q.tFc, .slice Y.Q.tR Z.P.nR Y.Q.tRc, .slice Y.Q.dD Z.P.nD Y.Q.dDc, .slice Y.Q.dI Z.P.nI Y.Q.dIc, .slice Y.Q.dX Z.P.nX Y.Q.dXc, .slice Y.Q.dN Z.P.nN Y.Q.dNc, .int .i64 Z.P.rf, .int .i64 Z.P.xt, .int .i64 Z.P.ce, .int .i64 Z.ix, .int .i64 Z.cc, .int .i64 Z.fi, .int .i64 Z.la]] w fun e w' => e = .returned (.int .i64 (Oz.zck Z)) ∧ Below w.heap.size w w' := by
  have K := zrcheck_c Z Y w H
  rw [Oz.zck_same] at K
  exact K
end Go.Proofs.Ytoeklllahpegfaa
