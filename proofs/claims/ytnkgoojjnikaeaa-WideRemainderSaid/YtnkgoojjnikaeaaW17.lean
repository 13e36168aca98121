/-
  Contracts: the reference's division by one word.
-/
import Derived.Test.YtnkgoojjnikaeaaW12
namespace Go.Proofs.Ytnkgoojjnikaeaa
set_option linter.unusedVariables false
set_option linter.unusedSimpArgs false
open Go.RowKit

theorem ret_u3 {a b c a' b' c' : Int} (e1 : a = a') (e2 : b = b') (e3 : c = c') : Ending.returned (.tuple #[.int .u64 a, .int .u64 b, .int .u64 c]) = .returned (.tuple #[.int .u64 a', .int .u64 b', .int .u64 c']) := by rw [e1, e2, e3]
set_option maxRecDepth 100000 in
set_option maxHeartbeats 4000000 in
theorem rdiv1_c (h l x d : Int) (w : World) (H : Wi.Sz h l x) (hd : 0 < d) (hd2 : d ≤ 18446744073709551615) : Calls Try.prog 59 #[.int .u64 h, .int .u64 l, .int .u64 d] w fun e w' =>
    e = .returned (.tuple #[.int .u64 (Wi.Hq (x / d)), .int .u64 (Wi.Lr (x / d)), .int .u64 (x % d)]) ∧ w = w' := by
  go_enter Try.func59, Try.ntmps59
  go_wp2_with fail
  go_loop [0, 1, 6, 7, 8, 9] (fun v0 v1 v6 v7 v8 v9 => ∃ (i : Nat) (hi lo qh ql r S Y : Int), i ≤ 128 ∧ v9 = .int .i64 i ∧ v0 = .int .u64 hi ∧ v1 = .int .u64 lo ∧ v6 = .int .u64 qh ∧ v7 = .int .u64 ql ∧ v8 = .int .u64 r ∧
      Wi.Shf x i S Y ∧ Wi.Sz hi lo Y ∧ Wi.Sz qh ql (S / d) ∧ Hid (r = S % d)) (fun _ _ _ _ _ v9 => 128 - (intOf v9).toNat)
  case atStart =>
    exact ⟨0, h, l, 0, 0, 0, 0, x, by omega, rfl, rfl, rfl, rfl, rfl, rfl, Wi.shf_0 H.hv, H, by rw [Int.zero_ediv]; exact ⟨rfl, rfl, by unfold Wi.inS; omega⟩, Lib.hid (Int.zero_emod d).symm⟩
  case round =>
    obtain ⟨i, hi, lo, qh, ql, r, S, Y, hi128, rfl, rfl, rfl, rfl, rfl, rfl, hS, HY, HQ, HR⟩ := hrel
    by_cases hlt : i < 128
    rotate_left
    · obtain rfl : i = 128 := by omega
      obtain ⟨e1, e2⟩ := Wi.shf_end hS
      have E1 := Lib.hid e1
      clear e1 e2
      go_wp2_with fail
      go_returns
      rw [E1.out] at HQ HR
      exact ⟨ret_u3 HQ.hh HQ.hl HR.out, rfl⟩
    obtain ⟨b, b0, b1, hb, hS2, r0, r1, q0, q1, st1, st2⟩ := rd_step H.hv hd hlt hS
    rw [← HR.out] at r0 r1 st1 st2
    obtain ⟨y1, y2, y3, y4, yv⟩ := HY.bd
    obtain ⟨k1, k2, k3, k4, kv⟩ := HQ.bd
    have k5 : qh ≤ 9223372036854775807 := by omega
    have m4 : r ≤ 18446744073709551615 := by omega
    have hb2 : b = hi / 9223372036854775808 := by omega
    have HB := Lib.hid hb2
    have YV := Lib.hid yv
    have KV := Lib.hid kv
    have ST1 := Lib.hid st1
    have ST2 := Lib.hid st2
    have R1 := Lib.hid r1
    clear hb hb2 yv kv st1 st2 r1 HR HQ HY
    obtain ⟨A2, a3, a4, hA2, eA2⟩ := or_ex (b := hi / 9223372036854775808) r0 m4 (by omega) (by omega)
    obtain ⟨A3, a5, a6, hA3, eA3⟩ := or_ex (b := lo / 9223372036854775808) y1 y2 (by omega) (by omega)
    obtain ⟨A4, a7, a8, hA4, eA4⟩ := @sh_ex lo
    obtain ⟨A5, a9, a10, hA5, eA5⟩ := or_ex' (b := ql / 9223372036854775808) k1 k5 (by omega) (by omega)
    obtain ⟨A6, a11, a12, hA6, eA6⟩ := @sh_ex ql
    have hQ5 : ∃ A7, bits .or .u64 A6 1 = A7 ∧ Hid (A7 = A6 + 1) := ⟨_, rfl, Lib.hid (by rw [← eA6, or_bit k3 (by omega) (by omega), IntKind.wrap_u64])⟩
    obtain ⟨A7, eA7, hA7⟩ := hQ5
    obtain ⟨A8, k8, a13, a14, hA8, eA8⟩ := wsub_ex A2 d a3 a4 (by omega) hd2
    by_cases ht : 9223372036854775808 ≤ r
    · have hb1 : (r / 9223372036854775808 == 1) = true := by simp; omega
      go_wp2_with fail
      have e2 := hA2.out
      have e3 := hA3.out
      have e4 := hA4.out
      have e5 := hA5.out
      have e6 := hA6.out
      have e7 := hA7.out
      have e8 := hA8.out
      have yv := YV.out
      have kv := KV.out
      have hb := HB.out
      have r1 := R1.out
      obtain ⟨z1, z2⟩ := ST1.out (by omega)
      clear eA2 eA3 eA4 eA5 eA6 eA7 eA8 hA2 hA3 hA4 hA5 hA6 hA7 hA8 YV KV HB R1 ST1 ST2
      go_round
      case rel =>
        refine ⟨i + 1, _, _, _, _, _, 2 * S + b, 2 * Y % 340282366920938463463374607431768211456, by omega, by go_num, rfl, rfl, rfl, rfl, rfl, hS2, Wi.sz_of ?_ ?_ ?_ ?_ ?_, Wi.sz_of ?_ ?_ ?_ ?_ ?_, Lib.hid ?_⟩
        all_goals omega
      case measure => first | (simp [intOf]; done) | (simp [intOf]; omega)
    have hb1 : (r / 9223372036854775808 == 1) = false := by simp; omega
    rw [IntWalk.u64_in (r * 2) ⟨by omega, by omega⟩] at eA2
    by_cases hc : d ≤ A2
    · skip
      go_wp2_with fail
      have e2 := hA2.out
      have e3 := hA3.out
      have e4 := hA4.out
      have e5 := hA5.out
      have e6 := hA6.out
      have e7 := hA7.out
      have e8 := hA8.out
      have yv := YV.out
      have kv := KV.out
      have hb := HB.out
      have r1 := R1.out
      obtain ⟨z1, z2⟩ := ST1.out (by omega)
      clear eA2 eA3 eA4 eA5 eA6 eA7 eA8 hA2 hA3 hA4 hA5 hA6 hA7 hA8 YV KV HB R1 ST1 ST2
      go_round
      case rel =>
        refine ⟨i + 1, _, _, _, _, _, 2 * S + b, 2 * Y % 340282366920938463463374607431768211456, by omega, by go_num, rfl, rfl, rfl, rfl, rfl, hS2, Wi.sz_of ?_ ?_ ?_ ?_ ?_, Wi.sz_of ?_ ?_ ?_ ?_ ?_, Lib.hid ?_⟩
        all_goals omega
      case measure => first | (simp [intOf]; done) | (simp [intOf]; omega)
    · skip
      go_wp2_with fail
      have e2 := hA2.out
      have e3 := hA3.out
      have e4 := hA4.out
      have e5 := hA5.out
      have e6 := hA6.out
      have e7 := hA7.out
      have e8 := hA8.out
      have yv := YV.out
      have kv := KV.out
      have hb := HB.out
      have r1 := R1.out
      obtain ⟨z1, z2⟩ := ST2.out (by omega)
      clear eA2 eA3 eA4 eA5 eA6 eA7 eA8 hA2 hA3 hA4 hA5 hA6 hA7 hA8 YV KV HB R1 ST1 ST2
      go_round
      case rel =>
        refine ⟨i + 1, _, _, _, _, _, 2 * S + b, 2 * Y % 340282366920938463463374607431768211456, by omega, by go_num, rfl, rfl, rfl, rfl, rfl, hS2, Wi.sz_of ?_ ?_ ?_ ?_ ?_, Wi.sz_of ?_ ?_ ?_ ?_ ?_, Lib.hid ?_⟩
        all_goals omega
      case measure => first | (simp [intOf]; done) | (simp [intOf]; omega)
end Go.Proofs.Ytnkgoojjnikaeaa
