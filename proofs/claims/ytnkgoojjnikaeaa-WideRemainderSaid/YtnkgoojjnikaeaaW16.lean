/-
  Contracts: bits.Div64.
-/
import Derived.Test.YtnkgoojjnikaeaaW12
import Derived.Test.YtnkgoojjnikaeaaW5
import Derived.Test.YtnkgoojjnikaeaaPlain5
import Derived.Test.YtnkgoojjnikaeaaLen
import Derived.Deep.DeepCutAuto
import Derived.Deep.CutBlock
namespace Go.Proofs.Ytnkgoojjnikaeaa
set_option linter.unusedVariables false
set_option linter.unusedSimpArgs false
open Go.RowKit

/-- The two words of a shifted number. -/
theorem shift_words {hi lo y : Int} {s : Nat} (hs : s ≤ 63) (h1 : 0 ≤ hi) (h2 : hi < y) (h3 : 0 ≤ lo) (h4 : lo ≤ 18446744073709551615) (hy : y * 2 ^ s ≤ 18446744073709551615) :
    ∃ U L : Int, 0 ≤ U ∧ U < y * 2 ^ s ∧ 0 ≤ L ∧ L ≤ 18446744073709551615 ∧ U * 18446744073709551616 + L = (hi * 18446744073709551616 + lo) * 2 ^ s ∧
      bits .or .u64 (IntKind.u64.wrap (hi * 2 ^ s)) (lo / 2 ^ (64 - s)) = U ∧ IntKind.u64.wrap (lo * 2 ^ s) = L := by
  have hp : (0 : Int) < 2 ^ s := Int.pow_pos (by decide)
  have hp2 : (0 : Int) < 2 ^ (64 - s) := Int.pow_pos (by decide)
  have e : (2 : Int) ^ s * 2 ^ (64 - s) = 18446744073709551616 := by rw [← Int.pow_add, show s + (64 - s) = 64 by omega]; rfl
  have k1 : (hi + 1) * 2 ^ s ≤ y * 2 ^ s := Int.mul_le_mul_of_nonneg_right (by omega) (by omega)
  rw [Int.add_mul, Int.one_mul] at k1
  have k2 : 0 ≤ hi * 2 ^ s := Int.mul_nonneg h1 (by omega)
  have k3 : lo / 2 ^ (64 - s) < 2 ^ s := Int.ediv_lt_of_lt_mul hp2 (by rw [e]; omega)
  have k4 : 0 ≤ lo / 2 ^ (64 - s) := Int.ediv_nonneg h3 (by omega)
  have o := or_parts (a := hi) (b := lo / 2 ^ (64 - s)) s h1 k4 k3 (by omega) (by omega)
  have m := Int.mul_ediv_add_emod lo (2 ^ (64 - s))
  have m0 := Int.emod_nonneg lo (show (2 : Int) ^ (64 - s) ≠ 0 by omega)
  have m1 := Int.emod_lt_of_pos lo hp2
  have k5 : lo * 2 ^ s = lo / 2 ^ (64 - s) * 18446744073709551616 + lo % 2 ^ (64 - s) * 2 ^ s := by
    have : lo * 2 ^ s = (2 ^ (64 - s) * (lo / 2 ^ (64 - s)) + lo % 2 ^ (64 - s)) * 2 ^ s := by rw [m]
    rw [this, Int.add_mul, Int.mul_comm (2 ^ (64 - s)), Int.mul_assoc, Int.mul_comm (2 ^ (64 - s)), e]
  have k6 : lo % 2 ^ (64 - s) * 2 ^ s ≤ (2 ^ (64 - s) - 1) * 2 ^ s := Int.mul_le_mul_of_nonneg_right (by omega) (by omega)
  rw [Int.sub_mul, Int.one_mul, Int.mul_comm (2 ^ (64 - s)), e] at k6
  have k7 : 0 ≤ lo % 2 ^ (64 - s) * 2 ^ s := Int.mul_nonneg m0 (by omega)
  refine ⟨hi * 2 ^ s + lo / 2 ^ (64 - s), lo % 2 ^ (64 - s) * 2 ^ s, by omega, by omega, k7, by omega, ?_, ?_, ?_⟩
  · rw [Int.add_mul, Int.add_mul, k5, Int.mul_assoc hi, Int.mul_assoc hi, Int.mul_comm (2 ^ s)]; omega
  · rw [IntWalk.u64_in _ (by omega), o]
  · rw [IntKind.wrap_u64, k5]; omega
theorem mulw_ex (x y : Int) : ∃ p : Int, 0 ≤ p ∧ p ≤ 18446744073709551615 ∧ Hid (p = x * y % 18446744073709551616) ∧ IntKind.u64.wrap (x * y) = p :=
  ⟨_, by omega, by omega, Lib.hid rfl, by rw [IntKind.wrap_u64]⟩
theorem sub_words (U u d y : Int) (h0 : 0 ≤ U * 4294967296 + u - d * y) (h1 : U * 4294967296 + u - d * y ≤ 18446744073709551615) :
    ∃ A1 A2 A3 V : Int, IntKind.u64.wrap (U * 4294967296) = A1 ∧ IntKind.u64.wrap (A1 + u) = A2 ∧ IntKind.u64.wrap (d * y) = A3 ∧ IntKind.u64.wrap (A2 - A3) = V ∧ Hid (V = U * 4294967296 + u - d * y) ∧ 0 ≤ V ∧ V ≤ 18446744073709551615 := by
  refine ⟨_, _, _, _, rfl, rfl, rfl, rfl, Lib.hid ?_, ?_, ?_⟩ <;> simp only [IntKind.wrap_u64] <;> generalize d * y = P at * <;> omega
theorem rem_words (X y : Int) (hy : 0 < y) : 0 ≤ X - X / y * y ∧ X - X / y * y < y := by
  have := Int.mul_ediv_add_emod X y
  have m0 := Int.emod_nonneg X (show y ≠ 0 by omega)
  have m1 := Int.emod_lt_of_pos X hy
  rw [Int.mul_comm] at this
  omega
set_option maxRecDepth 100000 in
set_option maxHeartbeats 2000000 in
theorem div64_c (hi lo y : Int) (w : World) (h1 : 0 ≤ hi) (h2 : hi < y) (h3 : 0 ≤ lo) (h4 : lo ≤ 18446744073709551615) (h5 : y ≤ 18446744073709551615) : Calls Try.prog 55 #[.int .u64 hi, .int .u64 lo, .int .u64 y] w fun e w' =>
    e = .returned (.tuple #[.int .u64 ((hi * 18446744073709551616 + lo) / y), .int .u64 ((hi * 18446744073709551616 + lo) % y)]) ∧ ∃ n, w' = w.drewN n := by
  have hy0 : (y == 0) = false := by simp; omega
  by_cases hh : hi = 0
  · subst hh
    go_enter Try.func55, Try.ntmps55
    go_wp2_with fail
    go_quiet (fail)
    go_wp2_with fail
    go_returns
    exact ⟨ret_u2 ⟨by rw [Int.zero_mul, Int.zero_add], by rw [Int.zero_mul, Int.zero_add]⟩, _, rfl⟩
  · have hb : (hi == 0) = false := by simpa using hh
    obtain ⟨s, hs, n1, n2, lz⟩ := lz_ex y (by omega) h5
    have hhi : 1 ≤ hi := by omega
    clear hh
    obtain ⟨yn, eyn, hyn⟩ : ∃ yn : Int, IntKind.u64.wrap (y * 2 ^ s) = yn ∧ Hid (yn = y * 2 ^ s) := ⟨_, rfl, Lib.hid (IntWalk.u64_in _ (by omega))⟩
    obtain ⟨b1, b2⟩ : 9223372036854775808 ≤ yn ∧ yn ≤ 18446744073709551615 := by have := hyn.out; omega
    obtain ⟨a, c, a1, a2, c1, c2, ea, ec, hyac⟩ := halves yn (by omega) b2
    have a0 : 2147483648 ≤ a := by have := hyac.out; omega
    have ec2 : bits .and .u64 yn 4294967295 = c := (and_half (by omega) b2).trans ec
    have N := Lib.hid (And.intro n1 n2)
    clear n1 n2
    go_enter Try.func55, Try.ntmps55
    go_wp2_with fail
    refine (lz _).mono ?_
    rintro e w1 ⟨rfl, rfl⟩
    obtain ⟨U, L, w1, w2, w3, w4, w5, eU, eL⟩ := shift_words hs h1 h2 h3 h4 N.out.2
    rw [← hyn.out] at w2
    have W5 := Lib.hid w5
    clear w5
    obtain ⟨u1, u0, v1, v2, v3, v4, eu1, eu0, hu⟩ := halves L w3 w4
    have eu2 : bits .and .u64 L 4294967295 = u0 := (and_half w3 w4).trans eu0
    have hyac2 := hyac.out
    obtain ⟨E0, r1⟩ := Wi.est_first (a := a) (c := c) (U := U) (u := u1) a0 a2 c1 c2 v1 v2 w1 (by omega)
    have e0 := E0.hr
    have e1 := E0.r0
    have e2 := E0.q0
    have e3 := E0.q2
    clear hyac2
    obtain ⟨qa, eqa, hqa⟩ : ∃ qa : Int, IntKind.u64.wrap (U / a * a) = qa ∧ Hid (qa = U / a * a) := ⟨_, rfl, Lib.hid (IntWalk.u64_in _ (by have : 0 ≤ U / a * a := Int.mul_nonneg e2 (by omega); omega))⟩
    have er : U - qa = U % a := by have := hqa.out; omega
    have w2' : U ≤ 18446744073709551615 := by omega
    clear e0
    have hyy := hyac.out
    have yp : 0 < yn := by omega
    obtain ⟨d1, d1E⟩ : ∃ d1 : Int, Hid (d1 = (U * 4294967296 + u1) / (a * 4294967296 + c)) := ⟨_, Lib.hid rfl⟩
    have d1b := Wi.est_d E0
    rw [← d1E.out] at d1b
    obtain ⟨d1l, d1u⟩ := d1b
    have rw1 := rem_words (U * 4294967296 + u1) yn yp
    have d1F : d1 = (U * 4294967296 + u1) / yn := by rw [hyy]; exact d1E.out
    rw [← d1F] at rw1
    obtain ⟨A1, A2, A3, V, eA1, eA2, eA3, eV, hV, V0, V1⟩ := sub_words U u1 d1 yn rw1.1 (by omega)
    have hVy : V < a * 4294967296 + c := by have := hV.out; omega
    obtain ⟨E1, r2⟩ := Wi.est_first (a := a) (c := c) (U := V) (u := u0) a0 a2 c1 c2 v3 v4 V0 hVy
    have g0 := E1.hr
    have g1 := E1.r0
    have g2 := E1.q0
    have g3 := E1.q2
    obtain ⟨qb, eqb, hqb⟩ : ∃ qb : Int, IntKind.u64.wrap (V / a * a) = qb ∧ Hid (qb = V / a * a) := ⟨_, rfl, Lib.hid (IntWalk.u64_in _ (by have : 0 ≤ V / a * a := Int.mul_nonneg g2 (by omega); omega))⟩
    have er2 : V - qb = V % a := by have := hqb.out; omega
    obtain ⟨d0, d0E⟩ : ∃ d0 : Int, Hid (d0 = (V * 4294967296 + u0) / (a * 4294967296 + c)) := ⟨_, Lib.hid rfl⟩
    have d0b := Wi.est_d E1
    rw [← d0E.out] at d0b
    obtain ⟨d0l, d0u⟩ := d0b
    have rw2 := rem_words (V * 4294967296 + u0) yn yp
    have d0F : d0 = (V * 4294967296 + u0) / yn := by rw [hyy]; exact d0E.out
    rw [← d0F] at rw2
    obtain ⟨B1, B2, B3, Z, eB1, eB2, eB3, eZ, hZ, Z0, Z1⟩ := sub_words V u0 d0 yn rw2.1 (by omega)
    have S1 : (1 : Int) ≤ 2 ^ s := Int.pow_pos (by decide)
    have K := Lib.hid (Wi.knuth (hi := hi) (lo := lo) (y0 := y) (S := 2 ^ s) (y := yn) S1 (by omega) hyn.out (by rw [← W5.out, hu.out]; omega) d1F hV.out d0F)
    clear g0 hyy rw1 rw2 d1F d0F hVy S1
    go_upto_block 0 with fail
    go_cut [15, 16] (fun vq vr wx => vq = .int .u64 d1 ∧ w = wx)
    case first =>
      go_wp2_with fail
      go_loop [15, 16] (fun vq vr => ∃ q r : Int, vq = .int .u64 q ∧ vr = .int .u64 r ∧ Wi.Est a c U u1 q r ∧ r < 4294967296) (fun vq _ => (intOf vq).toNat)
      case atStart => exact ⟨_, _, rfl, rfl, E0, r1⟩
      case round =>
        obtain ⟨q, r, rfl, rfl, EE, hr⟩ := hrel
        have f0 := EE.q0
        have f1 := EE.q2
        have f2 := EE.r0
        by_cases tq : 4294967296 ≤ q
        · obtain ⟨EN, hq1⟩ := Wi.est_next EE (Or.inl tq)
          by_cases tb : 4294967296 ≤ r + a
          · have hD := Lib.hid ((Wi.est_break EN tb (by omega)).trans (d1E.out).symm)
            go_wp2_with fail
            go_meet
            exact ⟨by rw [hD.out], rfl⟩
          · go_wp2_with fail
            go_round
            case rel => exact ⟨_, _, rfl, rfl, EN, by omega⟩
            case measure => first | (simp [intOf]; done) | (simp [intOf]; omega)
        · obtain ⟨P, p1, p2, hP, eP⟩ := half_ex q c f0 (by omega) c1 c2
          by_cases tp : 4294967296 * r + u1 < P
          · obtain ⟨EN, hq1⟩ := Wi.est_next EE (Or.inr (by rw [hP.out]; omega))
            by_cases tb : 4294967296 ≤ r + a
            · have hD := Lib.hid ((Wi.est_break EN tb (by omega)).trans (d1E.out).symm)
              go_wp2_with fail
              go_meet
              exact ⟨by rw [hD.out], rfl⟩
            · go_wp2_with fail
              go_round
              case rel => exact ⟨_, _, rfl, rfl, EN, by omega⟩
              case measure => first | (simp [intOf]; done) | (simp [intOf]; omega)
          · have hD := Lib.hid ((Wi.est_done EE (by rw [hP.out]; omega)).trans (d1E.out).symm)
            go_wp2_with fail
            go_meet
            exact ⟨by rw [hD.out], rfl⟩
    obtain ⟨rfl, rfl⟩ := hcut
    have hnz : (a == 0) = false := by simp; omega
    go_upto_block 2 with fail
    go_cut [18, 16] (fun vq vr wx => vq = .int .u64 d0 ∧ w = wx)
    case first =>
      go_wp2_with fail
      go_loop [18, 16] (fun vq vr => ∃ q r : Int, vq = .int .u64 q ∧ vr = .int .u64 r ∧ Wi.Est a c V u0 q r ∧ r < 4294967296) (fun vq _ => (intOf vq).toNat)
      case atStart => exact ⟨_, _, rfl, rfl, E1, r2⟩
      case round =>
        obtain ⟨q, r, rfl, rfl, EE, hr⟩ := hrel
        have f0 := EE.q0
        have f1 := EE.q2
        have f2 := EE.r0
        by_cases tq : 4294967296 ≤ q
        · obtain ⟨EN, hq1⟩ := Wi.est_next EE (Or.inl tq)
          by_cases tb : 4294967296 ≤ r + a
          · have hD := Lib.hid ((Wi.est_break EN tb (by omega)).trans (d0E.out).symm)
            go_wp2_with fail
            go_meet
            exact ⟨by rw [hD.out], rfl⟩
          · go_wp2_with fail
            go_round
            case rel => exact ⟨_, _, rfl, rfl, EN, by omega⟩
            case measure => first | (simp [intOf]; done) | (simp [intOf]; omega)
        · obtain ⟨P, p1, p2, hP, eP⟩ := half_ex q c f0 (by omega) c1 c2
          by_cases tp : 4294967296 * r + u0 < P
          · obtain ⟨EN, hq1⟩ := Wi.est_next EE (Or.inr (by rw [hP.out]; omega))
            by_cases tb : 4294967296 ≤ r + a
            · have hD := Lib.hid ((Wi.est_break EN tb (by omega)).trans (d0E.out).symm)
              go_wp2_with fail
              go_meet
              exact ⟨by rw [hD.out], rfl⟩
            · go_wp2_with fail
              go_round
              case rel => exact ⟨_, _, rfl, rfl, EN, by omega⟩
              case measure => first | (simp [intOf]; done) | (simp [intOf]; omega)
          · have hD := Lib.hid ((Wi.est_done EE (by rw [hP.out]; omega)).trans (d0E.out).symm)
            go_wp2_with fail
            go_meet
            exact ⟨by rw [hD.out], rfl⟩
    obtain ⟨rfl, rfl⟩ := hcut
    go_wp2_with fail
    go_returns
    have z := hZ.out
    have k2 := K.out.2
    rw [← z] at k2
    exact ⟨ret_u2 ⟨K.out.1, k2⟩, 0, rfl⟩
end Go.Proofs.Ytnkgoojjnikaeaa
