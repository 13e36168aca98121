/-
  Contracts: Div, DivUp, Nearest; the reference's long division.
-/
import Derived.Test.YtnkgoojjnikaeaaW11
namespace Go.Proofs.Ytnkgoojjnikaeaa
set_option linter.unusedVariables false
set_option linter.unusedSimpArgs false
open Go.RowKit

set_option maxHeartbeats 1000000 in
theorem div_c (h l x h' l' y : Int) (w : World) (H : Wi.Wd h l x) (H' : Wi.Wd h' l' y) : Calls Try.prog 14 #[.agg #[.int .i64 h, .int .u64 l], .agg #[.int .i64 h', .int .u64 l']] w fun e w' =>
    e = .returned (.tuple #[.agg #[.int .i64 (Wi.Hq (Wi.dV x y (-1))), .int .u64 (Wi.Lr (Wi.dV x y (-1)))], .bool (Wi.dB x y (-1))]) ∧ Below w.heap.size w w' := by
  by_cases h0 : y = 0
  · subst h0
    rw [Wi.dV_0, Wi.dB_0]
    go_enter Try.func14, Try.ntmps14
    go_wp2_with fail
    refine (divide_0 _ _ _ _ _ _ _ H H').mono ?_
    rintro e w1 ⟨rfl, hb⟩
    have R := (Blk.new2 w _ _ _ _).keep hb
    obtain ⟨r0, r1, r2, r3⟩ := R.open2
    go_wp2_with fail
    refine bodyPost_ret (by simp [results, Try.results14, go_sem, r0, r1, r2, r3]; try rfl) rfl ?_
    exact ⟨rfl, by repeat (first | exact Below.refl _ _ | (with_reducible assumption) | (with_reducible apply bal) | (with_reducible apply bdr) | (with_reducible apply bdnl) | (with_reducible refine bst ?_ (by first | (simp; done) | (simp; omega) | omega) _) | (with_reducible refine bt ?_ (by with_reducible assumption)))⟩
  · rw [Wi.dV_n h0, Wi.dB_n h0]
    go_enter Try.func14, Try.ntmps14
    go_wp2_with fail
    refine (div_n _ _ _ _ _ _ _ H H' h0).mono ?_
    rintro e w1 ⟨rfl, hb⟩
    have R := (Blk.new2 w _ _ _ _).keep hb
    obtain ⟨r0, r1, r2, r3⟩ := R.open2
    go_wp2_with fail
    refine bodyPost_ret (by simp [results, Try.results14, go_sem, r0, r1, r2, r3]; try rfl) rfl ?_
    exact ⟨rfl, by repeat (first | exact Below.refl _ _ | (with_reducible assumption) | (with_reducible apply bal) | (with_reducible apply bdr) | (with_reducible apply bdnl) | (with_reducible refine bst ?_ (by first | (simp; done) | (simp; omega) | omega) _) | (with_reducible refine bt ?_ (by with_reducible assumption)))⟩
set_option maxHeartbeats 1000000 in
theorem divup_c (h l x h' l' y : Int) (w : World) (H : Wi.Wd h l x) (H' : Wi.Wd h' l' y) : Calls Try.prog 17 #[.agg #[.int .i64 h, .int .u64 l], .agg #[.int .i64 h', .int .u64 l']] w fun e w' =>
    e = .returned (.tuple #[.agg #[.int .i64 (Wi.Hq (Wi.dV x y (1))), .int .u64 (Wi.Lr (Wi.dV x y (1)))], .bool (Wi.dB x y (1))]) ∧ Below w.heap.size w w' := by
  by_cases h0 : y = 0
  · subst h0
    rw [Wi.dV_0, Wi.dB_0]
    go_enter Try.func17, Try.ntmps17
    go_wp2_with fail
    refine (divide_0 _ _ _ _ _ _ _ H H').mono ?_
    rintro e w1 ⟨rfl, hb⟩
    have R := (Blk.new2 w _ _ _ _).keep hb
    obtain ⟨r0, r1, r2, r3⟩ := R.open2
    go_wp2_with fail
    refine bodyPost_ret (by simp [results, Try.results17, go_sem, r0, r1, r2, r3]; try rfl) rfl ?_
    exact ⟨rfl, by repeat (first | exact Below.refl _ _ | (with_reducible assumption) | (with_reducible apply bal) | (with_reducible apply bdr) | (with_reducible apply bdnl) | (with_reducible refine bst ?_ (by first | (simp; done) | (simp; omega) | omega) _) | (with_reducible refine bt ?_ (by with_reducible assumption)))⟩
  · rw [Wi.dV_n h0, Wi.dB_n h0]
    go_enter Try.func17, Try.ntmps17
    go_wp2_with fail
    refine (divup_n _ _ _ _ _ _ _ H H' h0).mono ?_
    rintro e w1 ⟨rfl, hb⟩
    have R := (Blk.new2 w _ _ _ _).keep hb
    obtain ⟨r0, r1, r2, r3⟩ := R.open2
    go_wp2_with fail
    refine bodyPost_ret (by simp [results, Try.results17, go_sem, r0, r1, r2, r3]; try rfl) rfl ?_
    exact ⟨rfl, by repeat (first | exact Below.refl _ _ | (with_reducible assumption) | (with_reducible apply bal) | (with_reducible apply bdr) | (with_reducible apply bdnl) | (with_reducible refine bst ?_ (by first | (simp; done) | (simp; omega) | omega) _) | (with_reducible refine bt ?_ (by with_reducible assumption)))⟩
set_option maxHeartbeats 1000000 in
theorem near_c (h l x h' l' y : Int) (w : World) (H : Wi.Wd h l x) (H' : Wi.Wd h' l' y) : Calls Try.prog 19 #[.agg #[.int .i64 h, .int .u64 l], .agg #[.int .i64 h', .int .u64 l']] w fun e w' =>
    e = .returned (.tuple #[.agg #[.int .i64 (Wi.Hq (Wi.dV x y (0))), .int .u64 (Wi.Lr (Wi.dV x y (0)))], .bool (Wi.dB x y (0))]) ∧ Below w.heap.size w w' := by
  by_cases h0 : y = 0
  · subst h0
    rw [Wi.dV_0, Wi.dB_0]
    go_enter Try.func19, Try.ntmps19
    go_wp2_with fail
    refine (divide_0 _ _ _ _ _ _ _ H H').mono ?_
    rintro e w1 ⟨rfl, hb⟩
    have R := (Blk.new2 w _ _ _ _).keep hb
    obtain ⟨r0, r1, r2, r3⟩ := R.open2
    go_wp2_with fail
    refine bodyPost_ret (by simp [results, Try.results19, go_sem, r0, r1, r2, r3]; try rfl) rfl ?_
    exact ⟨rfl, by repeat (first | exact Below.refl _ _ | (with_reducible assumption) | (with_reducible apply bal) | (with_reducible apply bdr) | (with_reducible apply bdnl) | (with_reducible refine bst ?_ (by first | (simp; done) | (simp; omega) | omega) _) | (with_reducible refine bt ?_ (by with_reducible assumption)))⟩
  · rw [Wi.dV_n h0, Wi.dB_n h0]
    go_enter Try.func19, Try.ntmps19
    go_wp2_with fail
    refine (near_n _ _ _ _ _ _ _ H H' h0).mono ?_
    rintro e w1 ⟨rfl, hb⟩
    have R := (Blk.new2 w _ _ _ _).keep hb
    obtain ⟨r0, r1, r2, r3⟩ := R.open2
    go_wp2_with fail
    refine bodyPost_ret (by simp [results, Try.results19, go_sem, r0, r1, r2, r3]; try rfl) rfl ?_
    exact ⟨rfl, by repeat (first | exact Below.refl _ _ | (with_reducible assumption) | (with_reducible apply bal) | (with_reducible apply bdr) | (with_reducible apply bdnl) | (with_reducible refine bst ?_ (by first | (simp; done) | (simp; omega) | omega) _) | (with_reducible refine bt ?_ (by with_reducible assumption)))⟩

theorem or_ex {x b : Int} (h0 : 0 ≤ x) (h1 : x ≤ 18446744073709551615) (hb : 0 ≤ b) (hb2 : b ≤ 1) : ∃ y : Int, 0 ≤ y ∧ y ≤ 18446744073709551615 ∧ Hid (y = x * 2 % 18446744073709551616 + b) ∧ bits .or .u64 (IntKind.u64.wrap (x * 2)) b = y :=
  ⟨_, by omega, by omega, Lib.hid rfl, or_bit h0 hb hb2⟩
theorem or_ex' {x b : Int} (h0 : 0 ≤ x) (h1 : x ≤ 9223372036854775807) (hb : 0 ≤ b) (hb2 : b ≤ 1) : ∃ y : Int, 0 ≤ y ∧ y ≤ 18446744073709551615 ∧ Hid (y = x * 2 + b) ∧ bits .or .u64 (x * 2) b = y := by
  have h := or_bit h0 hb hb2
  rw [IntWalk.u64_in _ (by omega)] at h
  exact ⟨_, by omega, by omega, Lib.hid rfl, h.trans (by omega)⟩
theorem sh_ex {x : Int} : ∃ y : Int, 0 ≤ y ∧ y ≤ 18446744073709551615 ∧ Hid (y = x * 2 % 18446744073709551616) ∧ IntKind.u64.wrap (x * 2) = y :=
  ⟨_, by omega, by omega, Lib.hid rfl, by rw [IntKind.wrap_u64]⟩
theorem ret_u4 {a b c d a' b' c' d' : Int} (e1 : a = a') (e2 : b = b') (e3 : c = c') (e4 : d = d') : Ending.returned (.tuple #[.int .u64 a, .int .u64 b, .int .u64 c, .int .u64 d]) = .returned (.tuple #[.int .u64 a', .int .u64 b', .int .u64 c', .int .u64 d']) := by rw [e1, e2, e3, e4]
/-- A step of the reference's long division. -/
theorem rd_step {x d S Y : Int} {i : Nat} (hx : Wi.inS x) (hd : 0 < d) (hi : i < 128) (hS : Wi.Shf x i S Y) :
    ∃ b : Int, 0 ≤ b ∧ b ≤ 1 ∧ b = Y / 170141183460469231731687303715884105728 ∧ Wi.Shf x (i + 1) (2 * S + b) (2 * Y % 340282366920938463463374607431768211456) ∧ 0 ≤ S % d ∧ S % d < d ∧ 0 ≤ S / d ∧ S / d < 170141183460469231731687303715884105728 ∧
      (d ≤ 2 * (S % d) + b → (2 * S + b) / d = 2 * (S / d) + 1 ∧ (2 * S + b) % d = 2 * (S % d) + b - d) ∧ (2 * (S % d) + b < d → (2 * S + b) / d = 2 * (S / d) ∧ (2 * S + b) % d = 2 * (S % d) + b) := by
  have hY := hS.2
  have h1 := Wi.shf_bd hx hS (by omega)
  have h2 := Wi.shf_step hS
  have h3 := Wi.shf_bd hx h2 (by omega)
  unfold Wi.inS at hY hx
  have hb0 : 0 ≤ Y / 170141183460469231731687303715884105728 := by omega
  have hb1 : Y / 170141183460469231731687303715884105728 ≤ 1 := by omega
  have q := Wi.div_step (S := S) hd hb0 hb1
  have q1 : S / d ≤ S := Int.ediv_le_self _ h1.1
  exact ⟨_, hb0, hb1, rfl, h2, Int.emod_nonneg _ (by omega), Int.emod_lt_of_pos _ hd, Int.ediv_nonneg h1.1 (by omega), by omega, q.1, fun h => q.2 (by omega)⟩
set_option maxRecDepth 100000 in
set_option maxHeartbeats 4000000 in
theorem rdivide_c (h l x h' l' d : Int) (w : World) (H : Wi.Sz h l x) (H' : Wi.Sz h' l' d) (hd : 0 < d) (hd2 : d ≤ 170141183460469231731687303715884105728) : Calls Try.prog 68 #[.int .u64 h, .int .u64 l, .int .u64 h', .int .u64 l'] w fun e w' =>
    e = .returned (.tuple #[.int .u64 (Wi.Hq (x / d)), .int .u64 (Wi.Lr (x / d)), .int .u64 (Wi.Hq (x % d)), .int .u64 (Wi.Lr (x % d))]) ∧ w = w' := by
  obtain ⟨g1, g2, g3, g4, gv⟩ := H'.bd
  have GV := Lib.hid gv
  clear gv
  go_enter Try.func68, Try.ntmps68
  go_wp2_with fail
  go_loop [0, 1, 8, 9, 10, 11, 12] (fun v0 v1 v8 v9 v10 v11 v12 => ∃ (i : Nat) (hi lo qh ql rh rl S Y : Int), i ≤ 128 ∧ v12 = .int .i64 i ∧ v0 = .int .u64 hi ∧ v1 = .int .u64 lo ∧ v8 = .int .u64 qh ∧ v9 = .int .u64 ql ∧ v10 = .int .u64 rh ∧ v11 = .int .u64 rl ∧
      Wi.Shf x i S Y ∧ Wi.Sz hi lo Y ∧ Wi.Sz qh ql (S / d) ∧ Wi.Sz rh rl (S % d)) (fun _ _ _ _ _ _ v12 => 128 - (intOf v12).toNat)
  case atStart =>
    exact ⟨0, h, l, 0, 0, 0, 0, 0, x, by omega, rfl, rfl, rfl, rfl, rfl, rfl, rfl, Wi.shf_0 H.hv, H, by rw [Int.zero_ediv]; exact ⟨rfl, rfl, by unfold Wi.inS; omega⟩, by rw [Int.zero_emod]; exact ⟨rfl, rfl, by unfold Wi.inS; omega⟩⟩
  case round =>
    obtain ⟨i, hi, lo, qh, ql, rh, rl, S, Y, hi128, rfl, rfl, rfl, rfl, rfl, rfl, rfl, hS, HY, HQ, HR⟩ := hrel
    by_cases hlt : i < 128
    rotate_left
    · obtain rfl : i = 128 := by omega
      obtain ⟨e1, e2⟩ := Wi.shf_end hS
      have E1 := Lib.hid e1
      clear e1 e2
      go_wp2_with fail
      go_returns
      rw [E1.out] at HQ HR
      exact ⟨ret_u4 HQ.hh HQ.hl HR.hh HR.hl, rfl⟩
    obtain ⟨b, b0, b1, hb, hS2, r0, r1, q0, q1, st1, st2⟩ := rd_step H.hv hd hlt hS
    obtain ⟨y1, y2, y3, y4, yv⟩ := HY.bd
    obtain ⟨k1, k2, k3, k4, kv⟩ := HQ.bd
    obtain ⟨m1, m2, m3, m4, mv⟩ := HR.bd
    have k5 : qh ≤ 9223372036854775807 := by omega
    have m5 : rh ≤ 9223372036854775807 := by omega
    have hb2 : b = hi / 9223372036854775808 := by omega
    have HB := Lib.hid hb2
    have YV := Lib.hid yv
    have KV := Lib.hid kv
    have MV := Lib.hid mv
    have ST1 := Lib.hid st1
    have ST2 := Lib.hid st2
    have R1 := Lib.hid (And.intro r0 r1)
    clear hb hb2 yv kv mv st1 st2 r0 r1 HR HQ HY
    obtain ⟨A1, a1, a2, hA1, eA1⟩ := or_ex' (b := rl / 9223372036854775808) m1 m5 (by omega) (by omega)
    obtain ⟨A2, a3, a4, hA2, eA2⟩ := or_ex (b := hi / 9223372036854775808) m3 m4 (by omega) (by omega)
    obtain ⟨A3, a5, a6, hA3, eA3⟩ := or_ex (b := lo / 9223372036854775808) y1 y2 (by omega) (by omega)
    obtain ⟨A4, a7, a8, hA4, eA4⟩ := @sh_ex lo
    obtain ⟨A5, a9, a10, hA5, eA5⟩ := or_ex' (b := ql / 9223372036854775808) k1 k5 (by omega) (by omega)
    obtain ⟨A6, a11, a12, hA6, eA6⟩ := @sh_ex ql
    have hQ5 : ∃ A7, bits .or .u64 A6 1 = A7 ∧ Hid (A7 = A6 + 1) := ⟨_, rfl, Lib.hid (by rw [← eA6, or_bit k3 (by omega) (by omega), IntKind.wrap_u64])⟩
    obtain ⟨A7, eA7, hA7⟩ := hQ5
    obtain ⟨A8, k8, a13, a14, hA8, eA8⟩ := wsub_ex A2 l' a3 a4 g3 g4
    go_wp2_with fail
    all_goals
      have e1 := hA1.out
      have e2 := hA2.out
      have e3 := hA3.out
      have e4 := hA4.out
      have e5 := hA5.out
      have e6 := hA6.out
      have e7 := hA7.out
      have e8 := hA8.out
      have yv := YV.out
      have kv := KV.out
      have mv := MV.out
      have gv := GV.out
      have hb := HB.out
      have r1 := R1.out
      have st1 := ST1.out
      have st2 := ST2.out
      clear eA1 eA2 eA3 eA4 eA5 eA6 eA7 eA8 hA1 hA2 hA3 hA4 hA5 hA6 hA7 hA8 YV KV MV GV HB R1 ST1 ST2
    · obtain ⟨z1, z2⟩ := st1 (by omega)
      go_round
      case rel =>
        refine ⟨i + 1, _, _, _, _, _, _, 2 * S + b, 2 * Y % 340282366920938463463374607431768211456, by omega, by go_num, rfl, rfl, rfl, rfl, rfl, rfl, hS2, Wi.sz_of ?_ ?_ ?_ ?_ ?_, Wi.sz_of ?_ ?_ ?_ ?_ ?_, Wi.sz_of ?_ ?_ ?_ ?_ ?_⟩
        all_goals omega
      case measure => first | (simp [intOf]; done) | (simp [intOf]; omega)
    · obtain ⟨z1, z2⟩ := st2 (by omega)
      go_round
      case rel =>
        refine ⟨i + 1, _, _, _, _, _, _, 2 * S + b, 2 * Y % 340282366920938463463374607431768211456, by omega, by go_num, rfl, rfl, rfl, rfl, rfl, rfl, hS2, Wi.sz_of ?_ ?_ ?_ ?_ ?_, Wi.sz_of ?_ ?_ ?_ ?_ ?_, Wi.sz_of ?_ ?_ ?_ ?_ ?_⟩
        all_goals omega
      case measure => first | (simp [intOf]; done) | (simp [intOf]; omega)
    · obtain ⟨z1, z2⟩ := st2 (by omega)
      go_round
      case rel =>
        refine ⟨i + 1, _, _, _, _, _, _, 2 * S + b, 2 * Y % 340282366920938463463374607431768211456, by omega, by go_num, rfl, rfl, rfl, rfl, rfl, rfl, hS2, Wi.sz_of ?_ ?_ ?_ ?_ ?_, Wi.sz_of ?_ ?_ ?_ ?_ ?_, Wi.sz_of ?_ ?_ ?_ ?_ ?_⟩
        all_goals omega
      case measure => first | (simp [intOf]; done) | (simp [intOf]; omega)
    · obtain ⟨z1, z2⟩ := st1 (by omega)
      go_round
      case rel =>
        refine ⟨i + 1, _, _, _, _, _, _, 2 * S + b, 2 * Y % 340282366920938463463374607431768211456, by omega, by go_num, rfl, rfl, rfl, rfl, rfl, rfl, hS2, Wi.sz_of ?_ ?_ ?_ ?_ ?_, Wi.sz_of ?_ ?_ ?_ ?_ ?_, Wi.sz_of ?_ ?_ ?_ ?_ ?_⟩
        all_goals omega
      case measure => first | (simp [intOf]; done) | (simp [intOf]; omega)
    · obtain ⟨z1, z2⟩ := st1 (by omega)
      go_round
      case rel =>
        refine ⟨i + 1, _, _, _, _, _, _, 2 * S + b, 2 * Y % 340282366920938463463374607431768211456, by omega, by go_num, rfl, rfl, rfl, rfl, rfl, rfl, hS2, Wi.sz_of ?_ ?_ ?_ ?_ ?_, Wi.sz_of ?_ ?_ ?_ ?_ ?_, Wi.sz_of ?_ ?_ ?_ ?_ ?_⟩
        all_goals omega
      case measure => first | (simp [intOf]; done) | (simp [intOf]; omega)
end Go.Proofs.Ytnkgoojjnikaeaa
