/-
  Contracts: square roots.
-/
import Derived.Test.YtclohghongpfkaaI7
import Derived.Test.YtclohghongpfkaaLen
import Derived.Test.YtclohghongpfkaaW15
namespace Go.Proofs.Ytclohghongpfkaa
set_option linter.unusedVariables false
set_option linter.unusedSimpArgs false
open Go.RowKit

theorem sq_ex (n : Nat) : ∃ r : Nat, r * r ≤ n ∧ n < (r + 1) * (r + 1) := by
  induction n with
  | zero => exact ⟨0, by omega, by omega⟩
  | succ n ih =>
    obtain ⟨r, h1, h2⟩ := ih
    by_cases q : n + 1 < (r + 1) * (r + 1)
    · exact ⟨r, by omega, q⟩
    · refine ⟨r + 1, by omega, ?_⟩
      have : (r + 1 + 1) * (r + 1 + 1) = (r + 1) * (r + 1) + 2 * (r + 1) + 1 := by rw [Nat.add_mul (r + 1) 1, Nat.mul_add]; omega
      omega
theorem rt_mk {n r : Int} (h0 : 0 ≤ r) (h1 : r * r ≤ n) (h2 : n < (r + 1) * (r + 1)) : Wi.Rt n r 0 := ⟨h0, h1, by simpa using h2, r, by simp⟩
theorem sq_of {n r : Int} (hn : 0 ≤ n) (h0 : 0 ≤ r) (h1 : r * r ≤ n) (h2 : n < (r + 1) * (r + 1)) : Iv.sq n = r := Wi.sqV_pos hn (rt_mk h0 h1 h2)
theorem sq_spec {n : Int} (hn : 0 ≤ n) : 0 ≤ Iv.sq n ∧ Iv.sq n * Iv.sq n ≤ n ∧ n < (Iv.sq n + 1) * (Iv.sq n + 1) := by
  obtain ⟨m, rfl⟩ := Int.eq_ofNat_of_zero_le hn
  obtain ⟨r, h1, h2⟩ := sq_ex m
  have g1 : ((r : Int)) * r ≤ m := by exact_mod_cast h1
  have g2 : (m : Int) < ((r : Int) + 1) * (r + 1) := by exact_mod_cast h2
  rw [sq_of hn (by omega) g1 g2]
  exact ⟨by omega, g1, g2⟩
theorem sq_neg {n : Int} (hn : n < 0) : Iv.sq n = 0 := Wi.sqV_neg hn
theorem sq_zero : Iv.sq 0 = 0 := sq_of (by omega) (by omega) (by omega) (by omega)
theorem sq_np {n : Int} (h : n ≤ 0) : Iv.sq n = 0 := by
  by_cases q : n = 0
  · rw [q, sq_zero]
  · exact sq_neg (by omega)
theorem sq_mono {m n : Int} (h0 : 0 ≤ m) (h : m ≤ n) : Iv.sq m ≤ Iv.sq n := by
  have a := sq_spec h0
  have b := sq_spec (show 0 ≤ n by omega)
  have := Wi.sq_lt a.1 (show 0 ≤ Iv.sq n + 1 by omega) (by omega)
  omega
theorem sq_lt_of {n b : Int} (hn : 0 ≤ n) (hb : 0 ≤ b) (h : n < b * b) : Iv.sq n < b := by
  have a := sq_spec hn
  exact Wi.sq_lt a.1 hb (by omega)
/-- One step of Newton's. -/
theorem newton {n x : Int} (hn : 1 ≤ n) (hx : 1 ≤ x) : n < ((x + n / x) / 2 + 1) * ((x + n / x) / 2 + 1) ∧ 1 ≤ (x + n / x) / 2 := by
  have d := Int.mul_ediv_add_emod n x
  have m0 := Int.emod_nonneg n (show x ≠ 0 by omega)
  have m1 := Int.emod_lt_of_pos n (show 0 < x by omega)
  have q0 : 0 ≤ n / x := Int.ediv_nonneg (by omega) (by omega)
  generalize n / x = q at *
  have y2 : x + q + 1 ≤ 2 * ((x + q) / 2 + 1) := by omega
  have y1 : 1 ≤ (x + q) / 2 := by
    by_cases h : x = 1
    · subst h
      have : 1 ≤ q := by omega
      omega
    · omega
  refine ⟨?_, y1⟩
  generalize (x + q) / 2 + 1 = y at *
  have s : (x + (q + 1)) * (x + (q + 1)) ≤ (2 * y) * (2 * y) := Int.mul_le_mul (by omega) (by omega) (by omega) (by omega)
  have sq0 : 0 ≤ (x - (q + 1)) * (x - (q + 1)) := by
    rcases Int.le_total 0 (x - (q + 1)) with h | h
    · exact Int.mul_nonneg h h
    · have := Int.mul_nonneg (show 0 ≤ -(x - (q + 1)) by omega) (show 0 ≤ -(x - (q + 1)) by omega)
      rwa [Int.neg_mul_neg] at this
  have e1 : (x + (q + 1)) * (x + (q + 1)) = (x - (q + 1)) * (x - (q + 1)) + 4 * (x * (q + 1)) := by
    simp only [Int.add_mul, Int.mul_add, Int.sub_mul, Int.mul_sub, Int.one_mul, Int.mul_one]
    have := Int.mul_comm x q
    omega
  have e2 : (2 * y) * (2 * y) = 4 * (y * y) := by rw [Int.mul_assoc, Int.mul_left_comm y 2 y, ← Int.mul_assoc]; rfl
  have e3 : x * (q + 1) = x * q + x := by rw [Int.mul_add, Int.mul_one]
  omega
theorem newton_end {n x : Int} (hn : 1 ≤ n) (hx : 1 ≤ x) (hi : n < (x + 1) * (x + 1)) (h : x ≤ (x + n / x) / 2) : Iv.sq n = x := by
  have hq : x ≤ n / x := by omega
  have := (Int.le_ediv_iff_mul_le (show 0 < x by omega)).mp hq
  exact sq_of (by omega) (by omega) this hi
theorem len_lays : Go.Proofs.Lays.n129 Try.prog lz_ren := {
  mixed := lz_lays.mixed
  f129 := lz_lays.f129
  t3 := lz_lays.t3
  a3 := lz_lays.a3
  z3 := lz_lays.z3
  v3 := lz_lays.v3
  t4 := lz_lays.t4
  a4 := lz_lays.a4
  z4 := lz_lays.z4
  v4 := lz_lays.v4
  t5 := lz_lays.t5
  a5 := lz_lays.a5
  z5 := lz_lays.z5
  v5 := lz_lays.v5
  t9 := lz_lays.t9
  a9 := lz_lays.a9
  z9 := lz_lays.z9
  v9 := lz_lays.v9
  t46 := lz_lays.t46
  a46 := lz_lays.a46
  z46 := lz_lays.z46
  v46 := lz_lays.v46
  t53 := lz_lays.t53
  a53 := lz_lays.a53
  z53 := lz_lays.z53
  v53 := lz_lays.v53 }
/-- bits.Len64 of a positive number: half of it, rounded up, is the shift of a first guess that is not too small. -/
theorem len_ex (n : Int) (h0 : 1 ≤ n) (h1 : n ≤ 4611686018427387904) : ∃ (s : Nat) (L : Int), 1 ≤ L ∧ L ≤ 63 ∧ (L + 1).tdiv 2 = (s : Int) ∧ s ≤ 32 ∧ n < ((2 : Int) ^ s + 1) * (2 ^ s + 1) ∧ 1 ≤ (2 : Int) ^ s ∧ (2 : Int) ^ s ≤ 4294967296 ∧
    ∀ w : World, Calls Try.prog 89 #[.int .u64 n] w fun e w' => e = .returned (.int .i64 L) ∧ w = w' := by
  obtain ⟨m, rfl⟩ := Int.eq_ofNat_of_zero_le (show 0 ≤ n by omega)
  have hb := Lib.bitLenAux_bounds 64 m (by omega) (by omega)
  have hle := Lib.bitLen_le m 63 (by omega) (by omega)
  have hL : Lib.bitLen m = Lib.bitLenAux 64 m := rfl
  rw [← hL] at hb
  have hw := fun w : World => Go.Proofs.Any.bits_Len64 len_lays (m : Int) w (by omega) (by omega)
  simp only [Int.toNat_natCast] at hw
  generalize Lib.bitLen m = L at *
  obtain ⟨b1, b2, b3⟩ := hb
  refine ⟨(L + 1) / 2, L, by omega, by omega, by rw [Int.tdiv_eq_ediv_of_nonneg (by omega)]; omega, by omega, ?_, ?_, ?_, fun w => ?_⟩
  · have p1 : m < 2 ^ (2 * ((L + 1) / 2)) := Nat.lt_of_lt_of_le b3 (Nat.pow_le_pow_right (by decide) (by omega))
    have p2 : 2 ^ (2 * ((L + 1) / 2)) = 2 ^ ((L + 1) / 2) * 2 ^ ((L + 1) / 2) := by rw [← Nat.pow_add]; congr 1; omega
    rw [p2] at p1
    have p3 : (m : Int) < (2 : Int) ^ ((L + 1) / 2) * 2 ^ ((L + 1) / 2) := by exact_mod_cast p1
    have p0 : (0 : Int) < (2 : Int) ^ ((L + 1) / 2) := Int.pow_pos (by decide)
    generalize (2 : Int) ^ ((L + 1) / 2) = X at *
    rw [Int.add_mul, Int.mul_add]; omega
  · exact Int.pow_pos (by decide)
  · have p4 : 2 ^ ((L + 1) / 2) ≤ 2 ^ 32 := Nat.pow_le_pow_right (by decide) (by omega)
    have : ((2 ^ ((L + 1) / 2) : Nat) : Int) ≤ 2 ^ 32 := by exact_mod_cast p4
    simpa using this
  · exact (hw w).mono fun e2 w' h => ⟨h.1, h.2.symm⟩

set_option maxRecDepth 100000 in
set_option maxHeartbeats 4000000 in
theorem fsqrt_c (n : Int) (w : World) (h2 : n ≤ 4611686018427387904) : Calls Try.prog 66 #[.int .i64 n] w fun e w' => e = .returned (.int .i64 (Iv.sq n)) ∧ Below w.heap.size w w' := by
  by_cases h : n ≤ 0
  · have E := Lib.hid (sq_np h)
    go_enter Try.func66, Try.ntmps66
    go_wp2_with fail
    go_returns
    exact ⟨ret_int E.out.symm, Below.refl _ _⟩
  · obtain ⟨s, L, l1, l2, hs, hs2, hi, x1, x2, HL⟩ := len_ex n (by omega) h2
    have eu := IntWalk.u64_in n ⟨by omega, by omega⟩
    have hp : (1 : Int) * 2 ^ s = 2 ^ s := Int.one_mul _
    have n1 : 1 ≤ n := by omega
    replace hi := Lib.hid hi
    go_enter Try.func66, Try.ntmps66
    go_wp2_with fail
    refine (HL _).mono ?_
    rintro e w1 ⟨rfl, rfl⟩
    go_wp2_with fail
    go_loopw [3] (fun a wr => ∃ x : Int, a = .int .i64 x ∧ 1 ≤ x ∧ x ≤ 4294967296 ∧ Hid (n < (x + 1) * (x + 1)) ∧ wr = w) (fun a _ => (intOf a).toNat)
    case atStart => exact ⟨_, rfl, x1, x2, hi, rfl⟩
    case round =>
      clear hi x1 x2 HL hp hs hs2 l1 l2
      obtain ⟨x, rfl, g1, g2, gi, rfl⟩ := hrel
      have q0 : 0 ≤ n / x := Int.ediv_nonneg (by omega) (by omega)
      have q1 : n / x ≤ n := Int.ediv_le_self _ (by omega)
      have eq : n.tdiv x = n / x := Int.tdiv_eq_ediv_of_nonneg (by omega)
      have e2 : (x + n / x).tdiv 2 = (x + n / x) / 2 := Int.tdiv_eq_ediv_of_nonneg (by omega)
      have nx : (x == 0) = false := by simp; omega
      have nw := newton n1 g1
      have ne := Lib.hid (newton_end n1 g1 gi.out)
      obtain ⟨y, hy⟩ : ∃ y, (x + n / x) / 2 = y := ⟨_, rfl⟩
      rw [hy] at nw
      have hy2 := Lib.hid hy
      rw [hy] at ne
      by_cases c : x ≤ y
      · have E := Lib.hid (ne.out c)
        clear ne nw
        go_wp2_with fail
        go_returns
        exact ⟨ret_int E.out.symm, Below.refl _ _⟩
      · have N1 := Lib.hid nw.1
        have N2 := nw.2
        clear ne nw
        go_wp2_with fail
        go_roundw
        case rel => exact ⟨y, rfl, N2, by omega, N1, by first | rfl | trivial⟩
        case measure => first | (simp [intOf]; done) | (simp [intOf]; omega)
set_option maxRecDepth 100000 in
set_option maxHeartbeats 4000000 in
theorem fsqrtup_c (n : Int) (w : World) (h2 : n ≤ 4611686018427387904) : Calls Try.prog 67 #[.int .i64 n] w fun e w' => e = .returned (.int .i64 (Iv.sqUp n)) ∧ Below w.heap.size w w' := by
  by_cases h : n ≤ 0
  · have E := Lib.hid (show Iv.sqUp n = Iv.sq n from by unfold Iv.sqUp; rw [sq_np h]; split <;> omega)
    have h0 : ¬ 0 < n := by omega
    go_enter Try.func67, Try.ntmps67
    go_wp2_with fail
    refine (fsqrt_c _ _ h2).mono ?_
    rintro e w1 ⟨rfl, hb⟩
    go_wp2_with fail
    go_returns
    exact ⟨ret_int E.out.symm, hb⟩
  · have sp := sq_spec (n := n) (by omega)
    have sl := sq_lt_of (n := n) (b := 2147483649) (by omega) (by omega) (by omega)
    have h0 : 0 < n := by omega
    have sb : Iv.sq n * Iv.sq n ≤ n := sp.2.1
    have s0 : 0 ≤ Iv.sq n * Iv.sq n := Int.mul_nonneg sp.1 sp.1
    by_cases c : Iv.sq n * Iv.sq n < n
    · have E := Lib.hid (show Iv.sqUp n = Iv.sq n + 1 from if_pos c)
      have p0 := sp.1
      clear sp
      obtain ⟨r, hr⟩ : ∃ r, Hid (Iv.sq n = r) := ⟨_, Lib.hid rfl⟩
      rw [hr.out] at E sb s0 c p0 sl
      obtain ⟨m, hm⟩ : ∃ m, r * r = m := ⟨_, rfl⟩
      rw [hm] at sb s0 c
      go_enter Try.func67, Try.ntmps67
      go_wp2_with fail
      refine (fsqrt_c _ _ h2).mono ?_
      rw [hr.out]
      rintro e w1 ⟨rfl, hb⟩
      go_wp2_with fail
      go_returns
      exact ⟨ret_int E.out.symm, hb⟩
    · have E := Lib.hid (show Iv.sqUp n = Iv.sq n from if_neg c)
      have p0 := sp.1
      clear sp
      obtain ⟨r, hr⟩ : ∃ r, Hid (Iv.sq n = r) := ⟨_, Lib.hid rfl⟩
      rw [hr.out] at E sb s0 c p0 sl
      obtain ⟨m, hm⟩ : ∃ m, r * r = m := ⟨_, rfl⟩
      rw [hm] at sb s0 c
      go_enter Try.func67, Try.ntmps67
      go_wp2_with fail
      refine (fsqrt_c _ _ h2).mono ?_
      rw [hr.out]
      rintro e w1 ⟨rfl, hb⟩
      go_wp2_with fail
      go_returns
      exact ⟨ret_int E.out.symm, hb⟩
theorem rt_32 {x : Int} (h0 : 0 ≤ x) (h : x < 18446744073709551616) : Wi.Rt x 0 32 := ⟨by omega, by omega, by simp; omega, 0, by simp⟩
theorem rt_next32 {x r : Int} {n : Nat} (h0 : 0 ≤ x) (hx : x < 18446744073709551616) (h : Wi.Rt x r (n + 1)) (hn : n < 32) : 0 ≤ r ∧ r + 2 ^ n ≤ 4294967295 ∧ 1 ≤ (2 : Int) ^ n ∧ (2 : Int) ^ n ≤ 2147483648 := by
  obtain ⟨a, b, d, m, e⟩ := h
  have hp : (0 : Int) < 2 ^ n := Int.pow_pos (by decide)
  have hr := Wi.sq_lt a (show (0 : Int) ≤ 4294967296 by omega) (by omega)
  have e2 : (2 : Int) ^ n ≤ 2147483648 := by
    have h31 : (2 : Int) ^ n ≤ 2 ^ 31 := by
      have := Nat.pow_le_pow_right (show 0 < 2 by decide) (show n ≤ 31 by omega)
      exact_mod_cast this
    have e3 : (2 : Int) ^ 31 = 2147483648 := by decide
    omega
  refine ⟨a, ?_, hp, e2⟩
  have e4 : (4294967296 : Int) = 2 ^ (31 - n) * 2 ^ (n + 1) := by
    rw [← Int.pow_add, show 31 - n + (n + 1) = 32 by omega]; rfl
  have e5 : m + 1 ≤ 2 ^ (31 - n) := by
    apply Classical.byContradiction
    intro q
    have h1 : (2 : Int) ^ (31 - n) * 2 ^ (n + 1) ≤ m * 2 ^ (n + 1) := Int.mul_le_mul_of_nonneg_right (by omega) (Int.le_of_lt (Int.pow_pos (by decide)))
    omega
  have h2 : (m + 1) * 2 ^ (n + 1) ≤ 2 ^ (31 - n) * 2 ^ (n + 1) := Int.mul_le_mul_of_nonneg_right e5 (Int.le_of_lt (Int.pow_pos (by decide)))
  rw [Int.add_mul, Int.one_mul, ← e, ← e4, Int.pow_succ] at h2
  omega
set_option maxRecDepth 100000 in
set_option maxHeartbeats 4000000 in
theorem rsqrt1_c (n : Int) (w : World) (h1 : -9223372036854775808 ≤ n) (h2 : n ≤ 4611686018427387904) : Calls Try.prog 68 #[.int .i64 n] w fun e w' => e = .returned (.int .i64 (Iv.sq n)) ∧ Below w.heap.size w w' := by
  by_cases h : n < 0
  · have E := Lib.hid (sq_np (n := n) (by omega))
    go_enter Try.func68, Try.ntmps68
    go_wp2_with fail
    go_returns
    exact ⟨ret_int E.out.symm, Below.refl _ _⟩
  · have n0 : 0 ≤ n := by omega
    have eu := IntWalk.u64_in n ⟨by omega, by omega⟩
    go_enter Try.func68, Try.ntmps68
    go_wp2_with fail
    go_loopw [3, 4] (fun a b wr => ∃ (j : Nat) (r : Int), j ≤ 32 ∧ a = .int .u64 r ∧ b = .int .u64 (bitv j) ∧ Wi.Rt n r j ∧ wr = w) (fun _ b _ => (intOf b).toNat)
    case atStart => exact ⟨32, 0, by omega, rfl, rfl, rt_32 (by omega) (by omega), rfl⟩
    case round =>
      obtain ⟨j, r, hj, rfl, rfl, hR, rfl⟩ := hrel
      rcases j with _ | k
      · rw [show bitv 0 = 0 from rfl]
        have a0 := hR.1
        have a1 := Wi.sq_lt hR.1 (show (0 : Int) ≤ 4294967296 by omega) (by have := hR.2.1; omega)
        have E := Lib.hid (show Iv.sq n = r from Wi.sqV_pos n0 hR)
        have er := IntWalk.i64_in r ⟨by omega, by omega⟩
        clear hR
        go_wp2_with fail
        go_returns
        exact ⟨ret_int E.out.symm, Below.refl _ _⟩
      · have hhalf := Lib.hid (bitv_half k)
        have hbv : bitv (k + 1) = 2 ^ k := rfl
        rw [hbv] at hhalf ⊢
        clear hbv
        obtain ⟨r0, rb, p1, p2⟩ := rt_next32 n0 (by omega) hR (by omega)
        have m0 := Int.mul_nonneg (show 0 ≤ r + 2 ^ k by omega) (show 0 ≤ r + 2 ^ k by omega)
        have m1 := Int.mul_le_mul rb rb (show 0 ≤ r + 2 ^ k by omega) (by omega)
        have ya := Lib.hid (fun c => Wi.rt_yes hR c)
        have na := Lib.hid (fun c => Wi.rt_no hR c)
        clear hR
        obtain ⟨S, hS⟩ : ∃ S, (r + 2 ^ k) * (r + 2 ^ k) = S := ⟨_, rfl⟩
        rw [hS] at m0 m1 ya na
        by_cases c : S ≤ n
        · have RY := ya.out c
          go_wp2_with fail
          go_roundw
          case rel => exact ⟨k, _, by omega, rfl, by rw [hhalf.out], RY, by first | rfl | trivial⟩
          case measure => first | (simp [intOf]; done) | (simp [intOf]; omega)
        · have RN := na.out c
          go_wp2_with fail
          go_roundw
          case rel => exact ⟨k, _, by omega, rfl, by rw [hhalf.out], RN, by first | rfl | trivial⟩
          case measure => first | (simp [intOf]; done) | (simp [intOf]; omega)
set_option maxRecDepth 100000 in
set_option maxHeartbeats 4000000 in
theorem rsqrtup1_c (n : Int) (w : World) (h1 : -9223372036854775808 ≤ n) (h2 : n ≤ 4611686018427387904) : Calls Try.prog 69 #[.int .i64 n] w fun e w' => e = .returned (.int .i64 (Iv.sqUp n)) ∧ Below w.heap.size w w' := by
  by_cases h : n ≤ 0
  · have E := Lib.hid (show Iv.sqUp n = Iv.sq n from by unfold Iv.sqUp; rw [sq_np h]; split <;> omega)
    have h0 : ¬ 0 < n := by omega
    go_enter Try.func69, Try.ntmps69
    go_wp2_with fail
    refine (rsqrt1_c _ _ h1 h2).mono ?_
    rintro e w1 ⟨rfl, hb⟩
    go_wp2_with fail
    go_returns
    exact ⟨ret_int E.out.symm, hb⟩
  · have sp := sq_spec (n := n) (by omega)
    have sl := sq_lt_of (n := n) (b := 2147483649) (by omega) (by omega) (by omega)
    have h0 : 0 < n := by omega
    have sb : Iv.sq n * Iv.sq n ≤ n := sp.2.1
    have s0 : 0 ≤ Iv.sq n * Iv.sq n := Int.mul_nonneg sp.1 sp.1
    by_cases c : Iv.sq n * Iv.sq n < n
    · have E := Lib.hid (show Iv.sqUp n = Iv.sq n + 1 from if_pos c)
      have p0 := sp.1
      clear sp
      obtain ⟨r, hr⟩ : ∃ r, Hid (Iv.sq n = r) := ⟨_, Lib.hid rfl⟩
      rw [hr.out] at E sb s0 c p0 sl
      obtain ⟨m, hm⟩ : ∃ m, r * r = m := ⟨_, rfl⟩
      rw [hm] at sb s0 c
      go_enter Try.func69, Try.ntmps69
      go_wp2_with fail
      refine (rsqrt1_c _ _ h1 h2).mono ?_
      rw [hr.out]
      rintro e w1 ⟨rfl, hb⟩
      go_wp2_with fail
      go_returns
      exact ⟨ret_int E.out.symm, hb⟩
    · have E := Lib.hid (show Iv.sqUp n = Iv.sq n from if_neg c)
      have p0 := sp.1
      clear sp
      obtain ⟨r, hr⟩ : ∃ r, Hid (Iv.sq n = r) := ⟨_, Lib.hid rfl⟩
      rw [hr.out] at E sb s0 c p0 sl
      obtain ⟨m, hm⟩ : ∃ m, r * r = m := ⟨_, rfl⟩
      rw [hm] at sb s0 c
      go_enter Try.func69, Try.ntmps69
      go_wp2_with fail
      refine (rsqrt1_c _ _ h1 h2).mono ?_
      rw [hr.out]
      rintro e w1 ⟨rfl, hb⟩
      go_wp2_with fail
      go_returns
      exact ⟨ret_int E.out.symm, hb⟩
end Go.Proofs.Ytclohghongpfkaa
