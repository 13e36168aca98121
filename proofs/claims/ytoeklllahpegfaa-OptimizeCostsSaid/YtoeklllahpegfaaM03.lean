/-
  Words and contracts, put together: O1, O3, O4, O5, O6, O2.
-/
import Derived.Test.YtoeklllahpegfaaM01
import Derived.Laws.IdiomStrings
import Derived.Lib.SmallJoins
/-
  Contracts: numbers and tables within bounds.
-/
namespace Go.Proofs.Ytoeklllahpegfaa
set_option linter.unusedVariables false
set_option linter.unusedSimpArgs false
open Go.RowKit
attribute [local irreducible] World.setCell World.cell?

set_option maxHeartbeats 1000000 in
theorem pwithin_c (a lo hi : Int) (w : World) : Calls Try.prog 58 #[.int .i64 a, .int .i64 lo, .int .i64 hi] w fun e w' => e = .returned (.bool (Oz.inB a lo hi)) ∧ w = w' := by
  by_cases h1 : lo ≤ a
  · by_cases h2 : a ≤ hi
    · rw [show Oz.inB a lo hi = true from decide_eq_true ⟨h1, h2⟩]
      go_enter Try.func58, Try.ntmps58
      go_wp2
      go_ret
      exact ⟨rfl, rfl⟩
    · rw [show Oz.inB a lo hi = false from decide_eq_false (by omega)]
      go_enter Try.func58, Try.ntmps58
      go_wp2
      go_ret
      exact ⟨rfl, rfl⟩
  · rw [show Oz.inB a lo hi = false from decide_eq_false (by omega)]
    go_enter Try.func58, Try.ntmps58
    go_wp2
    go_ret
    exact ⟨rfl, rfl⟩
set_option maxHeartbeats 2000000 in
theorem pall_c (A : Option Addr) (n c : Nat) (v : Nat → Int) (lo hi : Int) (w : World) (R : Rd w 1 A n c (nv v)) : Calls Try.prog 61 #[.slice A n c, .int .i64 lo, .int .i64 hi] w fun e w' => e = .returned (.bool (Oz.alB n v lo hi)) ∧ w = w' := by
  have r1 := R.le
  have r2 := R.mx
  go_enter Try.func61, Try.ntmps61
  go_wp2_with fail
  go_loopw [11] (fun i wr => ∃ k : Nat, k ≤ n ∧ i = .int .i64 k ∧ Hid (Oz.pre (fun i => Oz.inB (v i) lo hi) k = true) ∧ w = wr) (fun i _ => n - (intOf i).toNat)
  case atStart => exact ⟨0, Nat.zero_le _, rfl, rfl, rfl⟩
  case round =>
    obtain ⟨k, hk, rfl, hok, rfl⟩ := hrel
    by_cases hlt : k < n
    · obtain ⟨b, off, eA, hbl, u0⟩ := R.at1 hlt
      have HA := Lib.hid eA
      rw [HA.out]
      clear eA
      cases q : Oz.inB (v k) lo hi
      · have HE := Lib.hid (show Oz.alB n v lo hi = false from Oz.pre_no hlt q)
        have QD := Lib.hid q
        clear q
        go_wp2_with fail
        refine (pwithin_c _ _ _ _).mono ?_
        rw [QD.out]
        rintro e w_ ⟨rfl, rfl⟩
        go_wp2_with fail
        go_returns
        refine ⟨?_, rfl⟩
        rw [HE.out]; rfl
      have HO := Lib.hid (Oz.pre_step hok.out q)
      have QD := Lib.hid q
      clear q
      go_wp2_with fail
      refine (pwithin_c _ _ _ _).mono ?_
      rw [QD.out]
      rintro e w_ ⟨rfl, rfl⟩
      go_wp2_with fail
      go_roundw
      case rel => exact ⟨k + 1, by omega, by go_num, HO, by first | trivial | rfl⟩
      case measure => simp [intOf]; omega
    · obtain rfl : k = n := by omega
      have HE := Lib.hid (show Oz.alB k v lo hi = true from hok.out)
      clear hlt
      go_wp2_with fail
      go_returns
      refine ⟨?_, rfl⟩
      rw [HE.out]; rfl
set_option maxHeartbeats 2000000 in
theorem oall_c (A : Option Addr) (n c : Nat) (v : Nat → Int) (lo hi : Int) (w : World) (R : Rd w 1 A n c (nv v)) : Calls Try.prog 35 #[.slice A n c, .int .i64 lo, .int .i64 hi] w fun e w' => e = .returned (.bool (Oz.alB n v lo hi)) ∧ w = w' := by
  have r1 := R.le
  have r2 := R.mx
  go_enter Try.func35, Try.ntmps35
  go_wp2_with fail
  go_loopw [11] (fun i wr => ∃ k : Nat, k ≤ n ∧ i = .int .i64 k ∧ Hid (Oz.pre (fun i => Oz.inB (v i) lo hi) k = true) ∧ w = wr) (fun i _ => n - (intOf i).toNat)
  case atStart => exact ⟨0, Nat.zero_le _, rfl, rfl, rfl⟩
  case round =>
    obtain ⟨k, hk, rfl, hok, rfl⟩ := hrel
    by_cases hlt : k < n
    · obtain ⟨b, off, eA, hbl, u0⟩ := R.at1 hlt
      have HA := Lib.hid eA
      rw [HA.out]
      clear eA
      cases q : Oz.inB (v k) lo hi
      · have HE := Lib.hid (show Oz.alB n v lo hi = false from Oz.pre_no hlt q)
        have q2 := Oz.inB_no.1 q
        clear q
        by_cases h1 : v k < lo
        · go_wp2_with fail
          go_returns
          refine ⟨?_, rfl⟩
          rw [HE.out]; rfl
        · have h2 : hi < v k := by omega
          clear q2
          go_wp2_with fail
          go_returns
          refine ⟨?_, rfl⟩
          rw [HE.out]; rfl
      have HO := Lib.hid (Oz.pre_step hok.out q)
      obtain ⟨h1, h2⟩ := Oz.inB_iff.1 q
      clear q
      have h3 : ¬ v k < lo := by omega
      have h4 : ¬ hi < v k := by omega
      clear h1 h2
      go_wp2_with fail
      go_roundw
      case rel => exact ⟨k + 1, by omega, by go_num, HO, by first | trivial | rfl⟩
      case measure => simp [intOf]; omega
    · obtain rfl : k = n := by omega
      have HE := Lib.hid (show Oz.alB k v lo hi = true from hok.out)
      clear hlt
      go_wp2_with fail
      go_returns
      refine ⟨?_, rfl⟩
      rw [HE.out]; rfl
set_option maxHeartbeats 2000000 in
theorem rwithin_c (A : Option Addr) (n c : Nat) (v : Nat → Int) (lo hi : Int) (w : World) (R : Rd w 1 A n c (nv v)) : Calls Try.prog 38 #[.slice A n c, .int .i64 lo, .int .i64 hi] w fun e w' => e = .returned (.bool (Oz.alB n v lo hi)) ∧ w = w' := by
  have r1 := R.le
  have r2 := R.mx
  go_enter Try.func38, Try.ntmps38
  go_wp2_with fail
  go_loopw [11] (fun i wr => ∃ k : Nat, k ≤ n ∧ i = .int .i64 k ∧ Hid (Oz.pre (fun i => Oz.inB (v i) lo hi) k = true) ∧ w = wr) (fun i _ => n - (intOf i).toNat)
  case atStart => exact ⟨0, Nat.zero_le _, rfl, rfl, rfl⟩
  case round =>
    obtain ⟨k, hk, rfl, hok, rfl⟩ := hrel
    by_cases hlt : k < n
    · obtain ⟨b, off, eA, hbl, u0⟩ := R.at1 hlt
      have HA := Lib.hid eA
      rw [HA.out]
      clear eA
      cases q : Oz.inB (v k) lo hi
      · have HE := Lib.hid (show Oz.alB n v lo hi = false from Oz.pre_no hlt q)
        have q2 := Oz.inB_no.1 q
        clear q
        by_cases h1 : v k < lo
        · go_wp2_with fail
          go_returns
          refine ⟨?_, rfl⟩
          rw [HE.out]; rfl
        · have h2 : hi < v k := by omega
          clear q2
          go_wp2_with fail
          go_returns
          refine ⟨?_, rfl⟩
          rw [HE.out]; rfl
      have HO := Lib.hid (Oz.pre_step hok.out q)
      obtain ⟨h1, h2⟩ := Oz.inB_iff.1 q
      clear q
      have h3 : ¬ v k < lo := by omega
      have h4 : ¬ hi < v k := by omega
      clear h1 h2
      go_wp2_with fail
      go_roundw
      case rel => exact ⟨k + 1, by omega, by go_num, HO, by first | trivial | rfl⟩
      case measure => simp [intOf]; omega
    · obtain rfl : k = n := by omega
      have HE := Lib.hid (show Oz.alB k v lo hi = true from hok.out)
      clear hlt
      go_wp2_with fail
      go_returns
      refine ⟨?_, rfl⟩
      rw [HE.out]; rfl
set_option maxHeartbeats 2000000 in
theorem r31within_c (A : Option Addr) (n c : Nat) (v : Nat → Int) (lo hi : Int) (w : World) (R : Rd w 1 A n c (nv v)) : Calls Try.prog 69 #[.slice A n c, .int .i64 lo, .int .i64 hi] w fun e w' => e = .returned (.bool (Oz.alB n v lo hi)) ∧ w = w' := by
  have r1 := R.le
  have r2 := R.mx
  go_enter Try.func69, Try.ntmps69
  go_wp2_with fail
  go_loopw [11] (fun i wr => ∃ k : Nat, k ≤ n ∧ i = .int .i64 k ∧ Hid (Oz.pre (fun i => Oz.inB (v i) lo hi) k = true) ∧ w = wr) (fun i _ => n - (intOf i).toNat)
  case atStart => exact ⟨0, Nat.zero_le _, rfl, rfl, rfl⟩
  case round =>
    obtain ⟨k, hk, rfl, hok, rfl⟩ := hrel
    by_cases hlt : k < n
    · obtain ⟨b, off, eA, hbl, u0⟩ := R.at1 hlt
      have HA := Lib.hid eA
      rw [HA.out]
      clear eA
      cases q : Oz.inB (v k) lo hi
      · have HE := Lib.hid (show Oz.alB n v lo hi = false from Oz.pre_no hlt q)
        have q2 := Oz.inB_no.1 q
        clear q
        by_cases h1 : v k < lo
        · go_wp2_with fail
          go_returns
          refine ⟨?_, rfl⟩
          rw [HE.out]; rfl
        · have h2 : hi < v k := by omega
          clear q2
          go_wp2_with fail
          go_returns
          refine ⟨?_, rfl⟩
          rw [HE.out]; rfl
      have HO := Lib.hid (Oz.pre_step hok.out q)
      obtain ⟨h1, h2⟩ := Oz.inB_iff.1 q
      clear q
      have h3 : ¬ v k < lo := by omega
      have h4 : ¬ hi < v k := by omega
      clear h1 h2
      go_wp2_with fail
      go_roundw
      case rel => exact ⟨k + 1, by omega, by go_num, HO, by first | trivial | rfl⟩
      case measure => simp [intOf]; omega
    · obtain rfl : k = n := by omega
      have HE := Lib.hid (show Oz.alB k v lo hi = true from hok.out)
      clear hlt
      go_wp2_with fail
      go_returns
      refine ⟨?_, rfl⟩
      rw [HE.out]; rfl
set_option maxHeartbeats 2000000 in
theorem prows_c (A : Option Addr) (n c : Nat) (ln : Nat → Nat) (T : Nat → Nat → Int) (lo hi : Int) (w : World) (R : Tb w A n c ln T) : Calls Try.prog 62 #[.slice A n c, .int .i64 lo, .int .i64 hi] w fun e w' => e = .returned (.bool (Oz.alT n ln T lo hi)) ∧ w = w' := by
  have r1 := R.le
  have r2 := R.mx
  go_enter Try.func62, Try.ntmps62
  go_wp2_with fail
  go_loopw [11] (fun i wr => ∃ k : Nat, k ≤ n ∧ i = .int .i64 k ∧ Hid (Oz.pre (fun i => Oz.alB (ln i) (T i) lo hi) k = true) ∧ w = wr) (fun i _ => n - (intOf i).toNat)
  case atStart => exact ⟨0, Nat.zero_le _, rfl, rfl, rfl⟩
  case round =>
    obtain ⟨k, hk, rfl, hok, rfl⟩ := hrel
    by_cases hlt : k < n
    · obtain ⟨b, off, X, cp, eA, hbl, u0, RX⟩ := R.at1 hlt
      have HA := Lib.hid eA
      rw [HA.out]
      clear eA
      go_wp2_with fail
      refine (pall_c _ _ _ _ _ _ _ RX).mono ?_
      cases q : Oz.alB (ln k) (T k) lo hi
      · have HE := Lib.hid (show Oz.alT n ln T lo hi = false from Oz.pre_no hlt q)
        clear q
        rintro e w_ ⟨rfl, rfl⟩
        go_wp2_with fail
        go_returns
        refine ⟨?_, rfl⟩
        rw [HE.out]; rfl
      have HO := Lib.hid (Oz.pre_step (p := fun i => Oz.alB (ln i) (T i) lo hi) hok.out q)
      clear q
      rintro e w_ ⟨rfl, rfl⟩
      go_wp2_with fail
      try rw [← HA.out]
      go_roundw
      case rel => exact ⟨k + 1, by omega, by go_num, HO, by first | trivial | rfl⟩
      case measure => simp [intOf]; omega
    · obtain rfl : k = n := by omega
      have HE := Lib.hid (show Oz.alT k ln T lo hi = true from hok.out)
      clear hlt
      go_wp2_with fail
      go_returns
      refine ⟨?_, rfl⟩
      rw [HE.out]; rfl
set_option maxHeartbeats 2000000 in
theorem r31all_c (A : Option Addr) (n c : Nat) (ln : Nat → Nat) (T : Nat → Nat → Int) (lo hi : Int) (w : World) (R : Tb w A n c ln T) : Calls Try.prog 70 #[.slice A n c, .int .i64 lo, .int .i64 hi] w fun e w' => e = .returned (.bool (Oz.alT n ln T lo hi)) ∧ w = w' := by
  have r1 := R.le
  have r2 := R.mx
  go_enter Try.func70, Try.ntmps70
  go_wp2_with fail
  go_loopw [11] (fun i wr => ∃ k : Nat, k ≤ n ∧ i = .int .i64 k ∧ Hid (Oz.pre (fun i => Oz.alB (ln i) (T i) lo hi) k = true) ∧ w = wr) (fun i _ => n - (intOf i).toNat)
  case atStart => exact ⟨0, Nat.zero_le _, rfl, rfl, rfl⟩
  case round =>
    obtain ⟨k, hk, rfl, hok, rfl⟩ := hrel
    by_cases hlt : k < n
    · obtain ⟨b, off, X, cp, eA, hbl, u0, RX⟩ := R.at1 hlt
      have HA := Lib.hid eA
      rw [HA.out]
      clear eA
      go_wp2_with fail
      refine (r31within_c _ _ _ _ _ _ _ RX).mono ?_
      cases q : Oz.alB (ln k) (T k) lo hi
      · have HE := Lib.hid (show Oz.alT n ln T lo hi = false from Oz.pre_no hlt q)
        clear q
        rintro e w_ ⟨rfl, rfl⟩
        go_wp2_with fail
        go_returns
        refine ⟨?_, rfl⟩
        rw [HE.out]; rfl
      have HO := Lib.hid (Oz.pre_step (p := fun i => Oz.alB (ln i) (T i) lo hi) hok.out q)
      clear q
      rintro e w_ ⟨rfl, rfl⟩
      go_wp2_with fail
      try rw [← HA.out]
      go_roundw
      case rel => exact ⟨k + 1, by omega, by go_num, HO, by first | trivial | rfl⟩
      case measure => simp [intOf]; omega
    · obtain rfl : k = n := by omega
      have HE := Lib.hid (show Oz.alT k ln T lo hi = true from hok.out)
      clear hlt
      go_wp2_with fail
      go_returns
      refine ⟨?_, rfl⟩
      rw [HE.out]; rfl
set_option maxHeartbeats 4000000 in
theorem pasc_c (A : Option Addr) (n c : Nat) (v : Nat → Int) (w : World) (R : Rd w 1 A n c (nv v)) : Calls Try.prog 60 #[.slice A n c] w fun e w' => e = .returned (.bool (Oz.asB n v)) ∧ Below w.heap.size w w' := by
  have r1 := R.le
  have r2 := R.mx
  go_enter Try.func60, Try.ntmps60
  go_wp2_with fail
  go_loopw [3] (fun i wr => ∃ k : Nat, 1 ≤ k ∧ (k ≤ n ∨ k = 1) ∧ i = .int .i64 k ∧ Hid (Oz.pre (Oz.asP v) k = true) ∧ Below w.heap.size w wr) (fun i _ => n - (intOf i).toNat)
  case atStart => exact ⟨1, Nat.le_refl _, .inr rfl, rfl, (by simp [Oz.pre, Oz.asP, Oz.lvP, Oz.faP, Oz.riP] : Oz.pre (Oz.asP v) 1 = true), Below.refl _ _⟩
  case round =>
    obtain ⟨k, hk1, hk, rfl, hok, hB⟩ := hrel
    by_cases hlt : k < n
    · obtain ⟨j, rfl⟩ : ∃ j, k = j + 1 := ⟨k - 1, by omega⟩
      have RW := R.keep hB
      obtain ⟨b, off, eA, hbl, u0⟩ := RW.at1 hlt
      have HA := Lib.hid eA
      rw [HA.out] at RW ⊢
      clear eA
      obtain ⟨_, u1⟩ := RW.s1o (k := j) (by omega)
      have i1 : (0 : Int) ≤ (j : Int) := by omega
      have i2 : (j : Int) + 1 < (n : Int) := by omega
      have i3 : (j : Int) < (n : Int) := by omega
      have i4 : (j : Int) + 1 - 1 = (j : Int) := by omega
      by_cases q : v j < v (j + 1)
      · have HO := Lib.hid (Oz.pre_step hok.out (show (Oz.asP v) (j + 1) = true from decide_eq_true (.inr (by simpa using q))))
        have g1 : decide (v (j + 1) ≤ v j) = false := decide_eq_false (by omega)
        clear q RW hk1 hk
        go_wp2_with fail
        go_quiet (fail)
        go_wp2
        try rw [← HA.out]
        go_roundw
        case rel => exact ⟨j + 1 + 1, by omega, .inl (by omega), by go_num, HO, bdnl hB _⟩
        case measure => simp [intOf]; omega
      · have HE := Lib.hid (show Oz.asB n v = false from Oz.pre_no hlt (decide_eq_false (by rintro (h | h); exact absurd h (by omega); exact q (by simpa using h))))
        have g1 : decide (v (j + 1) ≤ v j) = true := decide_eq_true (by omega)
        clear q RW hk1 hk
        go_wp2_with fail
        go_quiet (fail)
        go_wp2
        go_returns
        refine ⟨?_, bdnl hB _⟩
        rw [HE.out]; rfl
    · have HE := Lib.hid (show Oz.asB n v = true from (Oz.pre_iff _ n).2 fun i hi => (Oz.pre_iff _ k).1 hok.out i (by omega))
      have hnk : ¬ (k : Int) < (n : Int) := by omega
      clear hlt hk1 hk
      go_wp2_with fail
      go_returns
      refine ⟨?_, hB⟩
      rw [HE.out]; rfl
set_option maxHeartbeats 4000000 in
theorem oasc_c (A : Option Addr) (n c : Nat) (v : Nat → Int) (w : World) (R : Rd w 1 A n c (nv v)) : Calls Try.prog 34 #[.slice A n c] w fun e w' => e = .returned (.bool (Oz.asB n v)) ∧ Below w.heap.size w w' := by
  have r1 := R.le
  have r2 := R.mx
  go_enter Try.func34, Try.ntmps34
  go_wp2_with fail
  go_loopw [3] (fun i wr => ∃ k : Nat, 1 ≤ k ∧ (k ≤ n ∨ k = 1) ∧ i = .int .i64 k ∧ Hid (Oz.pre (Oz.asP v) k = true) ∧ Below w.heap.size w wr) (fun i _ => n - (intOf i).toNat)
  case atStart => exact ⟨1, Nat.le_refl _, .inr rfl, rfl, (by simp [Oz.pre, Oz.asP, Oz.lvP, Oz.faP, Oz.riP] : Oz.pre (Oz.asP v) 1 = true), Below.refl _ _⟩
  case round =>
    obtain ⟨k, hk1, hk, rfl, hok, hB⟩ := hrel
    by_cases hlt : k < n
    · obtain ⟨j, rfl⟩ : ∃ j, k = j + 1 := ⟨k - 1, by omega⟩
      have RW := R.keep hB
      obtain ⟨b, off, eA, hbl, u0⟩ := RW.at1 hlt
      have HA := Lib.hid eA
      rw [HA.out] at RW ⊢
      clear eA
      obtain ⟨_, u1⟩ := RW.s1o (k := j) (by omega)
      have i1 : (0 : Int) ≤ (j : Int) := by omega
      have i2 : (j : Int) + 1 < (n : Int) := by omega
      have i3 : (j : Int) < (n : Int) := by omega
      have i4 : (j : Int) + 1 - 1 = (j : Int) := by omega
      by_cases q : v j < v (j + 1)
      · have HO := Lib.hid (Oz.pre_step hok.out (show (Oz.asP v) (j + 1) = true from decide_eq_true (.inr (by simpa using q))))
        have g1 : decide (v (j + 1) ≤ v j) = false := decide_eq_false (by omega)
        clear q RW hk1 hk
        go_wp2_with fail
        go_quiet (fail)
        go_wp2
        try rw [← HA.out]
        go_roundw
        case rel => exact ⟨j + 1 + 1, by omega, .inl (by omega), by go_num, HO, bdnl hB _⟩
        case measure => simp [intOf]; omega
      · have HE := Lib.hid (show Oz.asB n v = false from Oz.pre_no hlt (decide_eq_false (by rintro (h | h); exact absurd h (by omega); exact q (by simpa using h))))
        have g1 : decide (v (j + 1) ≤ v j) = true := decide_eq_true (by omega)
        clear q RW hk1 hk
        go_wp2_with fail
        go_quiet (fail)
        go_wp2
        go_returns
        refine ⟨?_, bdnl hB _⟩
        rw [HE.out]; rfl
    · have HE := Lib.hid (show Oz.asB n v = true from (Oz.pre_iff _ n).2 fun i hi => (Oz.pre_iff _ k).1 hok.out i (by omega))
      have hnk : ¬ (k : Int) < (n : Int) := by omega
      clear hlt hk1 hk
      go_wp2_with fail
      go_returns
      refine ⟨?_, hB⟩
      rw [HE.out]; rfl
set_option maxHeartbeats 4000000 in
theorem rrising_c (A : Option Addr) (n c : Nat) (v : Nat → Int) (w : World) (R : Rd w 1 A n c (nv v)) : Calls Try.prog 37 #[.slice A n c] w fun e w' => e = .returned (.bool (Oz.asB n v)) ∧ Below w.heap.size w w' := by
  have r1 := R.le
  have r2 := R.mx
  go_enter Try.func37, Try.ntmps37
  go_wp2_with fail
  go_loopw [3] (fun i wr => ∃ k : Nat, 1 ≤ k ∧ (k ≤ n ∨ k = 1) ∧ i = .int .i64 k ∧ Hid (Oz.pre (Oz.asP v) k = true) ∧ Below w.heap.size w wr) (fun i _ => n - (intOf i).toNat)
  case atStart => exact ⟨1, Nat.le_refl _, .inr rfl, rfl, (by simp [Oz.pre, Oz.asP, Oz.lvP, Oz.faP, Oz.riP] : Oz.pre (Oz.asP v) 1 = true), Below.refl _ _⟩
  case round =>
    obtain ⟨k, hk1, hk, rfl, hok, hB⟩ := hrel
    by_cases hlt : k < n
    · obtain ⟨j, rfl⟩ : ∃ j, k = j + 1 := ⟨k - 1, by omega⟩
      have RW := R.keep hB
      obtain ⟨b, off, eA, hbl, u0⟩ := RW.at1 hlt
      have HA := Lib.hid eA
      rw [HA.out] at RW ⊢
      clear eA
      obtain ⟨_, u1⟩ := RW.s1o (k := j) (by omega)
      have i1 : (0 : Int) ≤ (j : Int) := by omega
      have i2 : (j : Int) + 1 < (n : Int) := by omega
      have i3 : (j : Int) < (n : Int) := by omega
      have i4 : (j : Int) + 1 - 1 = (j : Int) := by omega
      by_cases q : v j < v (j + 1)
      · have HO := Lib.hid (Oz.pre_step hok.out (show (Oz.asP v) (j + 1) = true from decide_eq_true (.inr (by simpa using q))))
        have g1 : decide (v (j + 1) ≤ v j) = false := decide_eq_false (by omega)
        clear q RW hk1 hk
        go_wp2_with fail
        go_quiet (fail)
        go_wp2
        try rw [← HA.out]
        go_roundw
        case rel => exact ⟨j + 1 + 1, by omega, .inl (by omega), by go_num, HO, bdnl hB _⟩
        case measure => simp [intOf]; omega
      · have HE := Lib.hid (show Oz.asB n v = false from Oz.pre_no hlt (decide_eq_false (by rintro (h | h); exact absurd h (by omega); exact q (by simpa using h))))
        have g1 : decide (v (j + 1) ≤ v j) = true := decide_eq_true (by omega)
        clear q RW hk1 hk
        go_wp2_with fail
        go_quiet (fail)
        go_wp2
        go_returns
        refine ⟨?_, bdnl hB _⟩
        rw [HE.out]; rfl
    · have HE := Lib.hid (show Oz.asB n v = true from (Oz.pre_iff _ n).2 fun i hi => (Oz.pre_iff _ k).1 hok.out i (by omega))
      have hnk : ¬ (k : Int) < (n : Int) := by omega
      clear hlt hk1 hk
      go_wp2_with fail
      go_returns
      refine ⟨?_, hB⟩
      rw [HE.out]; rfl
set_option maxHeartbeats 4000000 in
theorem r31rising_c (A : Option Addr) (n c : Nat) (v : Nat → Int) (w : World) (R : Rd w 1 A n c (nv v)) : Calls Try.prog 68 #[.slice A n c] w fun e w' => e = .returned (.bool (Oz.asB n v)) ∧ Below w.heap.size w w' := by
  have r1 := R.le
  have r2 := R.mx
  go_enter Try.func68, Try.ntmps68
  go_wp2_with fail
  go_loopw [3] (fun i wr => ∃ k : Nat, 1 ≤ k ∧ (k ≤ n ∨ k = 1) ∧ i = .int .i64 k ∧ Hid (Oz.pre (Oz.asP v) k = true) ∧ Below w.heap.size w wr) (fun i _ => n - (intOf i).toNat)
  case atStart => exact ⟨1, Nat.le_refl _, .inr rfl, rfl, (by simp [Oz.pre, Oz.asP, Oz.lvP, Oz.faP, Oz.riP] : Oz.pre (Oz.asP v) 1 = true), Below.refl _ _⟩
  case round =>
    obtain ⟨k, hk1, hk, rfl, hok, hB⟩ := hrel
    by_cases hlt : k < n
    · obtain ⟨j, rfl⟩ : ∃ j, k = j + 1 := ⟨k - 1, by omega⟩
      have RW := R.keep hB
      obtain ⟨b, off, eA, hbl, u0⟩ := RW.at1 hlt
      have HA := Lib.hid eA
      rw [HA.out] at RW ⊢
      clear eA
      obtain ⟨_, u1⟩ := RW.s1o (k := j) (by omega)
      have i1 : (0 : Int) ≤ (j : Int) := by omega
      have i2 : (j : Int) + 1 < (n : Int) := by omega
      have i3 : (j : Int) < (n : Int) := by omega
      have i4 : (j : Int) + 1 - 1 = (j : Int) := by omega
      by_cases q : v j < v (j + 1)
      · have HO := Lib.hid (Oz.pre_step hok.out (show (Oz.asP v) (j + 1) = true from decide_eq_true (.inr (by simpa using q))))
        have g1 : decide (v (j + 1) ≤ v j) = false := decide_eq_false (by omega)
        clear q RW hk1 hk
        go_wp2_with fail
        go_quiet (fail)
        go_wp2
        try rw [← HA.out]
        go_roundw
        case rel => exact ⟨j + 1 + 1, by omega, .inl (by omega), by go_num, HO, bdnl hB _⟩
        case measure => simp [intOf]; omega
      · have HE := Lib.hid (show Oz.asB n v = false from Oz.pre_no hlt (decide_eq_false (by rintro (h | h); exact absurd h (by omega); exact q (by simpa using h))))
        have g1 : decide (v (j + 1) ≤ v j) = true := decide_eq_true (by omega)
        clear q RW hk1 hk
        go_wp2_with fail
        go_quiet (fail)
        go_wp2
        go_returns
        refine ⟨?_, bdnl hB _⟩
        rw [HE.out]; rfl
    · have HE := Lib.hid (show Oz.asB n v = true from (Oz.pre_iff _ n).2 fun i hi => (Oz.pre_iff _ k).1 hok.out i (by omega))
      have hnk : ¬ (k : Int) < (n : Int) := by omega
      clear hlt hk1 hk
      go_wp2_with fail
      go_returns
      refine ⟨?_, hB⟩
      rw [HE.out]; rfl
set_option maxHeartbeats 4000000 in
theorem r31level_c (A : Option Addr) (n c : Nat) (v : Nat → Int) (w : World) (R : Rd w 1 A n c (nv v)) : Calls Try.prog 73 #[.slice A n c] w fun e w' => e = .returned (.bool (Oz.lvB n v)) ∧ Below w.heap.size w w' := by
  have r1 := R.le
  have r2 := R.mx
  go_enter Try.func73, Try.ntmps73
  go_wp2_with fail
  go_loopw [3] (fun i wr => ∃ k : Nat, 1 ≤ k ∧ (k ≤ n ∨ k = 1) ∧ i = .int .i64 k ∧ Hid (Oz.pre (Oz.lvP v) k = true) ∧ Below w.heap.size w wr) (fun i _ => n - (intOf i).toNat)
  case atStart => exact ⟨1, Nat.le_refl _, .inr rfl, rfl, (by simp [Oz.pre, Oz.asP, Oz.lvP, Oz.faP, Oz.riP] : Oz.pre (Oz.lvP v) 1 = true), Below.refl _ _⟩
  case round =>
    obtain ⟨k, hk1, hk, rfl, hok, hB⟩ := hrel
    by_cases hlt : k < n
    · obtain ⟨j, rfl⟩ : ∃ j, k = j + 1 := ⟨k - 1, by omega⟩
      have RW := R.keep hB
      obtain ⟨b, off, eA, hbl, u0⟩ := RW.at1 hlt
      have HA := Lib.hid eA
      rw [HA.out] at RW ⊢
      clear eA
      obtain ⟨_, u1⟩ := RW.s1o (k := j) (by omega)
      have i1 : (0 : Int) ≤ (j : Int) := by omega
      have i2 : (j : Int) + 1 < (n : Int) := by omega
      have i3 : (j : Int) < (n : Int) := by omega
      have i4 : (j : Int) + 1 - 1 = (j : Int) := by omega
      by_cases q : v j ≤ v (j + 1)
      · have HO := Lib.hid (Oz.pre_step hok.out (show (Oz.lvP v) (j + 1) = true from decide_eq_true (.inr (by simpa using q))))
        have g1 : decide (v (j + 1) < v j) = false := decide_eq_false (by omega)
        clear q RW hk1 hk
        go_wp2_with fail
        go_quiet (fail)
        go_wp2
        try rw [← HA.out]
        go_roundw
        case rel => exact ⟨j + 1 + 1, by omega, .inl (by omega), by go_num, HO, bdnl hB _⟩
        case measure => simp [intOf]; omega
      · have HE := Lib.hid (show Oz.lvB n v = false from Oz.pre_no hlt (decide_eq_false (by rintro (h | h); exact absurd h (by omega); exact q (by simpa using h))))
        have g1 : decide (v (j + 1) < v j) = true := decide_eq_true (by omega)
        clear q RW hk1 hk
        go_wp2_with fail
        go_quiet (fail)
        go_wp2
        go_returns
        refine ⟨?_, bdnl hB _⟩
        rw [HE.out]; rfl
    · have HE := Lib.hid (show Oz.lvB n v = true from (Oz.pre_iff _ n).2 fun i hi => (Oz.pre_iff _ k).1 hok.out i (by omega))
      have hnk : ¬ (k : Int) < (n : Int) := by omega
      clear hlt hk1 hk
      go_wp2_with fail
      go_returns
      refine ⟨?_, hB⟩
      rw [HE.out]; rfl
set_option maxHeartbeats 4000000 in
theorem r31falling_c (A : Option Addr) (n c : Nat) (v : Nat → Int) (w : World) (R : Rd w 1 A n c (nv v)) : Calls Try.prog 74 #[.slice A n c] w fun e w' => e = .returned (.bool (Oz.faB n v)) ∧ Below w.heap.size w w' := by
  have r1 := R.le
  have r2 := R.mx
  go_enter Try.func74, Try.ntmps74
  go_wp2_with fail
  go_loopw [3] (fun i wr => ∃ k : Nat, 1 ≤ k ∧ (k ≤ n ∨ k = 1) ∧ i = .int .i64 k ∧ Hid (Oz.pre (Oz.faP v) k = true) ∧ Below w.heap.size w wr) (fun i _ => n - (intOf i).toNat)
  case atStart => exact ⟨1, Nat.le_refl _, .inr rfl, rfl, (by simp [Oz.pre, Oz.asP, Oz.lvP, Oz.faP, Oz.riP] : Oz.pre (Oz.faP v) 1 = true), Below.refl _ _⟩
  case round =>
    obtain ⟨k, hk1, hk, rfl, hok, hB⟩ := hrel
    by_cases hlt : k < n
    · obtain ⟨j, rfl⟩ : ∃ j, k = j + 1 := ⟨k - 1, by omega⟩
      have RW := R.keep hB
      obtain ⟨b, off, eA, hbl, u0⟩ := RW.at1 hlt
      have HA := Lib.hid eA
      rw [HA.out] at RW ⊢
      clear eA
      obtain ⟨_, u1⟩ := RW.s1o (k := j) (by omega)
      have i1 : (0 : Int) ≤ (j : Int) := by omega
      have i2 : (j : Int) + 1 < (n : Int) := by omega
      have i3 : (j : Int) < (n : Int) := by omega
      have i4 : (j : Int) + 1 - 1 = (j : Int) := by omega
      by_cases q : v (j + 1) ≤ v j
      · have HO := Lib.hid (Oz.pre_step hok.out (show (Oz.faP v) (j + 1) = true from decide_eq_true (.inr (by simpa using q))))
        have g1 : decide (v j < v (j + 1)) = false := decide_eq_false (by omega)
        clear q RW hk1 hk
        go_wp2_with fail
        go_quiet (fail)
        go_wp2
        try rw [← HA.out]
        go_roundw
        case rel => exact ⟨j + 1 + 1, by omega, .inl (by omega), by go_num, HO, bdnl hB _⟩
        case measure => simp [intOf]; omega
      · have HE := Lib.hid (show Oz.faB n v = false from Oz.pre_no hlt (decide_eq_false (by rintro (h | h); exact absurd h (by omega); exact q (by simpa using h))))
        have g1 : decide (v j < v (j + 1)) = true := decide_eq_true (by omega)
        clear q RW hk1 hk
        go_wp2_with fail
        go_quiet (fail)
        go_wp2
        go_returns
        refine ⟨?_, bdnl hB _⟩
        rw [HE.out]; rfl
    · have HE := Lib.hid (show Oz.faB n v = true from (Oz.pre_iff _ n).2 fun i hi => (Oz.pre_iff _ k).1 hok.out i (by omega))
      have hnk : ¬ (k : Int) < (n : Int) := by omega
      clear hlt hk1 hk
      go_wp2_with fail
      go_returns
      refine ⟨?_, hB⟩
      rw [HE.out]; rfl
set_option maxHeartbeats 4000000 in
theorem prise_c (A : Option Addr) (n c : Nat) (v : Nat → Int) (w : World) (R : Rd w 1 A n c (nv v)) (hbd : ∀ i, i < n → -1000000000000 ≤ v i ∧ v i ≤ 1000000000000) : Calls Try.prog 65 #[.slice A n c, .int .i64 1] w fun e w' => e = .returned (.bool (Oz.lvB n v)) ∧ Below w.heap.size w w' := by
  have r1 := R.le
  have r2 := R.mx
  go_enter Try.func65, Try.ntmps65
  go_wp2_with fail
  go_loopw [5] (fun i wr => ∃ k : Nat, 1 ≤ k ∧ (k ≤ n ∨ k = 1) ∧ i = .int .i64 k ∧ Hid (Oz.pre (Oz.lvP v) k = true) ∧ Below w.heap.size w wr) (fun i _ => n - (intOf i).toNat)
  case atStart => exact ⟨1, Nat.le_refl _, .inr rfl, rfl, (by simp [Oz.pre, Oz.asP, Oz.lvP, Oz.faP, Oz.riP] : Oz.pre (Oz.lvP v) 1 = true), Below.refl _ _⟩
  case round =>
    obtain ⟨k, hk1, hk, rfl, hok, hB⟩ := hrel
    by_cases hlt : k < n
    · obtain ⟨j, rfl⟩ : ∃ j, k = j + 1 := ⟨k - 1, by omega⟩
      have RW := R.keep hB
      obtain ⟨b, off, eA, hbl, u0⟩ := RW.at1 hlt
      have HA := Lib.hid eA
      rw [HA.out] at RW ⊢
      clear eA
      obtain ⟨_, u1⟩ := RW.s1o (k := j) (by omega)
      have i1 : (0 : Int) ≤ (j : Int) := by omega
      have i2 : (j : Int) + 1 < (n : Int) := by omega
      have i3 : (j : Int) < (n : Int) := by omega
      have i4 : (j : Int) + 1 - 1 = (j : Int) := by omega
      obtain ⟨w1, w2⟩ := hbd (j + 1) (by omega)
      obtain ⟨w3, w4⟩ := hbd j (by omega)
      by_cases q : v j ≤ v (j + 1)
      · have HO := Lib.hid (Oz.pre_step hok.out (show (Oz.lvP v) (j + 1) = true from decide_eq_true (.inr (by simpa using q))))
        have g1 : decide (v (j + 1) < v j) = false := decide_eq_false (by omega)
        clear q RW hk1 hk
        go_wp2_with fail
        go_quiet (fail)
        go_wp2
        try rw [← HA.out]
        go_roundw
        case rel => exact ⟨j + 1 + 1, by omega, .inl (by omega), by go_num, HO, bdnl hB _⟩
        case measure => simp [intOf]; omega
      · have HE := Lib.hid (show Oz.lvB n v = false from Oz.pre_no hlt (decide_eq_false (by rintro (h | h); exact absurd h (by omega); exact q (by simpa using h))))
        have g1 : decide (v (j + 1) < v j) = true := decide_eq_true (by omega)
        clear q RW hk1 hk
        go_wp2_with fail
        go_quiet (fail)
        go_wp2
        go_returns
        refine ⟨?_, bdnl hB _⟩
        rw [HE.out]; rfl
    · have HE := Lib.hid (show Oz.lvB n v = true from (Oz.pre_iff _ n).2 fun i hi => (Oz.pre_iff _ k).1 hok.out i (by omega))
      have hnk : ¬ (k : Int) < (n : Int) := by omega
      clear hlt hk1 hk
      go_wp2_with fail
      go_returns
      refine ⟨?_, hB⟩
      rw [HE.out]; rfl
set_option maxHeartbeats 4000000 in
theorem pfall_c (A : Option Addr) (n c : Nat) (v : Nat → Int) (w : World) (R : Rd w 1 A n c (nv v)) (hbd : ∀ i, i < n → -1000000000000 ≤ v i ∧ v i ≤ 1000000000000) : Calls Try.prog 65 #[.slice A n c, .int .i64 (-1)] w fun e w' => e = .returned (.bool (Oz.faB n v)) ∧ Below w.heap.size w w' := by
  have r1 := R.le
  have r2 := R.mx
  go_enter Try.func65, Try.ntmps65
  go_wp2_with fail
  go_loopw [5] (fun i wr => ∃ k : Nat, 1 ≤ k ∧ (k ≤ n ∨ k = 1) ∧ i = .int .i64 k ∧ Hid (Oz.pre (Oz.faP v) k = true) ∧ Below w.heap.size w wr) (fun i _ => n - (intOf i).toNat)
  case atStart => exact ⟨1, Nat.le_refl _, .inr rfl, rfl, (by simp [Oz.pre, Oz.asP, Oz.lvP, Oz.faP, Oz.riP] : Oz.pre (Oz.faP v) 1 = true), Below.refl _ _⟩
  case round =>
    obtain ⟨k, hk1, hk, rfl, hok, hB⟩ := hrel
    by_cases hlt : k < n
    · obtain ⟨j, rfl⟩ : ∃ j, k = j + 1 := ⟨k - 1, by omega⟩
      have RW := R.keep hB
      obtain ⟨b, off, eA, hbl, u0⟩ := RW.at1 hlt
      have HA := Lib.hid eA
      rw [HA.out] at RW ⊢
      clear eA
      obtain ⟨_, u1⟩ := RW.s1o (k := j) (by omega)
      have i1 : (0 : Int) ≤ (j : Int) := by omega
      have i2 : (j : Int) + 1 < (n : Int) := by omega
      have i3 : (j : Int) < (n : Int) := by omega
      have i4 : (j : Int) + 1 - 1 = (j : Int) := by omega
      obtain ⟨w1, w2⟩ := hbd (j + 1) (by omega)
      obtain ⟨w3, w4⟩ := hbd j (by omega)
      by_cases q : v (j + 1) ≤ v j
      · have HO := Lib.hid (Oz.pre_step hok.out (show (Oz.faP v) (j + 1) = true from decide_eq_true (.inr (by simpa using q))))
        have g1 : decide (v j < v (j + 1)) = false := decide_eq_false (by omega)
        have g2 : decide (-v (j + 1) < -v j) = false := decide_eq_false (by omega)
        clear q RW hk1 hk
        go_wp2_with fail
        go_quiet (fail)
        go_wp2
        try rw [← HA.out]
        go_roundw
        case rel => exact ⟨j + 1 + 1, by omega, .inl (by omega), by go_num, HO, bdnl hB _⟩
        case measure => simp [intOf]; omega
      · have HE := Lib.hid (show Oz.faB n v = false from Oz.pre_no hlt (decide_eq_false (by rintro (h | h); exact absurd h (by omega); exact q (by simpa using h))))
        have g1 : decide (v j < v (j + 1)) = true := decide_eq_true (by omega)
        have g2 : decide (-v (j + 1) < -v j) = true := decide_eq_true (by omega)
        clear q RW hk1 hk
        go_wp2_with fail
        go_quiet (fail)
        go_wp2
        go_returns
        refine ⟨?_, bdnl hB _⟩
        rw [HE.out]; rfl
    · have HE := Lib.hid (show Oz.faB n v = true from (Oz.pre_iff _ n).2 fun i hi => (Oz.pre_iff _ k).1 hok.out i (by omega))
      have hnk : ¬ (k : Int) < (n : Int) := by omega
      clear hlt hk1 hk
      go_wp2_with fail
      go_returns
      refine ⟨?_, hB⟩
      rw [HE.out]; rfl
end Go.Proofs.Ytoeklllahpegfaa
/-
  Contracts: the shape of a table, and how it rises.
-/
namespace Go.Proofs.Ytoeklllahpegfaa
set_option linter.unusedVariables false
set_option linter.unusedSimpArgs false
open Go.RowKit
attribute [local irreducible] World.setCell World.cell?

set_option maxHeartbeats 4000000 in
theorem pshaped_c (P : PD) (Q : PA) (A : Option Addr) (n c : Nat) (ln : Nat → Nat) (T : Nat → Nat → Int) (w : World) (R : Tb w A n c ln T) : Calls Try.prog 59 #[.agg #[.string P.nm, .int .i64 P.em, .int .i64 P.fu, .slice Q.al P.na Q.alc, .slice Q.ma P.nM Q.mac, .slice Q.tC P.nC Q.tCc, .slice Q.tF P.nF Q.tFc, .slice Q.tR P.nR Q.tRc, .slice Q.dD P.nD Q.dDc, .slice Q.dI P.nI Q.dIc, .slice Q.dX P.nX Q.dXc, .slice Q.dN P.nN Q.dNc, .int .i64 P.rf, .int .i64 P.xt, .int .i64 P.ce], .slice A n c] w fun e w' => e = .returned (.bool (Oz.shT n ln P.nM && decide (n = P.na))) ∧ Below w.heap.size w w' := by
  have r1 := R.le
  have r2 := R.mx
  go_enter Try.func59, Try.ntmps59
  go_wp2_with fail
  have G := Blk.new w 25 #[.string P.nm, .int .i64 P.em, .int .i64 P.fu, .slice Q.al P.na Q.alc, .slice Q.ma P.nM Q.mac, .slice Q.tC P.nC Q.tCc, .slice Q.tF P.nF Q.tFc, .slice Q.tR P.nR Q.tRc, .slice Q.dD P.nD Q.dDc, .slice Q.dI P.nI Q.dIc, .slice Q.dX P.nX Q.dXc, .slice Q.dN P.nN Q.dNc, .int .i64 P.rf, .int .i64 P.xt, .int .i64 P.ce]
  have hB := ba w (.cells #[.string P.nm, .int .i64 P.em, .int .i64 P.fu, .slice Q.al P.na Q.alc, .slice Q.ma P.nM Q.mac, .slice Q.tC P.nC Q.tCc, .slice Q.tF P.nF Q.tFc, .slice Q.tR P.nR Q.tRc, .slice Q.dD P.nD Q.dDc, .slice Q.dI P.nI Q.dIc, .slice Q.dX P.nX Q.dXc, .slice Q.dN P.nN Q.dNc, .int .i64 P.rf, .int .i64 P.xt, .int .i64 P.ce] 25)
  go_loopw [9] (fun i wr => ∃ k : Nat, k ≤ n ∧ i = .int .i64 k ∧ Hid (Oz.pre (fun i => decide (ln i = P.nM)) k = true) ∧ Blk wr w.heap.size 25 #[.string P.nm, .int .i64 P.em, .int .i64 P.fu, .slice Q.al P.na Q.alc, .slice Q.ma P.nM Q.mac, .slice Q.tC P.nC Q.tCc, .slice Q.tF P.nF Q.tFc, .slice Q.tR P.nR Q.tRc, .slice Q.dD P.nD Q.dDc, .slice Q.dI P.nI Q.dIc, .slice Q.dX P.nX Q.dXc, .slice Q.dN P.nN Q.dNc, .int .i64 P.rf, .int .i64 P.xt, .int .i64 P.ce] ∧ Below w.heap.size w wr) (fun i _ => n - (intOf i).toNat)
  case atStart => exact ⟨0, Nat.zero_le _, rfl, rfl, G, hB⟩
  case round =>
    clear G hB
    obtain ⟨k, hk, rfl, hok, G, hB⟩ := hrel
    obtain ⟨d0, d1, d2, d3, d4, d5, d6, d7, d8, d9, d10, d11, d12, d13, d14, d15, d16⟩ := G.open15
    by_cases hlt : k < n
    · obtain ⟨b, off, X, cp, eA, hbl, u0, RX⟩ := (R.keep hB).at1 hlt
      have HA := Lib.hid eA
      rw [HA.out]
      clear eA
      by_cases q : ln k = P.nM
      · have HO := Lib.hid (Oz.pre_step (p := fun i => decide (ln i = P.nM)) hok.out (decide_eq_true q))
        have g1 : ((ln k : Int) != (P.nM : Int)) = false := by simp; omega
        clear q
        go_wp2_with fail
        try rw [← HA.out]
        go_roundw
        case rel => exact ⟨k + 1, by omega, by go_num, HO, G, hB⟩
        case measure => simp [intOf]; omega
      · have HE := Lib.hid (show (Oz.shT n ln P.nM && decide (n = P.na)) = false by rw [show Oz.shT n ln P.nM = false from Oz.pre_no hlt (decide_eq_false q)]; rfl)
        have g1 : ((ln k : Int) != (P.nM : Int)) = true := by simp; omega
        clear q
        go_wp2_with fail
        go_returns
        refine ⟨?_, hB⟩
        rw [HE.out]; rfl
    · obtain rfl : k = n := by omega
      clear hlt
      by_cases q : k = P.na
      · have HE := Lib.hid (show (Oz.shT k ln P.nM && decide (k = P.na)) = true by rw [show Oz.shT k ln P.nM = true from hok.out, decide_eq_true q]; rfl)
        have g1 : ((k : Int) == (P.na : Int)) = true := by simp; omega
        have q2 : (k : Int) = (P.na : Int) := by omega
        clear q
        go_wp2_with fail
        go_returns
        refine ⟨?_, hB⟩
        rw [HE.out]; try rfl
      · have HE := Lib.hid (show (Oz.shT k ln P.nM && decide (k = P.na)) = false by rw [decide_eq_false q, Bool.and_false])
        have g1 : ((k : Int) == (P.na : Int)) = false := by simp; omega
        have q2 : ¬ (k : Int) = (P.na : Int) := by omega
        clear q
        go_wp2_with fail
        go_returns
        refine ⟨?_, hB⟩
        rw [HE.out]; try rfl
set_option maxHeartbeats 8000000 in
theorem plean1_c (A : Option Addr) (n c m : Nat) (ln : Nat → Nat) (T : Nat → Nat → Int) (w : World) (R : Tb w A n c ln T) (hln : ∀ i, i < n → ln i = m) (hbd : ∀ i j, i < n → j < m → -1000000000000 ≤ T i j ∧ T i j ≤ 1000000000000) : Calls Try.prog 63 #[.slice A n c, .int .i64 1] w fun e w' => e = .returned (.bool (Oz.grid (Oz.up1 T) n m)) ∧ Below w.heap.size w w' := by
  have r1 := R.le
  have r2 := R.mx
  go_enter Try.func63, Try.ntmps63
  go_wp2_with fail
  go_loopw [10] (fun i wr => ∃ k : Nat, k ≤ n ∧ i = .int .i64 k ∧ Hid (Oz.pre (fun i => Oz.pre (Oz.up1 T i) m) k = true) ∧ Below w.heap.size w wr) (fun i _ => n - (intOf i).toNat)
  case atStart => exact ⟨0, Nat.zero_le _, rfl, rfl, Below.refl _ _⟩
  case round =>
    obtain ⟨k, hk, rfl, hok, hB⟩ := hrel
    by_cases hlt : k < n
    · rename World => wO
      have RT := R.keep hB
      obtain ⟨b, off, X, cp, eA, hbl, u0, RX⟩ := RT.at1 hlt
      rw [hln k hlt] at u0 RX
      have HA := Lib.hid eA
      rw [HA.out] at RT ⊢
      clear eA
      have x1 := RX.le
      have x2 := RX.mx
      go_wp2_with fail
      refine (prise_c _ _ _ _ _ RX (fun j hj => hbd k j hlt hj)).mono ?_
      cases q : Oz.lvB m (T k)
      · have HE := Lib.hid (show Oz.grid (Oz.up1 T) n m = false from Oz.up1_row hlt q)
        clear q
        rintro e w2 ⟨rfl, h2⟩
        go_wp2_with fail
        go_returns
        refine ⟨?_, bt hB h2⟩
        rw [HE.out]; rfl
      have HQ := Lib.hid q
      clear q
      rintro e w2 ⟨rfl, h2⟩
      have hB2 := bt hB h2
      replace RX := RX.keep h2
      replace RT := RT.keep h2
      have u0 := ((bcell h2).1 _ _ hbl).trans u0
      clear h2 hB
      go_wp2_with fail
      go_loopw [21] (fun i wr => ∃ j : Nat, j ≤ m ∧ i = .int .i64 j ∧ Hid (∀ j', j' < j → k = 0 ∨ T k j' ≤ T (k - 1) j') ∧ Below w2.heap.size w2 wr) (fun i _ => m - (intOf i).toNat)
      case atStart => exact ⟨0, Nat.zero_le _, rfl, fun j' h => absurd h (by omega), Below.refl _ _⟩
      case round =>
        obtain ⟨j, hj, rfl, hin, hb⟩ := hrel
        by_cases hjm : j < m
        · obtain ⟨b2, off2, eX, hbl2, y0⟩ := (RX.keep hb).at1 hjm
          have HX := Lib.hid eX
          rw [HX.out]
          clear eX
          by_cases hz : k = 0
          · have HI := Lib.hid (show ∀ j', j' < j + 1 → k = 0 ∨ T k j' ≤ T (k - 1) j' from fun j' h => .inl hz)
            have g5 : decide ((0 : Int) < (k : Int)) = false := decide_eq_false (by omega)
            have g6 : decide (0 < k) = false := decide_eq_false (by omega)
            clear hz RT
            go_wp2_with fail
            go_quiet (fail)
            go_wp2
            try rw [← HX.out]
            go_roundw
            case rel => exact ⟨j + 1, by omega, by go_num, by first | exact HI | exact Lib.hid (fun j_ h_ => by simpa using HI.out j_ h_), bdnl hb _⟩
            case measure => simp [intOf]; omega
          · obtain ⟨i, rfl⟩ : ∃ i, k = i + 1 := ⟨k - 1, by omega⟩
            obtain ⟨X2, cp2, u2, RX2⟩ := (RT.keep hb).at1' (k := i) (by omega)
            rw [hln i (by omega)] at u2 RX2
            have x3 := RX2.le
            have x4 := RX2.mx
            obtain ⟨b3, off3, eX2, hbl3, y1⟩ := RX2.at1 hjm
            subst eX2
            have g5 : decide ((0 : Int) < (i : Int) + 1) = true := decide_eq_true (by omega)
            have i1 : (0 : Int) ≤ (i : Int) := by omega
            have i2 : (i : Int) + 1 < (n : Int) := by omega
            have i3 : (i : Int) < (n : Int) := by omega
            have i4 : (i : Int) + 1 - 1 = (i : Int) := by omega
            by_cases q : T (i + 1) j ≤ T i j
            · have HI := Lib.hid (show ∀ j', j' < j + 1 → i + 1 = 0 ∨ T (i + 1) j' ≤ T (i + 1 - 1) j' from fun j' h => by
                by_cases e : j' = j
                · subst e; exact .inr (by simpa using q)
                · exact hin.out j' (by omega))
              have g7 : decide (T i j < T (i + 1) j) = false := decide_eq_false (by omega)
              clear hz RT q RX2
              go_wp2_with fail
              go_quiet (fail)
              go_wp2
              try rw [← HX.out]
              go_roundw
              case rel => exact ⟨j + 1, by omega, by go_num, by first | exact HI | exact Lib.hid (fun j_ h_ => by simpa using HI.out j_ h_), bdnl hb _⟩
              case measure => simp [intOf]; omega
            · have HE := Lib.hid (show Oz.grid (Oz.up1 T) n m = false from Oz.grid_no hlt hjm (decide_eq_false (by rintro ⟨_, h | h⟩; exact absurd h (by omega); exact q (by simpa using h))))
              have g7 : decide (T i j < T (i + 1) j) = true := decide_eq_true (by omega)
              clear hz RT q RX2
              go_wp2_with fail
              go_quiet (fail)
              go_wp2
              go_returns
              refine ⟨?_, bdnl (bt hB2 hb) _⟩
              rw [HE.out]; rfl
        · obtain rfl : j = m := by omega
          have HO := Lib.hid (Oz.pre_step (p := fun i => Oz.pre (Oz.up1 T i) j) hok.out (Oz.up1_pre HQ.out hin.out))
          clear hjm
          go_wp2_with fail
          try rw [← HA.out]
          go_roundw
          case rel => exact ⟨k + 1, by omega, by go_num, HO, bt hB2 hb⟩
          case measure => simp [intOf]; omega
    · obtain rfl : k = n := by omega
      have HE := Lib.hid (show Oz.grid (Oz.up1 T) k m = true from hok.out)
      clear hlt
      go_wp2_with fail
      go_returns
      refine ⟨?_, hB⟩
      rw [HE.out]; rfl
set_option maxHeartbeats 8000000 in
theorem pleanN_c (A : Option Addr) (n c m : Nat) (ln : Nat → Nat) (T : Nat → Nat → Int) (w : World) (R : Tb w A n c ln T) (hln : ∀ i, i < n → ln i = m) (hbd : ∀ i j, i < n → j < m → -1000000000000 ≤ T i j ∧ T i j ≤ 1000000000000) : Calls Try.prog 63 #[.slice A n c, .int .i64 (-1)] w fun e w' => e = .returned (.bool (Oz.grid (Oz.upN T) n m)) ∧ Below w.heap.size w w' := by
  have r1 := R.le
  have r2 := R.mx
  go_enter Try.func63, Try.ntmps63
  go_wp2_with fail
  go_loopw [10] (fun i wr => ∃ k : Nat, k ≤ n ∧ i = .int .i64 k ∧ Hid (Oz.pre (fun i => Oz.pre (Oz.upN T i) m) k = true) ∧ Below w.heap.size w wr) (fun i _ => n - (intOf i).toNat)
  case atStart => exact ⟨0, Nat.zero_le _, rfl, rfl, Below.refl _ _⟩
  case round =>
    obtain ⟨k, hk, rfl, hok, hB⟩ := hrel
    by_cases hlt : k < n
    · rename World => wO
      have RT := R.keep hB
      obtain ⟨b, off, X, cp, eA, hbl, u0, RX⟩ := RT.at1 hlt
      rw [hln k hlt] at u0 RX
      have HA := Lib.hid eA
      rw [HA.out] at RT ⊢
      clear eA
      have x1 := RX.le
      have x2 := RX.mx
      go_wp2_with fail
      refine (pfall_c _ _ _ _ _ RX (fun j hj => hbd k j hlt hj)).mono ?_
      cases q : Oz.faB m (T k)
      · have HE := Lib.hid (show Oz.grid (Oz.upN T) n m = false from Oz.upN_row hlt q)
        clear q
        rintro e w2 ⟨rfl, h2⟩
        go_wp2_with fail
        go_returns
        refine ⟨?_, bt hB h2⟩
        rw [HE.out]; rfl
      have HQ := Lib.hid q
      clear q
      rintro e w2 ⟨rfl, h2⟩
      have hB2 := bt hB h2
      replace RX := RX.keep h2
      replace RT := RT.keep h2
      have u0 := ((bcell h2).1 _ _ hbl).trans u0
      clear h2 hB
      go_wp2_with fail
      go_loopw [21] (fun i wr => ∃ j : Nat, j ≤ m ∧ i = .int .i64 j ∧ Hid (∀ j', j' < j → k = 0 ∨ T k j' ≤ T (k - 1) j') ∧ Below w2.heap.size w2 wr) (fun i _ => m - (intOf i).toNat)
      case atStart => exact ⟨0, Nat.zero_le _, rfl, fun j' h => absurd h (by omega), Below.refl _ _⟩
      case round =>
        obtain ⟨j, hj, rfl, hin, hb⟩ := hrel
        by_cases hjm : j < m
        · obtain ⟨b2, off2, eX, hbl2, y0⟩ := (RX.keep hb).at1 hjm
          have HX := Lib.hid eX
          rw [HX.out]
          clear eX
          by_cases hz : k = 0
          · have HI := Lib.hid (show ∀ j', j' < j + 1 → k = 0 ∨ T k j' ≤ T (k - 1) j' from fun j' h => .inl hz)
            have g5 : decide ((0 : Int) < (k : Int)) = false := decide_eq_false (by omega)
            have g6 : decide (0 < k) = false := decide_eq_false (by omega)
            clear hz RT
            go_wp2_with fail
            go_quiet (fail)
            go_wp2
            try rw [← HX.out]
            go_roundw
            case rel => exact ⟨j + 1, by omega, by go_num, by first | exact HI | exact Lib.hid (fun j_ h_ => by simpa using HI.out j_ h_), bdnl hb _⟩
            case measure => simp [intOf]; omega
          · obtain ⟨i, rfl⟩ : ∃ i, k = i + 1 := ⟨k - 1, by omega⟩
            obtain ⟨X2, cp2, u2, RX2⟩ := (RT.keep hb).at1' (k := i) (by omega)
            rw [hln i (by omega)] at u2 RX2
            have x3 := RX2.le
            have x4 := RX2.mx
            obtain ⟨b3, off3, eX2, hbl3, y1⟩ := RX2.at1 hjm
            subst eX2
            have g5 : decide ((0 : Int) < (i : Int) + 1) = true := decide_eq_true (by omega)
            have i1 : (0 : Int) ≤ (i : Int) := by omega
            have i2 : (i : Int) + 1 < (n : Int) := by omega
            have i3 : (i : Int) < (n : Int) := by omega
            have i4 : (i : Int) + 1 - 1 = (i : Int) := by omega
            by_cases q : T (i + 1) j ≤ T i j
            · have HI := Lib.hid (show ∀ j', j' < j + 1 → i + 1 = 0 ∨ T (i + 1) j' ≤ T (i + 1 - 1) j' from fun j' h => by
                by_cases e : j' = j
                · subst e; exact .inr (by simpa using q)
                · exact hin.out j' (by omega))
              have g7 : decide (T i j < T (i + 1) j) = false := decide_eq_false (by omega)
              clear hz RT q RX2
              go_wp2_with fail
              go_quiet (fail)
              go_wp2
              try rw [← HX.out]
              go_roundw
              case rel => exact ⟨j + 1, by omega, by go_num, by first | exact HI | exact Lib.hid (fun j_ h_ => by simpa using HI.out j_ h_), bdnl hb _⟩
              case measure => simp [intOf]; omega
            · have HE := Lib.hid (show Oz.grid (Oz.upN T) n m = false from Oz.grid_no hlt hjm (decide_eq_false (by rintro ⟨_, h | h⟩; exact absurd h (by omega); exact q (by simpa using h))))
              have g7 : decide (T i j < T (i + 1) j) = true := decide_eq_true (by omega)
              clear hz RT q RX2
              go_wp2_with fail
              go_quiet (fail)
              go_wp2
              go_returns
              refine ⟨?_, bdnl (bt hB2 hb) _⟩
              rw [HE.out]; rfl
        · obtain rfl : j = m := by omega
          have HO := Lib.hid (Oz.pre_step (p := fun i => Oz.pre (Oz.upN T i) j) hok.out (Oz.upN_pre HQ.out hin.out))
          clear hjm
          go_wp2_with fail
          try rw [← HA.out]
          go_roundw
          case rel => exact ⟨k + 1, by omega, by go_num, HO, bt hB2 hb⟩
          case measure => simp [intOf]; omega
    · obtain rfl : k = n := by omega
      have HE := Lib.hid (show Oz.grid (Oz.upN T) k m = true from hok.out)
      clear hlt
      go_wp2_with fail
      go_returns
      refine ⟨?_, hB⟩
      rw [HE.out]; rfl
end Go.Proofs.Ytoeklllahpegfaa
/-
  Contracts: the reference's shape and flows.
-/
namespace Go.Proofs.Ytoeklllahpegfaa
set_option linter.unusedVariables false
set_option linter.unusedSimpArgs false
open Go.RowKit
attribute [local irreducible] World.setCell World.cell?

set_option maxHeartbeats 4000000 in
theorem r31shaped_c (A : Option Addr) (n c na m : Nat) (ln : Nat → Nat) (T : Nat → Nat → Int) (w : World) (R : Tb w A n c ln T) : Calls Try.prog 67 #[.slice A n c, .int .i64 na, .int .i64 m] w fun e w' => e = .returned (.bool (Oz.shT n ln m && decide (n = na))) ∧ w = w' := by
  have r1 := R.le
  have r2 := R.mx
  by_cases hn : n = na
  rotate_left
  · have HE := Lib.hid (show (Oz.shT n ln m && decide (n = na)) = false by rw [decide_eq_false hn, Bool.and_false])
    have g1 : ((n : Int) != (na : Int)) = true := by simp; omega
    clear hn
    go_enter Try.func67, Try.ntmps67
    go_wp2_with fail
    go_returns
    refine ⟨?_, rfl⟩
    rw [HE.out]; rfl
  subst hn
  go_enter Try.func67, Try.ntmps67
  go_wp2_with fail
  go_loopw [15] (fun i wr => ∃ k : Nat, k ≤ n ∧ i = .int .i64 k ∧ Hid (Oz.pre (fun i => decide (ln i = m)) k = true) ∧ w = wr) (fun i _ => n - (intOf i).toNat)
  case atStart => exact ⟨0, Nat.zero_le _, rfl, rfl, rfl⟩
  case round =>
    obtain ⟨k, hk, rfl, hok, rfl⟩ := hrel
    by_cases hlt : k < n
    · obtain ⟨b, off, X, cp, eA, hbl, u0, RX⟩ := R.at1 hlt
      have HA := Lib.hid eA
      rw [HA.out]
      clear eA
      by_cases q : ln k = m
      · have HO := Lib.hid (Oz.pre_step (p := fun i => decide (ln i = m)) hok.out (decide_eq_true q))
        have g1 : ((ln k : Int) != (m : Int)) = false := by simp; omega
        clear q
        go_wp2_with fail
        try rw [← HA.out]
        go_roundw
        case rel => exact ⟨k + 1, by omega, by go_num, HO, by first | trivial | rfl⟩
        case measure => simp [intOf]; omega
      · have HE := Lib.hid (show Oz.shT n ln m = false from Oz.pre_no hlt (decide_eq_false q))
        have g1 : ((ln k : Int) != (m : Int)) = true := by simp; omega
        clear q
        go_wp2_with fail
        go_returns
        refine ⟨?_, rfl⟩
        rw [HE.out]; rfl
    · obtain rfl : k = n := by omega
      clear hlt
      have HE := Lib.hid (show Oz.shT k ln m = true from hok.out)
      go_wp2_with fail
      go_returns
      refine ⟨?_, rfl⟩
      rw [HE.out]; try rfl
set_option maxHeartbeats 8000000 in
theorem r31flows_c (A : Option Addr) (n c m : Nat) (ln : Nat → Nat) (T : Nat → Nat → Int) (w : World) (R : Tb w A n c ln T) (hln : ∀ i, i < n → ln i = m) : Calls Try.prog 72 #[.slice A n c] w fun e w' => e = .returned (.bool (Oz.grid (Oz.up1 T) n m)) ∧ Below w.heap.size w w' := by
  have r1 := R.le
  have r2 := R.mx
  go_enter Try.func72, Try.ntmps72
  go_wp2_with fail
  go_loopw [7] (fun i wr => ∃ k : Nat, k ≤ n ∧ i = .int .i64 k ∧ Hid (Oz.pre (fun i => Oz.pre (Oz.up1 T i) m) k = true) ∧ Below w.heap.size w wr) (fun i _ => n - (intOf i).toNat)
  case atStart => exact ⟨0, Nat.zero_le _, rfl, rfl, Below.refl _ _⟩
  case round =>
    obtain ⟨k, hk, rfl, hok, hB⟩ := hrel
    by_cases hlt : k < n
    · rename World => wO
      have RT := R.keep hB
      obtain ⟨b, off, X, cp, eA, hbl, u0, RX⟩ := RT.at1 hlt
      rw [hln k hlt] at u0 RX
      have HA := Lib.hid eA
      rw [HA.out] at RT ⊢
      clear eA
      have x1 := RX.le
      have x2 := RX.mx
      go_wp2_with fail
      go_loopw [15] (fun i wr => ∃ j : Nat, j ≤ m ∧ i = .int .i64 j ∧ Hid (Oz.pre (Oz.up1 T k) j = true) ∧ Below wO.heap.size wO wr) (fun i _ => m - (intOf i).toNat)
      case atStart => exact ⟨0, Nat.zero_le _, rfl, rfl, Below.refl _ _⟩
      case round =>
        obtain ⟨j, hj, rfl, hin, hb⟩ := hrel
        by_cases hjm : j < m
        · replace RX := RX.keep hb
          obtain ⟨b2, off2, eX, hbl2, y0⟩ := RX.at1 hjm
          have HX := Lib.hid eX
          rw [HX.out] at RX
          have u0 : (_ : World).cell? ⟨b, off + k, none⟩ = some (.slice X m cp) := ((bcell hb).1 _ _ hbl).trans u0
          rw [HX.out] at u0
          clear eX
          by_cases hz : k = 0
          · have g5 : decide ((0 : Int) < (k : Int)) = false := decide_eq_false (by omega)
            have g6 : decide (0 < k) = false := decide_eq_false (by omega)
            by_cases hy : j = 0
            · have g8 : decide ((0 : Int) < (j : Int)) = false := decide_eq_false (by omega)
              have g9 : decide (0 < j) = false := decide_eq_false (by omega)
              have qa : True := trivial
              have qb : True := trivial
              have HI := Lib.hid (Oz.pre_step hin.out (show Oz.up1 T (k) (j) = true from decide_eq_true ⟨by first | exact .inl (by omega) | exact .inr (by simpa using qb), by first | exact .inl (by omega) | exact .inr (by simpa using qa)⟩))
              clear qa qb hz hy RT RX
              go_wp2_with fail
              go_quiet (fail)
              go_wp2
              try rw [← HX.out]
              go_roundw
              case rel => exact ⟨j + 1, by omega, by go_num, HI, bdnl hb _⟩
              case measure => simp [intOf]; omega
            · obtain ⟨l, rfl⟩ : ∃ l, j = l + 1 := ⟨j - 1, by omega⟩
              obtain ⟨_, y2⟩ := RX.s1o (k := l) (by omega)
              have g8 : decide ((0 : Int) < (l : Int) + 1) = true := decide_eq_true (by omega)
              have l1 : (0 : Int) ≤ (l : Int) := by omega
              have l2 : (l : Int) + 1 < (m : Int) := by omega
              have l3 : (l : Int) < (m : Int) := by omega
              have l4 : (l : Int) + 1 - 1 = (l : Int) := by omega
              have qa : True := trivial
              by_cases qb : T (k) l ≤ T (k) (l + 1)
              rotate_left
              · have gb : decide (T (k) (l + 1) < T (k) l) = true := decide_eq_true (by omega)
                have HE := Lib.hid (show Oz.grid (Oz.up1 T) n m = false from Oz.grid_no (i := k) (j := l + 1) hlt hjm (decide_eq_false (by rintro ⟨h1 | h1, h2 | h2⟩ <;> simp at h1 h2 <;> omega)))
                clear qa qb hz hy RT RX hin
                go_wp2_with fail
                go_quiet (fail)
                go_wp2
                go_returns
                refine ⟨?_, bdnl (bt hB hb) _⟩
                rw [HE.out]; rfl
              have gb : decide (T (k) (l + 1) < T (k) l) = false := decide_eq_false (by omega)
              have HI := Lib.hid (Oz.pre_step hin.out (show Oz.up1 T (k) (l + 1) = true from decide_eq_true ⟨by first | exact .inl (by omega) | exact .inr (by simpa using qb), by first | exact .inl (by omega) | exact .inr (by simpa using qa)⟩))
              clear qa qb hz hy RT RX
              go_wp2_with fail
              go_quiet (fail)
              go_wp2
              try rw [← HX.out]
              go_roundw
              case rel => exact ⟨l + 1 + 1, by omega, by go_num, HI, bdnl hb _⟩
              case measure => simp [intOf]; omega
          · obtain ⟨i, rfl⟩ : ∃ i, k = i + 1 := ⟨k - 1, by omega⟩
            obtain ⟨X2, cp2, u2, RX2⟩ := (RT.keep hb).at1' (k := i) (by omega)
            rw [hln i (by omega)] at u2 RX2
            have x3 := RX2.le
            have x4 := RX2.mx
            obtain ⟨b3, off3, eX2, hbl3, y1⟩ := RX2.at1 hjm
            subst eX2
            have g5 : decide ((0 : Int) < (i : Int) + 1) = true := decide_eq_true (by omega)
            have i1 : (0 : Int) ≤ (i : Int) := by omega
            have i2 : (i : Int) + 1 < (n : Int) := by omega
            have i3 : (i : Int) < (n : Int) := by omega
            have i4 : (i : Int) + 1 - 1 = (i : Int) := by omega
            by_cases hy : j = 0
            · have g8 : decide ((0 : Int) < (j : Int)) = false := decide_eq_false (by omega)
              have g9 : decide (0 < j) = false := decide_eq_false (by omega)
              by_cases qa : T (i + 1) (j) ≤ T i (j)
              rotate_left
              · have ga : decide (T i (j) < T (i + 1) (j)) = true := decide_eq_true (by omega)
                have HE := Lib.hid (show Oz.grid (Oz.up1 T) n m = false from Oz.grid_no (i := i + 1) (j := j) hlt hjm (decide_eq_false (by rintro ⟨h1 | h1, h2 | h2⟩ <;> simp at h1 h2 <;> omega)))
                clear qa hz hy RT RX hin
                go_wp2_with fail
                go_quiet (fail)
                go_wp2
                go_returns
                refine ⟨?_, bdnl (bt hB hb) _⟩
                rw [HE.out]; rfl
              have ga : decide (T i (j) < T (i + 1) (j)) = false := decide_eq_false (by omega)
              have qb : True := trivial
              have HI := Lib.hid (Oz.pre_step hin.out (show Oz.up1 T (i + 1) (j) = true from decide_eq_true ⟨by first | exact .inl (by omega) | exact .inr (by simpa using qb), by first | exact .inl (by omega) | exact .inr (by simpa using qa)⟩))
              clear qa qb hz hy RT RX
              go_wp2_with fail
              go_quiet (fail)
              go_wp2
              try rw [← HX.out]
              go_roundw
              case rel => exact ⟨j + 1, by omega, by go_num, HI, bdnl hb _⟩
              case measure => simp [intOf]; omega
            · obtain ⟨l, rfl⟩ : ∃ l, j = l + 1 := ⟨j - 1, by omega⟩
              obtain ⟨_, y2⟩ := RX.s1o (k := l) (by omega)
              have g8 : decide ((0 : Int) < (l : Int) + 1) = true := decide_eq_true (by omega)
              have l1 : (0 : Int) ≤ (l : Int) := by omega
              have l2 : (l : Int) + 1 < (m : Int) := by omega
              have l3 : (l : Int) < (m : Int) := by omega
              have l4 : (l : Int) + 1 - 1 = (l : Int) := by omega
              by_cases qa : T (i + 1) (l + 1) ≤ T i (l + 1)
              rotate_left
              · have ga : decide (T i (l + 1) < T (i + 1) (l + 1)) = true := decide_eq_true (by omega)
                have HE := Lib.hid (show Oz.grid (Oz.up1 T) n m = false from Oz.grid_no (i := i + 1) (j := l + 1) hlt hjm (decide_eq_false (by rintro ⟨h1 | h1, h2 | h2⟩ <;> simp at h1 h2 <;> omega)))
                clear qa hz hy RT RX hin
                go_wp2_with fail
                go_quiet (fail)
                go_wp2
                go_returns
                refine ⟨?_, bdnl (bt hB hb) _⟩
                rw [HE.out]; rfl
              have ga : decide (T i (l + 1) < T (i + 1) (l + 1)) = false := decide_eq_false (by omega)
              by_cases qb : T (i + 1) l ≤ T (i + 1) (l + 1)
              rotate_left
              · have gb : decide (T (i + 1) (l + 1) < T (i + 1) l) = true := decide_eq_true (by omega)
                have HE := Lib.hid (show Oz.grid (Oz.up1 T) n m = false from Oz.grid_no (i := i + 1) (j := l + 1) hlt hjm (decide_eq_false (by rintro ⟨h1 | h1, h2 | h2⟩ <;> simp at h1 h2 <;> omega)))
                clear qa qb hz hy RT RX hin
                go_wp2_with fail
                go_quiet (fail)
                go_wp2
                go_returns
                refine ⟨?_, bdnl (bt hB hb) _⟩
                rw [HE.out]; rfl
              have gb : decide (T (i + 1) (l + 1) < T (i + 1) l) = false := decide_eq_false (by omega)
              have HI := Lib.hid (Oz.pre_step hin.out (show Oz.up1 T (i + 1) (l + 1) = true from decide_eq_true ⟨by first | exact .inl (by omega) | exact .inr (by simpa using qb), by first | exact .inl (by omega) | exact .inr (by simpa using qa)⟩))
              clear qa qb hz hy RT RX
              go_wp2_with fail
              go_quiet (fail)
              go_wp2
              try rw [← HX.out]
              go_roundw
              case rel => exact ⟨l + 1 + 1, by omega, by go_num, HI, bdnl hb _⟩
              case measure => simp [intOf]; omega
        · obtain rfl : j = m := by omega
          have HO := Lib.hid (Oz.pre_step (p := fun i => Oz.pre (Oz.up1 T i) j) hok.out hin.out)
          clear hjm
          go_wp2_with fail
          try rw [← HA.out]
          go_roundw
          case rel => exact ⟨k + 1, by omega, by go_num, HO, bt hB hb⟩
          case measure => simp [intOf]; omega
    · obtain rfl : k = n := by omega
      have HE := Lib.hid (show Oz.grid (Oz.up1 T) k m = true from hok.out)
      clear hlt
      go_wp2_with fail
      go_returns
      refine ⟨?_, hB⟩
      rw [HE.out]; rfl
end Go.Proofs.Ytoeklllahpegfaa
/-
  Contracts: gentle.
-/
namespace Go.Proofs.Ytoeklllahpegfaa
set_option linter.unusedVariables false
set_option linter.unusedSimpArgs false
open Go.RowKit
attribute [local irreducible] World.setCell World.cell?

set_option maxHeartbeats 8000000 in
theorem pgentle_c (P : PD) (Q : PA) (w : World) (H : PIn w P Q) (h2 : 2 ≤ P.na) (hn : P.nC = P.na) (hln : ∀ i, i < P.na → P.lC i = P.nM) (hbd : ∀ i j, i < P.na → j < P.nM → -1000000000000 ≤ P.tC i j ∧ P.tC i j ≤ 1000000000000) (hal : ∀ i, i < P.na → -1000000000000 ≤ P.al i ∧ P.al i ≤ 1000000000000) : Calls Try.prog 64 #[.agg #[.string P.nm, .int .i64 P.em, .int .i64 P.fu, .slice Q.al P.na Q.alc, .slice Q.ma P.nM Q.mac, .slice Q.tC P.nC Q.tCc, .slice Q.tF P.nF Q.tFc, .slice Q.tR P.nR Q.tRc, .slice Q.dD P.nD Q.dDc, .slice Q.dI P.nI Q.dIc, .slice Q.dX P.nX Q.dXc, .slice Q.dN P.nN Q.dNc, .int .i64 P.rf, .int .i64 P.xt, .int .i64 P.ce]] w fun e w' => e = .returned (.bool (Oz.grid (Oz.ge P.al P.tC) P.na P.nM)) ∧ Below w.heap.size w w' := by
  have HN := Lib.hid hn
  clear hn
  go_enter Try.func64, Try.ntmps64
  go_wp2_with fail
  have G := Blk.new w 25 #[.string P.nm, .int .i64 P.em, .int .i64 P.fu, .slice Q.al P.na Q.alc, .slice Q.ma P.nM Q.mac, .slice Q.tC P.nC Q.tCc, .slice Q.tF P.nF Q.tFc, .slice Q.tR P.nR Q.tRc, .slice Q.dD P.nD Q.dDc, .slice Q.dI P.nI Q.dIc, .slice Q.dX P.nX Q.dXc, .slice Q.dN P.nN Q.dNc, .int .i64 P.rf, .int .i64 P.xt, .int .i64 P.ce]
  have hB := ba w (.cells #[.string P.nm, .int .i64 P.em, .int .i64 P.fu, .slice Q.al P.na Q.alc, .slice Q.ma P.nM Q.mac, .slice Q.tC P.nC Q.tCc, .slice Q.tF P.nF Q.tFc, .slice Q.tR P.nR Q.tRc, .slice Q.dD P.nD Q.dDc, .slice Q.dI P.nI Q.dIc, .slice Q.dX P.nX Q.dXc, .slice Q.dN P.nN Q.dNc, .int .i64 P.rf, .int .i64 P.xt, .int .i64 P.ce] 25)
  go_loopw [3] (fun i wr => ∃ k : Nat, 1 ≤ k ∧ k ≤ P.na ∧ i = .int .i64 k ∧ Hid (Oz.pre (fun i => Oz.pre (Oz.ge P.al P.tC i) P.nM) k = true) ∧ Blk wr w.heap.size 25 #[.string P.nm, .int .i64 P.em, .int .i64 P.fu, .slice Q.al P.na Q.alc, .slice Q.ma P.nM Q.mac, .slice Q.tC P.nC Q.tCc, .slice Q.tF P.nF Q.tFc, .slice Q.tR P.nR Q.tRc, .slice Q.dD P.nD Q.dDc, .slice Q.dI P.nI Q.dIc, .slice Q.dX P.nX Q.dXc, .slice Q.dN P.nN Q.dNc, .int .i64 P.rf, .int .i64 P.xt, .int .i64 P.ce] ∧ Below w.heap.size w wr) (fun i _ => P.na - (intOf i).toNat)
  case atStart => exact ⟨1, Nat.le_refl _, by omega, rfl, ((Oz.pre_iff _ _).2 fun i hi => (Oz.pre_iff _ _).2 fun j hj => decide_eq_true (.inl (by omega)) : Oz.pre (fun i => Oz.pre (Oz.ge P.al P.tC i) P.nM) 1 = true), G, hB⟩
  case round =>
    clear G hB
    obtain ⟨k, hk1, hk, rfl, hok, G, hB⟩ := hrel
    by_cases hlt : k < P.na
    · rename World => wO
      obtain ⟨i, rfl⟩ : ∃ i, k = i + 1 := ⟨k - 1, by omega⟩
      have H1 := H.keep hB
      obtain ⟨d0, d1, d2, d3, d4, d5, d6, d7, d8, d9, d10, d11, d12, d13, d14, d15, d16⟩ := G.open15
      obtain ⟨b, off, X, cp, eA, hbl, ra0, RX⟩ := H1.tC.at1 (k := i + 1) (by have := HN.out; omega)
      have RT := H1.tC
      rw [eA] at RT d5
      obtain ⟨X2, cp2, ra2, RX2⟩ := RT.at1' (k := i) (by have := HN.out; omega)
      rw [hln (i + 1) hlt] at ra0 RX
      rw [hln i (by omega)] at ra2 RX2
      obtain ⟨b4, off4, eL, hbl4, y4⟩ := H1.al.at1 hlt
      have RL := H1.al
      rw [eL] at RL d3
      obtain ⟨_, y5⟩ := RL.s1o (k := i) (by omega)
      have x1 := RX.le
      have x2 := RX.mx
      have x3 := RX2.le
      have x4 := RX2.mx
      have x5 := H1.al.le
      have x6 := H1.al.mx
      have x7 := H1.tC.le
      have x8 := H1.tC.mx
      rw [HN.out] at x7 d5
      obtain ⟨w1, w2⟩ := hal (i + 1) hlt
      obtain ⟨w3, w4⟩ := hal i (by omega)
      have g5 : decide ((0 : Int) < (i : Int) + 1) = true := decide_eq_true (by omega)
      have i1 : (0 : Int) ≤ (i : Int) := by omega
      have i2 : (i : Int) + 1 < (P.na : Int) := by omega
      have i3 : (i : Int) < (P.na : Int) := by omega
      have i4 : (i : Int) + 1 - 1 = (i : Int) := by omega
      go_wp2_with fail
      go_loopw [18] (fun i_ wr => ∃ j : Nat, j ≤ P.nM ∧ i_ = .int .i64 j ∧ Hid (Oz.pre (Oz.ge P.al P.tC (i + 1)) j = true) ∧ Below wO.heap.size wO wr) (fun i_ _ => P.nM - (intOf i_).toNat)
      case atStart => exact ⟨0, Nat.zero_le _, rfl, rfl, Below.refl _ _⟩
      case round =>
        obtain ⟨j, hj, rfl, hin, hb⟩ := hrel
        by_cases hjm : j < P.nM
        · obtain ⟨b2, off2, eX, hbl2, y0⟩ := (RX.keep hb).at1 hjm
          obtain ⟨b3, off3, eX2, hbl3, y1⟩ := (RX2.keep hb).at1 hjm
          clear d0 d1 d2 d4 d6 d7 d8 d9 d10 d11 d12 d13 d14
          replace G := G.keep hb
          replace d3 := ((bcell hb).1 _ _ d16).trans d3
          replace d5 := ((bcell hb).1 _ _ d16).trans d5
          replace ra0 := ((bcell hb).1 _ _ hbl).trans ra0
          replace ra2 := ((bcell hb).1 _ _ hbl).trans ra2
          replace y4 := ((bcell hb).1 _ _ hbl4).trans y4
          replace y5 := ((bcell hb).1 _ _ hbl4).trans y5
          rw [eX] at ra0
          rw [eX2] at ra2
          clear RX RX2 RT RL eX eX2 eA eL H1
          obtain ⟨w5, w6⟩ := hbd (i + 1) j hlt hjm
          obtain ⟨w7, w8⟩ := hbd i j (by omega) hjm
          by_cases q : P.tC i j - P.tC (i + 1) j ≤ P.al (i + 1) - P.al i
          · have HI := Lib.hid (Oz.pre_step hin.out (show Oz.ge P.al P.tC (i + 1) j = true from decide_eq_true (.inr (by simpa using q))))
            have g7 : decide (P.al (i + 1) - P.al i < P.tC i j - P.tC (i + 1) j) = false := decide_eq_false (by omega)
            clear q
            go_wp2_with fail
            go_quiet (fail)
            go_wp2
            go_roundw
            case rel => exact ⟨j + 1, by omega, by go_num, HI, bdnl hb _⟩
            case measure => simp [intOf]; omega
          · have HE := Lib.hid (show Oz.grid (Oz.ge P.al P.tC) P.na P.nM = false from Oz.grid_no hlt hjm (decide_eq_false (by rintro (h | h); exact absurd h (by omega); exact q (by simpa using h))))
            have g7 : decide (P.al (i + 1) - P.al i < P.tC i j - P.tC (i + 1) j) = true := decide_eq_true (by omega)
            clear q
            go_wp2_with fail
            go_quiet (fail)
            go_wp2
            go_returns
            refine ⟨?_, bdnl (bt hB hb) _⟩
            rw [HE.out]; rfl
        · have ej : j = P.nM := by omega
          have HO := Lib.hid (Oz.pre_step (p := fun i => Oz.pre (Oz.ge P.al P.tC i) P.nM) hok.out (by rw [← ej]; exact hin.out))
          have hjm2 : ¬ (j : Int) < (P.nM : Int) := by omega
          clear hjm ej
          go_wp2_with fail
          go_roundw
          case rel => exact ⟨i + 1 + 1, by omega, by omega, by go_num, HO, G.keep hb, bt hB hb⟩
          case measure => simp [intOf]; omega
    · have ek : k = P.na := by omega
      have HE := Lib.hid (show Oz.grid (Oz.ge P.al P.tC) P.na P.nM = true by rw [← ek]; exact hok.out)
      have hk2 : ¬ (k : Int) < (P.na : Int) := by omega
      obtain ⟨d0, d1, d2, d3, d4, d5, d6, d7, d8, d9, d10, d11, d12, d13, d14, d15, d16⟩ := G.open15
      clear hlt ek
      go_wp2_with fail
      go_returns
      refine ⟨?_, hB⟩
      rw [HE.out]; rfl
end Go.Proofs.Ytoeklllahpegfaa
/-
  Contracts: the reference's climbs.
-/
namespace Go.Proofs.Ytoeklllahpegfaa
set_option linter.unusedVariables false
set_option linter.unusedSimpArgs false
open Go.RowKit
attribute [local irreducible] World.setCell World.cell?

set_option maxHeartbeats 8000000 in
theorem r31climbs_c (P : PD) (Q : PA) (w : World) (H : PIn w P Q) (hm2 : 2 ≤ P.nM) (h2 : 2 ≤ P.na) (hn : P.nC = P.na) (hln : ∀ i, i < P.na → P.lC i = P.nM) (hbd : ∀ i j, i < P.na → j < P.nM → -1000000000000 ≤ P.tC i j ∧ P.tC i j ≤ 1000000000000) (hal : ∀ i, i < P.na → -1000000000000 ≤ P.al i ∧ P.al i ≤ 1000000000000) : Calls Try.prog 71 #[.agg #[.string P.nm, .int .i64 P.em, .int .i64 P.fu, .slice Q.al P.na Q.alc, .slice Q.ma P.nM Q.mac, .slice Q.tC P.nC Q.tCc, .slice Q.tF P.nF Q.tFc, .slice Q.tR P.nR Q.tRc, .slice Q.dD P.nD Q.dDc, .slice Q.dI P.nI Q.dIc, .slice Q.dX P.nX Q.dXc, .slice Q.dN P.nN Q.dNc, .int .i64 P.rf, .int .i64 P.xt, .int .i64 P.ce]] w fun e w' => e = .returned (.bool (Oz.grid (Oz.cb P.al P.tC) P.na P.nM)) ∧ Below w.heap.size w w' := by
  have HN := Lib.hid hn
  clear hn
  obtain ⟨b, off, _, _, eA, hbl, _, _⟩ := H.tC.at1 (k := 0) (by have := HN.out; omega)
  obtain ⟨b4, off4, eL, hbl4, _⟩ := H.al.at1 (k := 0) (by omega)
  have RT := H.tC
  have RL := H.al
  rw [eA] at RT ⊢
  rw [eL] at RL ⊢
  have x5 := RL.le
  have x6 := RL.mx
  have x7 := RT.le
  have x8 := RT.mx
  have NE : P.nC = P.na := HN.out
  rw [NE] at x7 RT ⊢
  clear eA eL NE H
  go_enter Try.func71, Try.ntmps71
  go_wp2_with fail
  have G := Blk.new w 25 #[.string P.nm, .int .i64 P.em, .int .i64 P.fu, .slice (some ⟨b4, off4, none⟩) P.na Q.alc, .slice Q.ma P.nM Q.mac, .slice (some ⟨b, off, none⟩) P.na Q.tCc, .slice Q.tF P.nF Q.tFc, .slice Q.tR P.nR Q.tRc, .slice Q.dD P.nD Q.dDc, .slice Q.dI P.nI Q.dIc, .slice Q.dX P.nX Q.dXc, .slice Q.dN P.nN Q.dNc, .int .i64 P.rf, .int .i64 P.xt, .int .i64 P.ce]
  have hB := ba w (.cells #[.string P.nm, .int .i64 P.em, .int .i64 P.fu, .slice (some ⟨b4, off4, none⟩) P.na Q.alc, .slice Q.ma P.nM Q.mac, .slice (some ⟨b, off, none⟩) P.na Q.tCc, .slice Q.tF P.nF Q.tFc, .slice Q.tR P.nR Q.tRc, .slice Q.dD P.nD Q.dDc, .slice Q.dI P.nI Q.dIc, .slice Q.dX P.nX Q.dXc, .slice Q.dN P.nN Q.dNc, .int .i64 P.rf, .int .i64 P.xt, .int .i64 P.ce] 25)
  go_loopw [10] (fun i wr => ∃ k : Nat, k ≤ P.na ∧ i = .int .i64 k ∧ Hid (Oz.pre (fun i => Oz.pre (Oz.cb P.al P.tC i) P.nM) k = true) ∧ Blk wr w.heap.size 25 #[.string P.nm, .int .i64 P.em, .int .i64 P.fu, .slice (some ⟨b4, off4, none⟩) P.na Q.alc, .slice Q.ma P.nM Q.mac, .slice (some ⟨b, off, none⟩) P.na Q.tCc, .slice Q.tF P.nF Q.tFc, .slice Q.tR P.nR Q.tRc, .slice Q.dD P.nD Q.dDc, .slice Q.dI P.nI Q.dIc, .slice Q.dX P.nX Q.dXc, .slice Q.dN P.nN Q.dNc, .int .i64 P.rf, .int .i64 P.xt, .int .i64 P.ce] ∧ Below w.heap.size w wr) (fun i _ => P.na - (intOf i).toNat)
  case atStart => exact ⟨0, Nat.zero_le _, rfl, rfl, G, hB⟩
  case round =>
    clear G hB
    obtain ⟨k, hk, rfl, hok, G, hB⟩ := hrel
    obtain ⟨d0, d1, d2, d3, d4, d5, d6, d7, d8, d9, d10, d11, d12, d13, d14, d15, d16⟩ := G.open15
    by_cases hlt : k < P.na
    · rename World => wO
      have RTk := RT.keep hB
      have hblT : b < wO.heap.size := by have := hB.size; omega
      obtain ⟨X, cp, ra0, RX⟩ := RTk.at1' hlt
      rw [hln k hlt] at ra0 RX
      obtain ⟨b2, off2, eX, hbl2, _⟩ := RX.at1 (k := 0) (by omega)
      subst eX
      have x1 := RX.le
      have x2 := RX.mx
      by_cases hz : k = 0
      · have g5 : decide ((0 : Int) < (k : Int)) = false := decide_eq_false (by omega)
        have g6 : decide (0 < k) = false := decide_eq_false (by omega)
        have hz_ := Lib.hid hz
        clear hz
        go_wp2_with fail
        go_loopw [17] (fun i_ wr => ∃ j : Nat, j ≤ P.nM ∧ i_ = .int .i64 j ∧ Hid (Oz.pre (Oz.cb P.al P.tC (k)) j = true) ∧ Below wO.heap.size wO wr) (fun i_ _ => P.nM - (intOf i_).toNat)
        case atStart => exact ⟨0, Nat.zero_le _, rfl, rfl, Below.refl _ _⟩
        case round =>
          obtain ⟨j, hj, rfl, hin, hb⟩ := hrel
          by_cases hjm : j < P.nM
          · obtain ⟨_, y0⟩ := (RX.keep hb).s1o hjm
            clear d0 d1 d2 d3 d4 d5 d6 d7 d8 d9 d10 d11 d12 d13 d14
            by_cases hy : j = 0
            · have g8 : ¬ (0 : Int) < (j : Int) := by omega
              have g9 : ¬ 0 < j := by omega
              have qb : True := trivial
              have qa : True := trivial
              have qc : True := trivial
              have HI := Lib.hid (Oz.pre_step hin.out (show Oz.cb P.al P.tC (k) (j) = true from Oz.cb_iff.2 ⟨by first | exact .inl (by have := hz_.out; omega) | exact .inr (by simpa using qb), by first | exact .inl (by have := hz_.out; omega) | exact .inr (by simpa using qa), by first | exact .inl (by have := hz_.out; omega) | exact .inr (by simpa using qc)⟩))
              clear qb hy RX qa qc
              go_wp2_with fail
              go_quiet (fail)
              go_wp2
              go_roundw
              case rel => exact ⟨j + 1, by omega, by go_num, HI, bdnl hb _⟩
              case measure => simp [intOf]; omega
            · obtain ⟨l, rfl⟩ : ∃ l, j = l + 1 := ⟨j - 1, by omega⟩
              obtain ⟨_, y2⟩ := (RX.keep hb).s1o (k := l) (by omega)
              have g8 : decide ((0 : Int) < (l : Int) + 1) = true := decide_eq_true (by omega)
              have l1 : (0 : Int) ≤ (l : Int) := by omega
              have l2 : (l : Int) + 1 < (P.nM : Int) := by omega
              have l3 : (l : Int) < (P.nM : Int) := by omega
              have l4 : (l : Int) + 1 - 1 = (l : Int) := by omega
              by_cases qb : P.tC (k) (l + 1) ≤ P.tC (k) l
              rotate_left
              · have gb : P.tC (k) l < P.tC (k) (l + 1) := by omega
                have HE := Lib.hid (show Oz.grid (Oz.cb P.al P.tC) P.na P.nM = false from Oz.grid_no (i := k) (j := l + 1) hlt hjm (Oz.cb_no (by rintro ⟨h1, h2, h3⟩; have := hz_.out; simp at h1 h2 h3; omega)))
                clear qb hy RX hin
                go_wp2_with fail
                go_returns
                refine ⟨?_, bt hB hb⟩
                rw [HE.out]; rfl
              have gb : ¬ P.tC (k) l < P.tC (k) (l + 1) := by omega
              have qa : True := trivial
              have qc : True := trivial
              have HI := Lib.hid (Oz.pre_step hin.out (show Oz.cb P.al P.tC (k) (l + 1) = true from Oz.cb_iff.2 ⟨by first | exact .inl (by have := hz_.out; omega) | exact .inr (by simpa using qb), by first | exact .inl (by have := hz_.out; omega) | exact .inr (by simpa using qa), by first | exact .inl (by have := hz_.out; omega) | exact .inr (by simpa using qc)⟩))
              clear qb hy RX qa qc
              go_wp2_with fail
              go_quiet (fail)
              go_wp2
              go_roundw
              case rel => exact ⟨l + 1 + 1, by omega, by go_num, HI, bdnl hb _⟩
              case measure => simp [intOf]; omega
          · have ej : j = P.nM := by omega
            have HO := Lib.hid (Oz.pre_step (p := fun i => Oz.pre (Oz.cb P.al P.tC i) P.nM) hok.out (by rw [← ej]; exact hin.out))
            have hjm2 : ¬ (j : Int) < (P.nM : Int) := by omega
            clear hjm ej
            go_wp2_with fail
            go_roundw
            case rel => exact ⟨k + 1, by omega, by go_num, HO, G.keep hb, bt hB hb⟩
            case measure => simp [intOf]; omega
      · obtain ⟨i, rfl⟩ : ∃ i, k = i + 1 := ⟨k - 1, by omega⟩
        rw [show ((i + 1 : Nat) : Int) = (i : Int) + 1 from rfl]
        obtain ⟨X2, cp2, ra2, RX2⟩ := RTk.at1' (k := i) (by have := HN.out; omega)
        rw [hln i (by omega)] at ra2 RX2
        obtain ⟨b3, off3, eX2, hbl3, _⟩ := RX2.at1 (k := 0) (by omega)
        subst eX2
        obtain ⟨hblL, y4⟩ := (RL.keep hB).s1o hlt
        obtain ⟨_, y5⟩ := (RL.keep hB).s1o (k := i) (by omega)
        have x3 := RX2.le
        have x4 := RX2.mx
        obtain ⟨w1, w2⟩ := hal (i + 1) hlt
        obtain ⟨w3, w4⟩ := hal i (by omega)
        clear hz
        have g5 : decide ((0 : Int) < (i : Int) + 1) = true := decide_eq_true (by omega)
        have i1 : (0 : Int) ≤ (i : Int) := by omega
        have i2 : (i : Int) + 1 < (P.na : Int) := by omega
        have i3 : (i : Int) < (P.na : Int) := by omega
        have i4 : (i : Int) + 1 - 1 = (i : Int) := by omega
        go_wp2_with fail
        go_loopw [17] (fun i_ wr => ∃ j : Nat, j ≤ P.nM ∧ i_ = .int .i64 j ∧ Hid (Oz.pre (Oz.cb P.al P.tC (i + 1)) j = true) ∧ Below wO.heap.size wO wr) (fun i_ _ => P.nM - (intOf i_).toNat)
        case atStart => exact ⟨0, Nat.zero_le _, rfl, rfl, Below.refl _ _⟩
        case round =>
          obtain ⟨j, hj, rfl, hin, hb⟩ := hrel
          by_cases hjm : j < P.nM
          · obtain ⟨_, y0⟩ := (RX.keep hb).s1o hjm
            obtain ⟨_, y1⟩ := (RX2.keep hb).s1o hjm
            clear d0 d1 d2 d4 d6 d7 d8 d9 d10 d11 d12 d13 d14
            replace d3 := ((bcell hb).1 _ _ d16).trans d3
            replace d5 := ((bcell hb).1 _ _ d16).trans d5
            replace ra2 := ((bcell hb).1 _ _ hblT).trans ra2
            replace y4 := ((bcell hb).1 _ _ hblL).trans y4
            replace y5 := ((bcell hb).1 _ _ hblL).trans y5
            by_cases hy : j = 0
            · have g8 : ¬ (0 : Int) < (j : Int) := by omega
              have g9 : ¬ 0 < j := by omega
              have qb : True := trivial
              obtain ⟨w5, w6⟩ := hbd (i + 1) (j) hlt hjm
              obtain ⟨w7, w8⟩ := hbd i (j) (by omega) hjm
              by_cases qa : P.tC (i + 1) (j) ≤ P.tC i (j)
              rotate_left
              · have ga : decide (P.tC i (j) < P.tC (i + 1) (j)) = true := decide_eq_true (by omega)
                have HE := Lib.hid (show Oz.grid (Oz.cb P.al P.tC) P.na P.nM = false from Oz.grid_no (i := i + 1) (j := j) hlt hjm (Oz.cb_no (by rintro ⟨h1, h2, h3⟩; simp at h1 h2 h3; omega)))
                clear qb hy RX RX2 qa hin
                go_wp2_with fail
                go_quiet (fail)
                go_wp2
                go_returns
                refine ⟨?_, bdnl (bt hB hb) _⟩
                rw [HE.out]; rfl
              have ga : decide (P.tC i (j) < P.tC (i + 1) (j)) = false := decide_eq_false (by omega)
              by_cases qc : P.tC i (j) - P.tC (i + 1) (j) ≤ P.al (i + 1) - P.al i
              rotate_left
              · have gc : decide (P.al (i + 1) - P.al i < P.tC i (j) - P.tC (i + 1) (j)) = true := decide_eq_true (by omega)
                have HE := Lib.hid (show Oz.grid (Oz.cb P.al P.tC) P.na P.nM = false from Oz.grid_no (i := i + 1) (j := j) hlt hjm (Oz.cb_no (by rintro ⟨h1, h2, h3⟩; simp at h1 h2 h3; omega)))
                clear qb hy RX RX2 qa qc hin
                go_wp2_with fail
                go_quiet (fail)
                go_wp2
                go_returns
                refine ⟨?_, bdnl (bt hB hb) _⟩
                rw [HE.out]; rfl
              have gc : decide (P.al (i + 1) - P.al i < P.tC i (j) - P.tC (i + 1) (j)) = false := decide_eq_false (by omega)
              have HI := Lib.hid (Oz.pre_step hin.out (show Oz.cb P.al P.tC (i + 1) (j) = true from Oz.cb_iff.2 ⟨by first | exact .inl (by omega) | exact .inr (by simpa using qb), by first | exact .inl (by omega) | exact .inr (by simpa using qa), by first | exact .inl (by omega) | exact .inr (by simpa using qc)⟩))
              clear qb hy RX RX2 qa qc
              go_wp2_with fail
              go_quiet (fail)
              go_wp2
              go_roundw
              case rel => exact ⟨j + 1, by omega, by go_num, HI, bdnl hb _⟩
              case measure => simp [intOf]; omega
            · obtain ⟨l, rfl⟩ : ∃ l, j = l + 1 := ⟨j - 1, by omega⟩
              obtain ⟨_, y2⟩ := (RX.keep hb).s1o (k := l) (by omega)
              have g8 : decide ((0 : Int) < (l : Int) + 1) = true := decide_eq_true (by omega)
              have l1 : (0 : Int) ≤ (l : Int) := by omega
              have l2 : (l : Int) + 1 < (P.nM : Int) := by omega
              have l3 : (l : Int) < (P.nM : Int) := by omega
              have l4 : (l : Int) + 1 - 1 = (l : Int) := by omega
              by_cases qb : P.tC (i + 1) (l + 1) ≤ P.tC (i + 1) l
              rotate_left
              · have gb : P.tC (i + 1) l < P.tC (i + 1) (l + 1) := by omega
                have HE := Lib.hid (show Oz.grid (Oz.cb P.al P.tC) P.na P.nM = false from Oz.grid_no (i := i + 1) (j := l + 1) hlt hjm (Oz.cb_no (by rintro ⟨h1, h2, h3⟩; simp at h1 h2 h3; omega)))
                clear qb hy RX RX2 hin
                go_wp2_with fail
                go_returns
                refine ⟨?_, bt hB hb⟩
                rw [HE.out]; rfl
              have gb : ¬ P.tC (i + 1) l < P.tC (i + 1) (l + 1) := by omega
              obtain ⟨w5, w6⟩ := hbd (i + 1) (l + 1) hlt hjm
              obtain ⟨w7, w8⟩ := hbd i (l + 1) (by omega) hjm
              by_cases qa : P.tC (i + 1) (l + 1) ≤ P.tC i (l + 1)
              rotate_left
              · have ga : decide (P.tC i (l + 1) < P.tC (i + 1) (l + 1)) = true := decide_eq_true (by omega)
                have HE := Lib.hid (show Oz.grid (Oz.cb P.al P.tC) P.na P.nM = false from Oz.grid_no (i := i + 1) (j := l + 1) hlt hjm (Oz.cb_no (by rintro ⟨h1, h2, h3⟩; simp at h1 h2 h3; omega)))
                clear qb hy RX RX2 qa hin
                go_wp2_with fail
                go_quiet (fail)
                go_wp2
                go_returns
                refine ⟨?_, bdnl (bt hB hb) _⟩
                rw [HE.out]; rfl
              have ga : decide (P.tC i (l + 1) < P.tC (i + 1) (l + 1)) = false := decide_eq_false (by omega)
              by_cases qc : P.tC i (l + 1) - P.tC (i + 1) (l + 1) ≤ P.al (i + 1) - P.al i
              rotate_left
              · have gc : decide (P.al (i + 1) - P.al i < P.tC i (l + 1) - P.tC (i + 1) (l + 1)) = true := decide_eq_true (by omega)
                have HE := Lib.hid (show Oz.grid (Oz.cb P.al P.tC) P.na P.nM = false from Oz.grid_no (i := i + 1) (j := l + 1) hlt hjm (Oz.cb_no (by rintro ⟨h1, h2, h3⟩; simp at h1 h2 h3; omega)))
                clear qb hy RX RX2 qa qc hin
                go_wp2_with fail
                go_quiet (fail)
                go_wp2
                go_returns
                refine ⟨?_, bdnl (bt hB hb) _⟩
                rw [HE.out]; rfl
              have gc : decide (P.al (i + 1) - P.al i < P.tC i (l + 1) - P.tC (i + 1) (l + 1)) = false := decide_eq_false (by omega)
              have HI := Lib.hid (Oz.pre_step hin.out (show Oz.cb P.al P.tC (i + 1) (l + 1) = true from Oz.cb_iff.2 ⟨by first | exact .inl (by omega) | exact .inr (by simpa using qb), by first | exact .inl (by omega) | exact .inr (by simpa using qa), by first | exact .inl (by omega) | exact .inr (by simpa using qc)⟩))
              clear qb hy RX RX2 qa qc
              go_wp2_with fail
              go_quiet (fail)
              go_wp2
              go_roundw
              case rel => exact ⟨l + 1 + 1, by omega, by go_num, HI, bdnl hb _⟩
              case measure => simp [intOf]; omega
          · have ej : j = P.nM := by omega
            have HO := Lib.hid (Oz.pre_step (p := fun i => Oz.pre (Oz.cb P.al P.tC i) P.nM) hok.out (by rw [← ej]; exact hin.out))
            have hjm2 : ¬ (j : Int) < (P.nM : Int) := by omega
            clear hjm ej
            go_wp2_with fail
            go_roundw
            case rel => exact ⟨i + 1 + 1, by omega, by go_num, HO, G.keep hb, bt hB hb⟩
            case measure => simp [intOf]; omega
    · have ek : k = P.na := by omega
      have HE := Lib.hid (show Oz.grid (Oz.cb P.al P.tC) P.na P.nM = true by rw [← ek]; exact hok.out)
      have hk2 : ¬ (k : Int) < (P.na : Int) := by omega
      clear hlt ek
      go_wp2_with fail
      go_returns
      refine ⟨?_, hB⟩
      rw [HE.out]; rfl
end Go.Proofs.Ytoeklllahpegfaa
/-
  Contracts: names.
-/
namespace Go.Proofs.Ytoeklllahpegfaa
set_option linter.unusedVariables false
set_option linter.unusedSimpArgs false
open Go.RowKit
attribute [local irreducible] World.setCell World.cell?

set_option maxHeartbeats 4000000 in
theorem name_c (s : ByteArray) (most : Int) (w : World) (hs : s.size ≤ 9223372036854775807) : Calls Try.prog 57 #[.string s, .int .i64 most] w fun e w' => e = .returned (.bool (Oz.nmB s most)) ∧ w = w' := by
  by_cases h0 : (s.size : Int) = 0
  · have HE := Lib.hid (Oz.nmB_f (show Oz.nmF s most = false from decide_eq_false (by omega)))
    go_enter Try.func57, Try.ntmps57
    go_wp2_with fail
    go_returns
    refine ⟨?_, rfl⟩
    rw [HE.out]; rfl
  have hp : 0 < s.size := by omega
  have h0' : ((s.size : Int) == 0) = false := by simpa using h0
  have hp2 : (0 : Int) < (s.size : Int) := by omega
  have hp3 : ¬ (s.size : Int) < 1 := by omega
  by_cases h1 : most < (s.size : Int)
  · have HE := Lib.hid (Oz.nmB_f (show Oz.nmF s most = false from decide_eq_false (by omega)))
    clear hp
    go_enter Try.func57, Try.ntmps57
    go_wp2_with fail
    go_returns
    refine ⟨?_, rfl⟩
    rw [HE.out]; rfl
  by_cases h2 : (s[0].toNat : Int) < 65
  · have HE := Lib.hid (Oz.nmB_f (show Oz.nmF s most = false from decide_eq_false (by rw [Oz.ch_at hp]; omega)))
    go_enter Try.func57, Try.ntmps57
    go_wp2_with fail
    go_returns
    refine ⟨?_, rfl⟩
    rw [HE.out]; rfl
  by_cases h3 : 90 < (s[0].toNat : Int)
  · have HE := Lib.hid (Oz.nmB_f (show Oz.nmF s most = false from decide_eq_false (by rw [Oz.ch_at hp]; omega)))
    go_enter Try.func57, Try.ntmps57
    go_wp2_with fail
    go_returns
    refine ⟨?_, rfl⟩
    rw [HE.out]; rfl
  have HN := Lib.hid (Oz.nmB_t (show Oz.nmF s most = true from decide_eq_true ⟨hp, by omega, by rw [Oz.ch_at hp]; omega, by rw [Oz.ch_at hp]; omega⟩))
  go_enter Try.func57, Try.ntmps57
  go_wp2_with fail
  clear h2 h3
  go_loopw [27] (fun i wr => ∃ k : Nat, k ≤ s.size ∧ i = .int .i64 k ∧ Hid (Oz.pre (fun i => Oz.azB (Oz.ch s i)) k = true) ∧ w = wr) (fun i _ => s.size - (intOf i).toNat)
  case atStart => exact ⟨0, Nat.zero_le _, rfl, rfl, rfl⟩
  case round =>
    obtain ⟨k, hk, rfl, hok, rfl⟩ := hrel
    by_cases hlt : k < s.size
    · have hc := Oz.ch_at hlt
      by_cases h4 : (s[k].toNat : Int) < 65
      · by_cases h5 : (s[k].toNat : Int) < 48
        · have HE := Lib.hid (HN.out.trans (Oz.pre_no hlt (show Oz.azB (Oz.ch s k) = false from decide_eq_false (by rw [hc]; omega))))
          clear hc
          go_wp2_with fail
          go_returns
          refine ⟨?_, rfl⟩
          rw [HE.out]; rfl
        · by_cases h6 : 57 < (s[k].toNat : Int)
          · have HE := Lib.hid (HN.out.trans (Oz.pre_no hlt (show Oz.azB (Oz.ch s k) = false from decide_eq_false (by rw [hc]; omega))))
            clear hc
            go_wp2_with fail
            go_returns
            refine ⟨?_, rfl⟩
            rw [HE.out]; rfl
          · have HO := Lib.hid (Oz.pre_step (p := fun i => Oz.azB (Oz.ch s i)) hok.out (show Oz.azB (Oz.ch s k) = true from decide_eq_true (by rw [hc]; omega)))
            clear hc
            go_wp2_with fail
            go_roundw
            case rel => exact ⟨k + 1, by omega, by go_num, HO, by first | trivial | rfl⟩
            case measure => simp [intOf]; omega
      · by_cases h5 : 90 < (s[k].toNat : Int)
        · have h6 : ¬ (s[k].toNat : Int) < 48 := by omega
          have h7 : 57 < (s[k].toNat : Int) := by omega
          have HE := Lib.hid (HN.out.trans (Oz.pre_no hlt (show Oz.azB (Oz.ch s k) = false from decide_eq_false (by rw [hc]; omega))))
          clear hc
          go_wp2_with fail
          go_returns
          refine ⟨?_, rfl⟩
          rw [HE.out]; rfl
        · have HO := Lib.hid (Oz.pre_step (p := fun i => Oz.azB (Oz.ch s i)) hok.out (show Oz.azB (Oz.ch s k) = true from decide_eq_true (by rw [hc]; omega)))
          clear hc
          go_wp2_with fail
          go_roundw
          case rel => exact ⟨k + 1, by omega, by go_num, HO, by first | trivial | rfl⟩
          case measure => simp [intOf]; omega
    · obtain rfl : k = s.size := by omega
      have HE := Lib.hid (HN.out.trans hok.out)
      clear hlt
      go_wp2_with fail
      go_returns
      refine ⟨?_, rfl⟩
      rw [HE.out]; rfl
set_option maxHeartbeats 4000000 in
theorem rname_c (s : ByteArray) (most : Int) (w : World) (hs : s.size ≤ 9223372036854775807) : Calls Try.prog 66 #[.string s, .int .i64 most] w fun e w' => e = .returned (.bool (Oz.nmB s most)) ∧ w = w' := by
  by_cases h0 : (s.size : Int) = 0
  · have HE := Lib.hid (Oz.nmB_f (show Oz.nmF s most = false from decide_eq_false (by omega)))
    go_enter Try.func66, Try.ntmps66
    go_wp2_with fail
    go_returns
    refine ⟨?_, rfl⟩
    rw [HE.out]; rfl
  have hp : 0 < s.size := by omega
  have h0' : ((s.size : Int) == 0) = false := by simpa using h0
  have hp2 : (0 : Int) < (s.size : Int) := by omega
  have hp3 : ¬ (s.size : Int) < 1 := by omega
  by_cases h1 : most < (s.size : Int)
  · have HE := Lib.hid (Oz.nmB_f (show Oz.nmF s most = false from decide_eq_false (by omega)))
    clear hp
    go_enter Try.func66, Try.ntmps66
    go_wp2_with fail
    go_returns
    refine ⟨?_, rfl⟩
    rw [HE.out]; rfl
  by_cases h2 : (s[0].toNat : Int) < 65
  · have HE := Lib.hid (Oz.nmB_f (show Oz.nmF s most = false from decide_eq_false (by rw [Oz.ch_at hp]; omega)))
    go_enter Try.func66, Try.ntmps66
    go_wp2_with fail
    go_returns
    refine ⟨?_, rfl⟩
    rw [HE.out]; rfl
  by_cases h3 : 90 < (s[0].toNat : Int)
  · have HE := Lib.hid (Oz.nmB_f (show Oz.nmF s most = false from decide_eq_false (by rw [Oz.ch_at hp]; omega)))
    go_enter Try.func66, Try.ntmps66
    go_wp2_with fail
    go_returns
    refine ⟨?_, rfl⟩
    rw [HE.out]; rfl
  have HN := Lib.hid (Oz.nmB_t (show Oz.nmF s most = true from decide_eq_true ⟨hp, by omega, by rw [Oz.ch_at hp]; omega, by rw [Oz.ch_at hp]; omega⟩))
  go_enter Try.func66, Try.ntmps66
  go_wp2_with fail
  clear h2 h3
  go_loopw [5] (fun i wr => ∃ k : Nat, k ≤ s.size ∧ i = .int .i64 k ∧ Hid (Oz.pre (fun i => Oz.azB (Oz.ch s i)) k = true) ∧ w = wr) (fun i _ => s.size - (intOf i).toNat)
  case atStart => exact ⟨0, Nat.zero_le _, rfl, rfl, rfl⟩
  case round =>
    obtain ⟨k, hk, rfl, hok, rfl⟩ := hrel
    by_cases hlt : k < s.size
    · have hc := Oz.ch_at hlt
      by_cases h4 : (s[k].toNat : Int) < 65
      · by_cases h5 : (s[k].toNat : Int) < 48
        · have HE := Lib.hid (HN.out.trans (Oz.pre_no hlt (show Oz.azB (Oz.ch s k) = false from decide_eq_false (by rw [hc]; omega))))
          clear hc
          go_wp2_with fail
          go_returns
          refine ⟨?_, rfl⟩
          rw [HE.out]; rfl
        · by_cases h6 : 57 < (s[k].toNat : Int)
          · have HE := Lib.hid (HN.out.trans (Oz.pre_no hlt (show Oz.azB (Oz.ch s k) = false from decide_eq_false (by rw [hc]; omega))))
            clear hc
            go_wp2_with fail
            go_returns
            refine ⟨?_, rfl⟩
            rw [HE.out]; rfl
          · have HO := Lib.hid (Oz.pre_step (p := fun i => Oz.azB (Oz.ch s i)) hok.out (show Oz.azB (Oz.ch s k) = true from decide_eq_true (by rw [hc]; omega)))
            clear hc
            go_wp2_with fail
            go_roundw
            case rel => exact ⟨k + 1, by omega, by go_num, HO, by first | trivial | rfl⟩
            case measure => simp [intOf]; omega
      · by_cases h5 : 90 < (s[k].toNat : Int)
        · have h6 : ¬ (s[k].toNat : Int) < 48 := by omega
          have h7 : 57 < (s[k].toNat : Int) := by omega
          have HE := Lib.hid (HN.out.trans (Oz.pre_no hlt (show Oz.azB (Oz.ch s k) = false from decide_eq_false (by rw [hc]; omega))))
          clear hc
          go_wp2_with fail
          go_returns
          refine ⟨?_, rfl⟩
          rw [HE.out]; rfl
        · have HO := Lib.hid (Oz.pre_step (p := fun i => Oz.azB (Oz.ch s i)) hok.out (show Oz.azB (Oz.ch s k) = true from decide_eq_true (by rw [hc]; omega)))
          clear hc
          go_wp2_with fail
          go_roundw
          case rel => exact ⟨k + 1, by omega, by go_num, HO, by first | trivial | rfl⟩
          case measure => simp [intOf]; omega
    · obtain rfl : k = s.size := by omega
      have HE := Lib.hid (HN.out.trans hok.out)
      clear hlt
      go_wp2_with fail
      go_returns
      refine ⟨?_, rfl⟩
      rw [HE.out]; rfl
end Go.Proofs.Ytoeklllahpegfaa
