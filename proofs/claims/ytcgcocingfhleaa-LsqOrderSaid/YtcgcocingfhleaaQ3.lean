/-
  Contracts: Check.
-/
import Derived.Test.YtcgcocingfhleaaQ2
import Derived.Test.YtcgcocingfhleaaRd6
namespace Go.Proofs.Ytcgcocingfhleaa
set_option linter.unusedVariables false
set_option linter.unusedSimpArgs false
open Go.RowKit

theorem vr_at (M : Lq.Tab) (k : Nat) : Lq.vm (M k 0) (M k 1) (M k 2) (M k 3) (M k 4) (M k 5) = Lq.vr M k := rfl
set_option maxRecDepth 100000 in
set_option maxHeartbeats 4000000 in
theorem check_c (A : Option Addr) (n c : Nat) (M : Lq.Tab) (w : World) (R : Rd w 6 A n c (iv M)) :
    Calls Try.prog 17 #[.slice A n c] w fun e w' => e = .returned (.int .i64 (Lq.ck n M)) ∧ Below w.heap.size w w' := by
  have r1 := R.le
  have r2 := R.mx
  by_cases h1 : 16 < n
  · rw [Lq.ck_3 h1]
    go_enter Try.func17, Try.ntmps17
    go_wp2_with fail
    go_returns
    exact ⟨rfl, Below.refl _ _⟩
  go_enter Try.func17, Try.ntmps17
  go_wp2_with fail
  go_loopw [10] (fun i wr => ∃ k : Nat, k ≤ n ∧ i = .int .i64 k ∧ Hid (Lq.okM M k = true) ∧ Below w.heap.size w wr) (fun i _ => n - (intOf i).toNat)
  case atStart => exact ⟨0, Nat.zero_le _, rfl, rfl, Below.refl _ _⟩
  case round =>
    rename_i wr
    obtain ⟨k, hk, rfl, hok, hB⟩ := hrel
    by_cases hlt : k < n
    · obtain ⟨b, off, eA, hbl, u0, u1, u2, u3, u4, u5⟩ := (R.keep hB).at6 hlt
      have HA := Lib.hid eA
      rw [HA.out]
      clear eA
      have X := Blk.new wr 43 #[.int .i64 (M k 0), .int .i64 (M k 1), .int .i64 (M k 2), .int .i64 (M k 3), .int .i64 (M k 4), .int .i64 (M k 5)]
      obtain ⟨c0, c1, c2, c3, c4, c5, c6, c7⟩ := X.open6
      replace hB := bal hB (.cells #[.int .i64 (M k 0), .int .i64 (M k 1), .int .i64 (M k 2), .int .i64 (M k 3), .int .i64 (M k 4), .int .i64 (M k 5)] 43)
      go_wp2_with fail
      refine (valid_c _ _ _ _ _ _ _).mono ?_
      rw [vr_at]
      rintro e w1 ⟨rfl, hb⟩
      clear c0 c1 c2 c3 c4 c5 c6 c7 X u0 u1 u2 u3 u4 u5
      replace hB := bt hB hb
      clear hb
      cases hv : Lq.vr M k
      · have E := Lib.hid (Lq.ck_1 h1 k hlt hv)
        clear hv
        go_wp2_with fail
        go_returns
        exact ⟨ret_int E.out.symm, hB⟩
      · have E := Lib.hid (show Lq.okM M (k + 1) = true by rw [Lq.okM, hok.out, hv]; rfl)
        clear hv
        go_wp2_with fail
        go_roundw
        case rel => exact ⟨k + 1, by omega, by go_num, E, hB⟩
        case measure => simp [intOf]; omega
    · obtain rfl : k = n := by omega
      have E := Lib.hid (Lq.ck_0 h1 hok.out)
      go_wp2_with fail
      go_returns
      exact ⟨ret_int E.out.symm, hB⟩
set_option maxRecDepth 100000 in
set_option maxHeartbeats 4000000 in
theorem rcheck_c (A : Option Addr) (n c : Nat) (M : Lq.Tab) (w : World) (R : Rd w 6 A n c (iv M)) :
    Calls Try.prog 18 #[.slice A n c] w fun e w' => e = .returned (.int .i64 (Lq.ck n M)) ∧ Below w.heap.size w w' := by
  have r1 := R.le
  have r2 := R.mx
  by_cases h1 : 16 < n
  · rw [Lq.ck_3 h1]
    go_enter Try.func18, Try.ntmps18
    go_wp2_with fail
    go_returns
    exact ⟨rfl, Below.refl _ _⟩
  go_enter Try.func18, Try.ntmps18
  go_wp2_with fail
  go_loopw [10] (fun i wr => ∃ k : Nat, k ≤ n ∧ i = .int .i64 k ∧ Hid (Lq.okM M k = true) ∧ Below w.heap.size w wr) (fun i _ => n - (intOf i).toNat)
  case atStart => exact ⟨0, Nat.zero_le _, rfl, rfl, Below.refl _ _⟩
  case round =>
    rename_i wr
    obtain ⟨k, hk, rfl, hok, hB⟩ := hrel
    by_cases hlt : k < n
    · obtain ⟨b, off, eA, hbl, u0, u1, u2, u3, u4, u5⟩ := (R.keep hB).at6 hlt
      have HA := Lib.hid eA
      rw [HA.out]
      clear eA
      have X := Blk.new wr 43 #[.int .i64 (M k 0), .int .i64 (M k 1), .int .i64 (M k 2), .int .i64 (M k 3), .int .i64 (M k 4), .int .i64 (M k 5)]
      obtain ⟨c0, c1, c2, c3, c4, c5, c6, c7⟩ := X.open6
      replace hB := bal hB (.cells #[.int .i64 (M k 0), .int .i64 (M k 1), .int .i64 (M k 2), .int .i64 (M k 3), .int .i64 (M k 4), .int .i64 (M k 5)] 43)
      go_wp2_with fail
      refine (rvalid_c _ _ _ _ _ _ _).mono ?_
      rw [vr_at]
      rintro e w1 ⟨rfl, hb⟩
      clear c0 c1 c2 c3 c4 c5 c6 c7 X u0 u1 u2 u3 u4 u5
      replace hB := bt hB hb
      clear hb
      cases hv : Lq.vr M k
      · have E := Lib.hid (Lq.ck_1 h1 k hlt hv)
        clear hv
        go_wp2_with fail
        go_returns
        exact ⟨ret_int E.out.symm, hB⟩
      · have E := Lib.hid (show Lq.okM M (k + 1) = true by rw [Lq.okM, hok.out, hv]; rfl)
        clear hv
        go_wp2_with fail
        go_roundw
        case rel => exact ⟨k + 1, by omega, by go_num, E, hB⟩
        case measure => simp [intOf]; omega
    · obtain rfl : k = n := by omega
      have E := Lib.hid (Lq.ck_0 h1 hok.out)
      go_wp2_with fail
      go_returns
      exact ⟨ret_int E.out.symm, hB⟩
end Go.Proofs.Ytcgcocingfhleaa
