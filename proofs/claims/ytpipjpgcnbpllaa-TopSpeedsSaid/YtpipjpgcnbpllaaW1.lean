/-
  Contracts: within and Check, the program's.
-/
import Derived.Test.YtpipjpgcnbpllaaRd
import Derived.Test.YtpipjpgcnbpllaaPlain3
namespace Go.Proofs.Ytpipjpgcnbpllaa
set_option linter.unusedVariables false
set_option linter.unusedSimpArgs false
open Go.RowKit

theorem within_c (a lo hi : Int) (w : World) : Calls Try.prog 20 #[.int .i64 a, .int .i64 lo, .int .i64 hi] w fun e w' => e = .returned (.bool (Co.wi a lo hi)) ∧ w = w' := by
  by_cases h1 : lo ≤ a
  · by_cases h2 : a ≤ hi
    · rw [show Co.wi a lo hi = true from decide_eq_true ⟨h1, h2⟩]
      go_enter Try.func20, Try.ntmps20
      go_wp2
      go_ret
      exact ⟨rfl, rfl⟩
    · rw [show Co.wi a lo hi = false from decide_eq_false (by omega)]
      have h3 : hi < a := by omega
      go_enter Try.func20, Try.ntmps20
      go_wp2
      go_ret
      exact ⟨rfl, rfl⟩
  · rw [show Co.wi a lo hi = false from decide_eq_false (by omega)]
    have h3 : a < lo := by omega
    go_enter Try.func20, Try.ntmps20
    go_wp2
    go_ret
    exact ⟨rfl, rfl⟩

set_option maxHeartbeats 2000000 in
theorem check_c (A B : Option Addr) (n c m d : Nat) (N S : Nat → Nat → Int) (w : World) (R : Rd w 2 A n c (iv N)) (T : Rd w 2 B m d (iv S)) :
    Calls Try.prog 16 #[.slice A n c, .slice B m d] w fun e w' => e = .returned (.int .i64 (Co.ck n N m S)) ∧ Below w.heap.size w w' := by
  have r1 := R.le
  have r2 := R.mx
  have t1 := T.le
  have t2 := T.mx
  by_cases h1 : 64 < n
  · rw [Co.ck_3 h1]
    go_enter Try.func16, Try.ntmps16
    go_wp2
    go_ret
    exact ⟨rfl, Below.refl _ _⟩
  by_cases h2 : m = n - 1
  rotate_left
  · rw [Co.ck_1 h1 h2]
    have h3 : (((m : Nat) : Int) != if ((n : Nat) : Int) - 1 < 0 then 0 else ((n : Nat) : Int) - 1) = true := by
      split <;> (simp; omega)
    go_enter Try.func16, Try.ntmps16
    go_wp2
    all_goals
      go_ret
      exact ⟨rfl, Below.refl _ _⟩
  have h3 : (((m : Nat) : Int) != if ((n : Nat) : Int) - 1 < 0 then 0 else ((n : Nat) : Int) - 1) = false := by
    split <;> (simp; omega)
  rcases Nat.eq_zero_or_pos n with hz | hz
  · subst hz
    obtain rfl : m = 0 := h2
    have e2 := Lib.hid (Co.ck_0 (n := 0) (m := 0) (N := N) (S := S) h1 rfl rfl rfl)
    clear h3
    go_enter Try.func16, Try.ntmps16
    go_wp2
    go_loopw [23] (fun i wr => i = .int .i64 0 ∧ Below w.heap.size w wr) (fun i _ => 0)
    case atStart => exact ⟨rfl, Below.refl _ _⟩
    case round =>
      rename_i wr
      obtain ⟨rfl, hB⟩ := hrel
      go_wp2
      go_loopw [40] (fun i wr => i = .int .i64 0 ∧ Below w.heap.size w wr) (fun i _ => 0)
      case atStart => exact ⟨rfl, hB⟩
      case round =>
        clear hB
        rename_i wr
        obtain ⟨rfl, hB⟩ := hrel
        go_wp2
        go_ret
        exact ⟨ret_int e2.out.symm, hB⟩
  have hm : m ≤ 63 := by omega
  have hnn : ¬ ((n : Nat) : Int) - 1 < 0 := by omega
  replace h2 := Lib.hid h2
  go_enter Try.func16, Try.ntmps16
  go_wp2
  go_loopw [23] (fun i wr => ∃ k : Nat, k ≤ n ∧ i = .int .i64 k ∧ Hid (Co.okW N k = true) ∧ Below w.heap.size w wr) (fun i _ => n - (intOf i).toNat)
  case atStart => exact ⟨0, Nat.zero_le _, rfl, rfl, Below.refl _ _⟩
  case round =>
    rename_i wr
    obtain ⟨k, hk, rfl, hok, hB⟩ := hrel
    by_cases hlt : k < n
    · obtain ⟨b, off, eA, hbl, u0, u1⟩ := (R.keep hB).at2 hlt
      have HA := Lib.hid eA
      rw [HA.out]
      clear eA
      rcases hx : Co.wi (N k 0) (-1099511627776) 1099511627776 with _ | _
      · have e2 := Lib.hid (Co.ck_2w (S := S) h1 h2.out hlt (show (Co.inB (N k 0) && Co.inB (N k 1)) = false by rw [show Co.inB (N k 0) = false from hx]; rfl))
        go_wp2_with (go_at_call 20; refine (within_c _ _ _ _).mono ?_; rintro e w' ⟨rfl, rfl⟩)
        go_ret
        exact ⟨ret_int e2.out.symm, bal hB _⟩
      · rcases hy : Co.wi (N k 1) (-1099511627776) 1099511627776 with _ | _
        · have e2 := Lib.hid (Co.ck_2w (S := S) h1 h2.out hlt (show (Co.inB (N k 0) && Co.inB (N k 1)) = false by rw [show Co.inB (N k 1) = false from hy, Bool.and_false]))
          go_wp2_with (go_at_call 20; refine (within_c _ _ _ _).mono ?_; rintro e w' ⟨rfl, rfl⟩)
          go_ret
          exact ⟨ret_int e2.out.symm, bal hB _⟩
        · have e2 := Lib.hid (show Co.okW N (k + 1) = true by rw [Co.okW, hok.out, show Co.inB (N k 0) = true from hx, show Co.inB (N k 1) = true from hy]; rfl)
          go_wp2_with (go_at_call 20; refine (within_c _ _ _ _).mono ?_; rintro e w' ⟨rfl, rfl⟩)
          go_roundw
          case rel => exact ⟨k + 1, by omega, by go_num, e2, bal hB _⟩
          case measure => simp [intOf]; omega
    · obtain rfl : k = n := by omega
      go_wp2
      go_loopw [40] (fun i wr => ∃ k : Nat, k ≤ m ∧ i = .int .i64 k ∧ Hid (Co.okS S k = true) ∧ Below w.heap.size w wr) (fun i _ => m - (intOf i).toNat)
      case atStart => exact ⟨0, Nat.zero_le _, rfl, rfl, hB⟩
      case round =>
        clear hB
        rename_i wr
        obtain ⟨j, hj, rfl, hoj, hB⟩ := hrel
        by_cases hlj : j < m
        · obtain ⟨b, off, eA, hbl, u0, u1⟩ := (T.keep hB).at2 hlj
          have HA := Lib.hid eA
          rw [HA.out]
          clear eA
          rcases hx : Co.wi (S j 0) 0 1099511627776 with _ | _
          · have e2 := Lib.hid (Co.ck_2s (N := N) h1 h2.out hlj (show (Co.inS (S j 0) && Co.inS (S j 1)) = false by rw [show Co.inS (S j 0) = false from hx]; rfl))
            go_wp2_with (go_at_call 20; refine (within_c _ _ _ _).mono ?_; rintro e w' ⟨rfl, rfl⟩)
            go_ret
            exact ⟨ret_int e2.out.symm, bal hB _⟩
          · rcases hy : Co.wi (S j 1) 0 1099511627776 with _ | _
            · have e2 := Lib.hid (Co.ck_2s (N := N) h1 h2.out hlj (show (Co.inS (S j 0) && Co.inS (S j 1)) = false by rw [show Co.inS (S j 1) = false from hy, Bool.and_false]))
              go_wp2_with (go_at_call 20; refine (within_c _ _ _ _).mono ?_; rintro e w' ⟨rfl, rfl⟩)
              go_ret
              exact ⟨ret_int e2.out.symm, bal hB _⟩
            · have e2 := Lib.hid (show Co.okS S (j + 1) = true by rw [Co.okS, hoj.out, show Co.inS (S j 0) = true from hx, show Co.inS (S j 1) = true from hy]; rfl)
              go_wp2_with (go_at_call 20; refine (within_c _ _ _ _).mono ?_; rintro e w' ⟨rfl, rfl⟩)
              go_roundw
              case rel => exact ⟨j + 1, by omega, by go_num, e2, bal hB _⟩
              case measure => simp [intOf]; omega
        · obtain rfl : j = m := by omega
          have e2 := Lib.hid (Co.ck_0 h1 h2.out hok.out hoj.out)
          go_wp2
          go_ret
          exact ⟨ret_int e2.out.symm, hB⟩
end Go.Proofs.Ytpipjpgcnbpllaa
