/-
  Contracts: between, Rise, Fall.
-/
import Derived.Test.YtpipjpgcnbpllaaW4
namespace Go.Proofs.Ytpipjpgcnbpllaa
set_option linter.unusedVariables false
set_option linter.unusedSimpArgs false
open Go.RowKit

theorem iv_shift (S : Nat → Nat → Int) (i : Nat) : (fun k f => iv S (i + k) f) = iv (fun k f => S (i + k) f) := rfl

set_option maxHeartbeats 1000000 in
theorem between_c (B : Option Addr) (m d i j : Nat) (S : Nat → Nat → Int) (w : World) (T : Rd w 2 B m d (iv S)) (hij : i ≤ j) (hj : j ≤ m) (hm : m ≤ 63)
    (s0 : ∀ k, k < m → 0 ≤ S k 0 ∧ S k 0 ≤ 1099511627776) (s1 : ∀ k, k < m → 0 ≤ S k 1 ∧ S k 1 ≤ 1099511627776) :
    Calls Try.prog 21 #[.slice B m d, .int .i64 i, .int .i64 j] w fun e w' => e = .returned (.tuple #[.int .i64 (Co.sm S 0 i (j - i)), .int .i64 (Co.sm S 1 i (j - i))]) ∧ Below w.heap.size w w' := by
  have t1 := T.le
  have t2 := T.mx
  have T2 := T.cut hij hj
  have G0 := Lib.hid s0
  have G1 := Lib.hid s1
  clear s0 s1
  obtain ⟨c, rfl⟩ : ∃ c, j = i + c := ⟨j - i, by omega⟩
  rw [show i + c - i = c from by omega] at T2 ⊢
  by_cases hd : d = i
  · obtain rfl : c = 0 := by omega
    subst hd
    go_enter Try.func21, Try.ntmps21
    go_wp2
    go_loopw [6, 7, 15] (fun x0 x1 i wr => i = .int .i64 0 ∧ x0 = .int .i64 0 ∧ x1 = .int .i64 0 ∧ Below w.heap.size w wr) (fun _ _ _ _ => 0)
    case atStart => exact ⟨rfl, rfl, rfl, Below.refl _ _⟩
    case round =>
      rename_i wr
      obtain ⟨rfl, rfl, rfl, hB⟩ := hrel
      go_wp2
      go_returns
      exact ⟨rfl, hB⟩
  · rw [if_neg hd, iv_shift] at T2
    have hc1 : i + c ≤ d := by omega
    go_enter Try.func21, Try.ntmps21
    go_wp2
    go_loopw [6, 7, 15] (fun x0 x1 q wr => ∃ k : Nat, k ≤ c ∧ q = .int .i64 k ∧ x0 = .int .i64 (Co.sm S 0 i k) ∧ x1 = .int .i64 (Co.sm S 1 i k) ∧ Below w.heap.size w wr) (fun _ _ q _ => c - (intOf q).toNat)
    case atStart => exact ⟨0, Nat.zero_le _, rfl, rfl, rfl, Below.refl _ _⟩
    case round =>
      rename_i wr
      obtain ⟨k, hk, rfl, rfl, rfl, hB⟩ := hrel
      by_cases hlt : k < c
      · obtain ⟨b, off, eA, hbl, u0, u1⟩ := (T2.keep hB).at2 hlt
        have HA := Lib.hid eA
        rw [HA.out]
        clear eA
        have a0 := Co.sm_bd G0.out i k (by omega)
        have c0 := G0.out (i + k) (by omega)
        have a1 := Co.sm_bd G1.out i k (by omega)
        have c1 := G1.out (i + k) (by omega)
        go_wp2
        go_roundw
        case rel => exact ⟨k + 1, by omega, by go_num, rfl, rfl, bal hB _⟩
        case measure => simp [intOf]; omega
      · obtain rfl : k = c := by omega
        go_wp2
        go_returns
        exact ⟨rfl, hB⟩

end Go.Proofs.Ytpipjpgcnbpllaa
