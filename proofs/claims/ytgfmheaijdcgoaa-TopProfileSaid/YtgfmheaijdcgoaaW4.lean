/-
  Contract: the reference's Meets.
-/
import Derived.Test.YtgfmheaijdcgoaaW3
namespace Go.Proofs.Ytgfmheaijdcgoaa
set_option linter.unusedVariables false
set_option linter.unusedSimpArgs false
open Go.RowKit

set_option maxHeartbeats 4000000 in
theorem rmeets_c (A B E : Option Addr) (n c m d l f : Nat) (N S : Nat → Nat → Int) (v : Nat → Int) (w : World) (R : Rd w 2 A n c (iv N)) (T : Rd w 2 B m d (iv S)) (L : Rd w 1 E l f (nv v)) :
    Calls Try.prog 16 #[.slice A n c, .slice B m d, .slice E l f] w fun e w' => e = .returned (.bool (Co.mt n N m S l v)) ∧ Below w.heap.size w w' := by
  have r1 := R.le
  have r2 := R.mx
  have t1 := T.le
  have t2 := T.mx
  have l1 := L.le
  have l2 := L.mx
  by_cases hck : Co.ck n N m S = 0
  rotate_left
  · have e2 := Lib.hid (Co.mt_no_c (v := v) (l := l) hck)
    have h3 : (Co.ck n N m S != 0) = true := by simpa using hck
    clear hck
    go_enter Try.func16, Try.ntmps16
    go_wp2_with fail
    refine (rcheck_c _ _ _ _ _ _ _ _ _ R T).mono ?_
    rintro e w1 ⟨rfl, hb⟩
    go_wp2
    go_ret
    exact ⟨ret_bool e2.out.symm, hb⟩
  have O := Co.ck_ok.1 hck
  have hn := O.hn
  have HM := Lib.hid O.hm
  by_cases hl : l = n
  rotate_left
  · have e2 := Lib.hid (Co.mt_no_l (N := N) (S := S) (m := m) (v := v) hl)
    have h4 : ((l : Int) != (n : Int)) = true := by simp; omega
    have hc := Lib.hid hck
    clear hck hl O
    go_enter Try.func16, Try.ntmps16
    go_wp2_with fail
    refine (rcheck_c _ _ _ _ _ _ _ _ _ R T).mono ?_
    rw [hc.out]
    rintro e w1 ⟨rfl, hb⟩
    go_wp2
    go_ret
    exact ⟨ret_bool e2.out.symm, hb⟩
  subst hl
  have hc := Lib.hid hck
  clear hck
  go_enter Try.func16, Try.ntmps16
  go_wp2_with fail
  refine (rcheck_c _ _ _ _ _ _ _ _ _ R T).mono ?_
  rw [hc.out]
  rintro e w1 ⟨rfl, hb⟩
  go_wp2
  go_loopw [24] (fun i wr => ∃ k : Nat, k ≤ l ∧ i = .int .i64 k ∧ Hid (Co.mtW N v k = true) ∧ Below w.heap.size w wr) (fun i _ => l - (intOf i).toNat)
  case atStart => exact ⟨0, Nat.zero_le _, rfl, rfl, hb⟩
  case round =>
    clear hb
    rename_i wr
    obtain ⟨k, hk, rfl, hw, hB⟩ := hrel
    by_cases hlt : k < l
    · obtain ⟨b, off, eA, hbl, u0, u1⟩ := (R.keep hB).at2 hlt
      obtain ⟨b2, off2, eE, hbl2, z0⟩ := (L.keep hB).at1 hlt
      have HA := Lib.hid eA
      have HE := Lib.hid eE
      rw [HA.out, HE.out]
      clear eA eE
      have i1 : (0 : Int) ≤ (k : Int) := by omega
      have i2 : (k : Int) < (l : Int) := by omega
      by_cases q1 : v k < N k 0
      · have e2 := Lib.hid (Co.mt_no_w (S := S) (m := m) (l := l) hlt (Co.wi_false.2 (show ¬ (N k 0 ≤ v k ∧ v k ≤ N k 1) by omega)))
        have g1 : decide (v k < N k 0) = true := decide_eq_true q1
        clear q1
        go_wp2
        go_quiet (fail)
        go_wp2
        go_ret
        exact ⟨ret_bool e2.out.symm, bdnl (bal hB _) _⟩
      · have g1 : decide (v k < N k 0) = false := decide_eq_false q1
        by_cases q2 : N k 1 < v k
        · have e2 := Lib.hid (Co.mt_no_w (S := S) (m := m) (l := l) hlt (Co.wi_false.2 (show ¬ (N k 0 ≤ v k ∧ v k ≤ N k 1) by omega)))
          have g2 : decide (N k 1 < v k) = true := decide_eq_true q2
          clear q1 q2
          go_wp2
          go_quiet (fail)
          go_wp2
          go_ret
          exact ⟨ret_bool e2.out.symm, bdnl (bal hB _) _⟩
        · have hw1 := Lib.hid (Co.mtW_succ hw.out (show N k 0 ≤ v k ∧ v k ≤ N k 1 by omega))
          have g2 : decide (N k 1 < v k) = false := decide_eq_false q2
          clear q1 q2
          go_wp2
          go_quiet (fail)
          go_wp2
          go_roundw
          case rel => exact ⟨k + 1, by omega, by go_num, hw1, bdnl (bal hB _) _⟩
          case measure => simp [intOf]; omega
    · obtain rfl : k = l := by omega
      go_wp2
      go_loopw [48] (fun i wr => ∃ j : Nat, j ≤ m ∧ i = .int .i64 j ∧ Hid (Co.mtS S v j = true) ∧ Below w.heap.size w wr) (fun i _ => m - (intOf i).toNat)
      case atStart => exact ⟨0, Nat.zero_le _, rfl, rfl, hB⟩
      case round =>
        clear hB
        rename_i wr
        obtain ⟨j, hj, rfl, hs, hB⟩ := hrel
        by_cases hlj : j < m
        · have hjk : j + 1 < k := by have := HM.out; omega
          obtain ⟨b, off, eA, hbl, u0, u1⟩ := (T.keep hB).at2 hlj
          obtain ⟨b2, off2, eE, hbl2, z0⟩ := (L.keep hB).at1 (show j < k by omega)
          obtain ⟨b4, off4, eE2, hbl4, z1⟩ := (L.keep hB).at1 hjk
          have HA := Lib.hid eA
          have HE := Lib.hid eE
          rw [HE.out] at eE2
          injection eE2 with eE2
          injection eE2 with eb eo
          subst eb eo
          rw [HA.out, HE.out]
          clear eA eE hbl4
          have w0 := Co.mtW_at hw.out (show j < k by omega)
          have w1 := Co.mtW_at hw.out hjk
          have a0 := O.w0 j (by omega)
          have a1 := O.w1 j (by omega)
          have a2 := O.w0 (j + 1) hjk
          have a3 := O.w1 (j + 1) hjk
          have c0 := O.s0 j hlj
          have c1 := O.s1 j hlj
          have q1 : IntKind.i64.wrap ((j : Int) + 1) = (j : Int) + 1 := IntWalk.i64_in _ (by omega)
          have q2 : IntKind.i64.wrap (v (j + 1) - v j) = v (j + 1) - v j := IntWalk.i64_in _ (by omega)
          have q3 : IntKind.i64.wrap (v j - v (j + 1)) = v j - v (j + 1) := IntWalk.i64_in _ (by omega)
          have i3 : (0 : Int) ≤ (j : Int) := by omega
          have i4 : (j : Int) < (k : Int) := by omega
          have i5 : (j : Int) < (m : Int) := by omega
          have i6 : (0 : Int) ≤ (j : Int) + 1 := by omega
          have i7 : (j : Int) + 1 < (k : Int) := by omega
          have n1 : ((j : Int) + 1).toNat = j + 1 := by omega
          by_cases p1 : S j 0 < v (j + 1) - v j
          · have e2 := Lib.hid (Co.mt_no_s (N := N) (m := m) (l := k) hjk (show ¬ (-S j 1 ≤ v (j + 1) - v j ∧ v (j + 1) - v j ≤ S j 0) by omega))
            have g1 : decide (S j 0 < v (j + 1) - v j) = true := decide_eq_true p1
            clear p1
            go_wp2
            go_quiet (fail)
            go_wp2
            go_ret
            exact ⟨ret_bool e2.out.symm, bdnl (bal hB _) _⟩
          · have g1 : decide (S j 0 < v (j + 1) - v j) = false := decide_eq_false p1
            by_cases p2 : S j 1 < v j - v (j + 1)
            · have e2 := Lib.hid (Co.mt_no_s (N := N) (m := m) (l := k) hjk (show ¬ (-S j 1 ≤ v (j + 1) - v j ∧ v (j + 1) - v j ≤ S j 0) by omega))
              have g2 : decide (S j 1 < v j - v (j + 1)) = true := decide_eq_true p2
              clear p1 p2
              go_wp2
              go_quiet (fail)
              go_wp2
              go_ret
              exact ⟨ret_bool e2.out.symm, bdnl (bal hB _) _⟩
            · have hs1 := Lib.hid (Co.mtS_succ hs.out (show -S j 1 ≤ v (j + 1) - v j ∧ v (j + 1) - v j ≤ S j 0 by omega))
              have g2 : decide (S j 1 < v j - v (j + 1)) = false := decide_eq_false p2
              clear p1 p2
              go_wp2
              go_quiet (fail)
              go_wp2
              go_roundw
              case rel => exact ⟨j + 1, by omega, by go_num, hs1, bdnl (bal hB _) _⟩
              case measure => simp [intOf]; omega
        · obtain rfl : j = m := by omega
          have e2 := Lib.hid (Co.mt_yes O hw.out (by rw [← HM.out]; exact hs.out))
          go_wp2
          go_ret
          exact ⟨ret_bool e2.out.symm, hB⟩
end Go.Proofs.Ytgfmheaijdcgoaa
