/-
  Contract: the program's Meets.
-/
import Derived.Test.YtgfmheaijdcgoaaW2
namespace Go.Proofs.Ytgfmheaijdcgoaa
set_option linter.unusedVariables false
set_option linter.unusedSimpArgs false
open Go.RowKit

set_option maxHeartbeats 4000000 in
theorem meets_c (A B E : Option Addr) (n c m d l f : Nat) (N S : Nat → Nat → Int) (v : Nat → Int) (w : World) (R : Rd w 2 A n c (iv N)) (T : Rd w 2 B m d (iv S)) (L : Rd w 1 E l f (nv v)) :
    Calls Try.prog 15 #[.slice A n c, .slice B m d, .slice E l f] w fun e w' => e = .returned (.bool (Co.mt n N m S l v)) ∧ Below w.heap.size w w' := by
  have r1 := R.le
  have r2 := R.mx
  have t1 := T.le
  have t2 := T.mx
  have l1 := L.le
  have l2 := L.mx
  by_cases hck : Co.ck n N m S = 0
  rotate_left
  · have e2 := Lib.hid (Co.mt_no_c (v := v) (l := l) hck)
    have h3 : (Co.ck n N m S != 0) = true := by simpa using hck
    clear hck
    go_enter Try.func15, Try.ntmps15
    go_wp2_with fail
    refine (check_c _ _ _ _ _ _ _ _ _ R T).mono ?_
    rintro e w1 ⟨rfl, hb⟩
    go_wp2
    go_ret
    exact ⟨ret_bool e2.out.symm, hb⟩
  have O := Co.ck_ok.1 hck
  have hn := O.hn
  have HM := Lib.hid O.hm
  by_cases hl : l = n
  rotate_left
  · have e2 := Lib.hid (Co.mt_no_l (N := N) (S := S) (m := m) (v := v) hl)
    have h4 : ((l : Int) != (n : Int)) = true := by simp; omega
    have hc := Lib.hid hck
    clear hck hl O
    go_enter Try.func15, Try.ntmps15
    go_wp2_with fail
    refine (check_c _ _ _ _ _ _ _ _ _ R T).mono ?_
    rw [hc.out]
    rintro e w1 ⟨rfl, hb⟩
    go_wp2
    go_ret
    exact ⟨ret_bool e2.out.symm, hb⟩
  subst hl
  have hc := Lib.hid hck
  clear hck
  go_enter Try.func15, Try.ntmps15
  go_wp2_with fail
  refine (check_c _ _ _ _ _ _ _ _ _ R T).mono ?_
  rw [hc.out]
  rintro e w1 ⟨rfl, hb⟩
  go_wp2
  go_loopw [22] (fun i wr => ∃ k : Nat, k ≤ l ∧ i = .int .i64 k ∧ Hid (Co.mtW N v k = true) ∧ Hid (Co.mtS S v (k - 1) = true) ∧ Below w.heap.size w wr) (fun i _ => l - (intOf i).toNat)
  case atStart => exact ⟨0, Nat.zero_le _, rfl, rfl, rfl, hb⟩
  case round =>
    clear hb
    rename_i wr
    obtain ⟨k, hk, rfl, hw, hs, hB⟩ := hrel
    by_cases hlt : k < l
    rotate_left
    · obtain rfl : k = l := by omega
      have e2 := Lib.hid (Co.mt_yes O hw.out hs.out)
      go_wp2
      go_ret
      exact ⟨ret_bool e2.out.symm, hB⟩
    · obtain ⟨b, off, eA, hbl, u0, u1⟩ := (R.keep hB).at2 hlt
      obtain ⟨b2, off2, eE, hbl2, z0⟩ := (L.keep hB).at1 hlt
      have HA := Lib.hid eA
      have HE := Lib.hid eE
      rw [HA.out, HE.out]
      clear eA eE
      have i1 : (0 : Int) ≤ (k : Int) := by omega
      have i2 : (k : Int) < (l : Int) := by omega
      rcases hx : Co.wi (v k) (N k 0) (N k 1) with _ | _
      · have e2 := Lib.hid (Co.mt_no_w (S := S) (m := m) (l := l) hlt hx)
        go_wp2
        go_quiet ((go_at_call 28; exact quiet_left' (within_c _ _ _ _)))
        go_wp2
        go_ret
        exact ⟨ret_bool e2.out.symm, bdnl (bal hB _) _⟩
      · have hx2 := Co.wi_true.1 hx
        have hw1 := Lib.hid (Co.mtW_succ hw.out hx2)
        have b0 := O.w0 k hlt
        have b1 := O.w1 k hlt
        go_wp2
        go_quiet ((go_at_call 28; exact quiet_left' (within_c _ _ _ _)))
        by_cases h0 : k = 0
        · subst h0
          have g0 : decide ((0 : Int) < ((0 : Nat) : Int)) = false := rfl
          go_wp2
          go_quiet (fail)
          go_wp2
          go_roundw
          case rel => exact ⟨1, by omega, by go_num, hw1, hs, bdnl (bal hB _) _⟩
          case measure => simp [intOf]; omega
        · obtain ⟨j, ej⟩ : ∃ j, k = j + 1 := ⟨k - 1, by omega⟩
          subst ej
          have hj : j < m := by rw [HM.out]; omega
          obtain ⟨b3, off3, eB, hbl3, y0, y1⟩ := (T.keep hB).at2 hj
          obtain ⟨b4, off4, eE, hbl4, z1⟩ := (L.keep hB).at1 (show j < l by omega)
          rw [HE.out] at eE
          injection eE with eE
          injection eE with eb eo
          subst eb eo
          have HB := Lib.hid eB
          rw [HB.out]
          clear eB hbl4
          have hwj := Co.mtW_at hw.out (show j < j + 1 by omega)
          have a0 := O.w0 j (by omega)
          have a1 := O.w1 j (by omega)
          have c0 := O.s0 j hj
          have c1 := O.s1 j hj
          have q1 : IntKind.i64.wrap (j : Int) = (j : Int) := IntWalk.i64_in _ (by omega)
          have q2 : IntKind.i64.wrap (v (j + 1) - v j) = v (j + 1) - v j := IntWalk.i64_in _ (by omega)
          have q3 : IntKind.i64.wrap (-S j 1) = -S j 1 := IntWalk.i64_in _ (by omega)
          have i3 : (0 : Int) ≤ (j : Int) := by omega
          have i6 : (0 : Int) ≤ (j : Int) + 1 := by omega
          have i7 : (j : Int) + 1 < (l : Int) := by omega
          have n1 : ((j : Int) + 1).toNat = j + 1 := by omega
          have i4 : (j : Int) < (l : Int) := by omega
          have i5 : (j : Int) < (m : Int) := by omega
          have g0 : decide ((0 : Int) < (j : Int) + 1) = true := decide_eq_true (by omega)
          rcases hy : Co.wi (v (j + 1) - v j) (-S j 1) (S j 0) with _ | _
          · have e2 := Lib.hid (Co.mt_no_s (N := N) (m := m) (l := l) hlt (Co.wi_false.1 hy))
            go_wp2
            go_quiet ((go_at_call 28; exact quiet_add' (within_c _ _ _ _)))
            go_wp2
            go_ret
            exact ⟨ret_bool e2.out.symm, bdnl (bdnl (bal hB _) _) _⟩
          · have hs1 := Lib.hid (Co.mtS_succ hs.out (Co.wi_true.1 hy))
            go_wp2
            go_quiet ((go_at_call 28; exact quiet_add' (within_c _ _ _ _)))
            go_wp2
            rw [← HB.out]
            go_roundw
            case rel => exact ⟨j + 1 + 1, by omega, by go_num, hw1, hs1, bdnl (bal hB _) _⟩
            case measure => simp [intOf]; omega
end Go.Proofs.Ytgfmheaijdcgoaa
