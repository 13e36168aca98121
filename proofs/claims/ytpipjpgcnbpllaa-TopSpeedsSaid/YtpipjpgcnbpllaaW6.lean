/-
  Contract: the program's excess.
-/
import Derived.Test.YtpipjpgcnbpllaaW5
namespace Go.Proofs.Ytpipjpgcnbpllaa
set_option linter.unusedVariables false
set_option linter.unusedSimpArgs false
open Go.RowKit

set_option maxHeartbeats 2000000 in
theorem ex_c (A B : Option Addr) (n c m d i j : Nat) (N S : Nat → Nat → Int) (w : World) (R : Rd w 2 A n c (iv N)) (T : Rd w 2 B m d (iv S)) (O : Co.Ok n N m S) (hij : i ≤ j) (hj : j < n) :
    Calls Try.prog 17 #[.slice A n c, .slice B m d, .int .i64 i, .int .i64 j] w fun e w' => e = .returned (.int .i64 (Co.ex N S i j)) ∧ Below w.heap.size w w' := by
  have r1 := R.le
  have r2 := R.mx
  have t1 := T.le
  have t2 := T.mx
  have hn := O.hn
  have hm := O.hm
  obtain ⟨b, off, eA, hbl, u0, u1⟩ := R.at2 (show i < n by omega)
  obtain ⟨b2, off2, eA2, hbl2, v0, v1⟩ := R.at2 hj
  rw [eA] at eA2
  injection eA2 with eA2
  injection eA2 with eb eo
  subst eb eo eA
  clear hbl2
  have a0 := O.w0 i (by omega)
  have a1 := O.w1 i (by omega)
  have a2 := O.w0 j hj
  have a3 := O.w1 j hj
  have i1 : (0 : Int) ≤ (i : Int) := by omega
  have i2 : (i : Int) < (n : Int) := by omega
  have i3 : (0 : Int) ≤ (j : Int) := by omega
  have i4 : (j : Int) < (n : Int) := by omega
  have HM := Lib.hid hm
  clear hm
  by_cases hie : i = j
  · subst hie
    have e2 := Lib.hid (Co.ex_self N S i)
    have q : IntKind.i64.wrap (N i 0 - N i 1) = N i 0 - N i 1 := IntWalk.i64_in _ (by omega)
    go_enter Try.func17, Try.ntmps17
    go_wp2
    go_region
    all_goals
      go_wp2
      go_ret
      exact ⟨ret_int (by rw [e2.out]), by repeat (first | exact Below.refl _ _ | (with_reducible assumption) | (with_reducible apply bal) | (with_reducible apply bdr) | (with_reducible apply bdnl) | (with_reducible refine bst ?_ (by first | (simp; done) | (simp; omega) | omega) _) | (with_reducible refine bt ?_ (by with_reducible assumption)))⟩
  · have hlt : i < j := by omega
    have hjm : j ≤ m := by have := HM.out; omega
    by_cases p1 : N i 1 < N i 0
    · have e2 := Lib.hid (show Co.ex N S i j = 0 by unfold Co.ex; rw [if_neg hie, if_pos (Or.inl p1)])
      have g0 : ((i : Int) == (j : Int)) = false := by simp; omega
      go_enter Try.func17, Try.ntmps17
      go_wp2
      go_region
      all_goals
        go_wp2
        go_ret
        exact ⟨ret_int e2.out.symm, by repeat (first | exact Below.refl _ _ | (with_reducible assumption) | (with_reducible apply bal) | (with_reducible apply bdr) | (with_reducible apply bdnl) | (with_reducible refine bst ?_ (by first | (simp; done) | (simp; omega) | omega) _) | (with_reducible refine bt ?_ (by with_reducible assumption)))⟩
    · by_cases p2 : N j 1 < N j 0
      · have e2 := Lib.hid (show Co.ex N S i j = 0 by unfold Co.ex; rw [if_neg hie, if_pos (Or.inr p2)])
        have g0 : ((i : Int) == (j : Int)) = false := by simp; omega
        have p3 : N i 0 ≤ N i 1 := by omega
        clear p1
        go_enter Try.func17, Try.ntmps17
        go_wp2
        go_region
        all_goals
          go_wp2
          go_ret
          exact ⟨ret_int e2.out.symm, by repeat (first | exact Below.refl _ _ | (with_reducible assumption) | (with_reducible apply bal) | (with_reducible apply bdr) | (with_reducible apply bdnl) | (with_reducible refine bst ?_ (by first | (simp; done) | (simp; omega) | omega) _) | (with_reducible refine bt ?_ (by with_reducible assumption)))⟩
      · have e2 := Lib.hid (show Co.ex N S i j = max (N j 0 - (N i 1 + Co.sm S 0 i (j - i))) (N i 0 - Co.sm S 1 i (j - i) - N j 1) by unfold Co.ex; rw [if_neg hie, if_neg (by omega)])
        have g0 : ((i : Int) == (j : Int)) = false := by simp; omega
        have p3 : N i 0 ≤ N i 1 := by omega
        have p4 : N j 0 ≤ N j 1 := by omega
        have b0 := Co.sm_bd O.s0 i (j - i) (by omega)
        have b1 := Co.sm_bd O.s1 i (j - i) (by omega)
        have hm63 : m ≤ 63 := by have := HM.out; omega
        clear p1 p2
        go_enter Try.func17, Try.ntmps17
        go_wp2
        go_region
        all_goals
          go_wp2_with fail
          refine (between_c _ _ _ _ _ _ _ (Rd.keep T (by repeat (first | exact Below.refl _ _ | (with_reducible assumption) | (with_reducible apply bal) | (with_reducible apply bdr) | (with_reducible apply bdnl) | (with_reducible refine bst ?_ (by first | (simp; done) | (simp; omega) | omega) _) | (with_reducible refine bt ?_ (by with_reducible assumption))))) (by omega) hjm hm63 O.s0 O.s1).mono ?_
          rintro e w1 ⟨rfl, hb⟩
          obtain ⟨hc, hf⟩ := bcell hb
          have hz : w.heap.size + 1 < w1.heap.size := by have := hb.size; simp at this; omega
          go_wp2_with fail
          all_goals
            go_ret
            exact ⟨ret_int (by rw [e2.out]; omega), by repeat (first | exact Below.refl _ _ | (with_reducible assumption) | (with_reducible apply bal) | (with_reducible apply bdr) | (with_reducible apply bdnl) | (with_reducible refine bst ?_ (by first | (simp; done) | (simp; omega) | omega) _) | (with_reducible refine bt ?_ (by with_reducible assumption)))⟩
end Go.Proofs.Ytpipjpgcnbpllaa
