/-
  Contract: the reference's excess.
-/
import Derived.Test.YtgfmheaijdcgoaaW6
namespace Go.Proofs.Ytgfmheaijdcgoaa
set_option linter.unusedVariables false
set_option linter.unusedSimpArgs false
open Go.RowKit

set_option maxHeartbeats 2000000 in
theorem rex_c (A B : Option Addr) (n c m d i j : Nat) (N S : Nat → Nat → Int) (w : World) (R : Rd w 2 A n c (iv N)) (T : Rd w 2 B m d (iv S)) (O : Co.Ok n N m S) (hij : i ≤ j) (hj : j < n) :
    Calls Try.prog 30 #[.slice A n c, .slice B m d, .int .i64 i, .int .i64 j] w fun e w' => e = .returned (.int .i64 (Co.ex N S i j)) ∧ Below w.heap.size w w' := by
  have r1 := R.le
  have r2 := R.mx
  have t1 := T.le
  have t2 := T.mx
  have hn := O.hn
  have hm := O.hm
  obtain ⟨b, off, eA, hbl, u0, u1⟩ := R.at2 (show i < n by omega)
  obtain ⟨b2, off2, eA2, hbl2, v0, v1⟩ := R.at2 hj
  rw [eA] at eA2
  injection eA2 with eA2
  injection eA2 with eb eo
  subst eb eo eA
  clear hbl2
  have a0 := O.w0 i (by omega)
  have a1 := O.w1 i (by omega)
  have a2 := O.w0 j hj
  have a3 := O.w1 j hj
  have i1 : (0 : Int) ≤ (i : Int) := by omega
  have i2 : (i : Int) < (n : Int) := by omega
  have i3 : (0 : Int) ≤ (j : Int) := by omega
  have i4 : (j : Int) < (n : Int) := by omega
  have HM := Lib.hid hm
  clear hm
  by_cases hie : i = j
  · subst hie
    have e2 := Lib.hid (Co.ex_self N S i)
    have q : IntKind.i64.wrap (N i 0 - N i 1) = N i 0 - N i 1 := IntWalk.i64_in _ (by omega)
    go_enter Try.func30, Try.ntmps30
    go_wp2
    go_quiet (fail)
    go_wp2
    go_ret
    exact ⟨ret_int (by rw [e2.out]), bdn w _⟩
  · have hlt : i < j := by omega
    have hjm : j ≤ m := by have := HM.out; omega
    have g0 : ((i : Int) == (j : Int)) = false := by simp; omega
    by_cases p1 : N i 1 < N i 0
    · have e2 := Lib.hid (show Co.ex N S i j = 0 by unfold Co.ex; rw [if_neg hie, if_pos (Or.inl p1)])
      have g1 : decide (N i 1 < N i 0) = true := decide_eq_true p1
      clear p1
      go_enter Try.func30, Try.ntmps30
      go_wp2
      go_quiet (fail)
      go_wp2
      go_ret
      exact ⟨ret_int e2.out.symm, bdn w _⟩
    · have g1 : decide (N i 1 < N i 0) = false := decide_eq_false p1
      by_cases p2 : N j 1 < N j 0
      · have e2 := Lib.hid (show Co.ex N S i j = 0 by unfold Co.ex; rw [if_neg hie, if_pos (Or.inr p2)])
        have g2 : decide (N j 1 < N j 0) = true := decide_eq_true p2
        clear p1 p2
        go_enter Try.func30, Try.ntmps30
        go_wp2
        go_quiet (fail)
        go_wp2
        go_ret
        exact ⟨ret_int e2.out.symm, bdn w _⟩
      · have e2 := Lib.hid (show Co.ex N S i j = max (N j 0 - (N i 1 + Co.sm S 0 i (j - i))) (N i 0 - Co.sm S 1 i (j - i) - N j 1) by unfold Co.ex; rw [if_neg hie, if_neg (by omega)])
        have g2 : decide (N j 1 < N j 0) = false := decide_eq_false p2
        have b0 := Co.sm_bd O.s0 i (j - i) (by omega)
        have b1 := Co.sm_bd O.s1 i (j - i) (by omega)
        have hm63 : m ≤ 63 := by have := HM.out; omega
        clear p1 p2
        generalize hX : Co.sm S 0 i (j - i) = X at e2 b0
        generalize hY : Co.sm S 1 i (j - i) = Y at e2 b1
        have x1 : IntKind.i64.wrap (N i 1 + X) = N i 1 + X := IntWalk.i64_in _ (by omega)
        have x2 : IntKind.i64.wrap (N j 0 - (N i 1 + X)) = N j 0 - (N i 1 + X) := IntWalk.i64_in _ (by omega)
        have x3 : IntKind.i64.wrap (N i 0 - Y) = N i 0 - Y := IntWalk.i64_in _ (by omega)
        have x4 : IntKind.i64.wrap (N i 0 - Y - N j 1) = N i 0 - Y - N j 1 := IntWalk.i64_in _ (by omega)
        replace hX := Lib.hid hX
        replace hY := Lib.hid hY
        go_enter Try.func30, Try.ntmps30
        go_wp2
        go_quiet (fail)
        go_wp2_with fail
        generalize hW : World.drewN w _ = W0
        have hB : Below w.heap.size w W0 := by rw [← hW]; exact bdn w _
        clear hW
        have T0 := T.keep hB
        have hl0 : b < W0.heap.size := by have := hB.size; omega
        have u0' := ((bcell hB).1 b _ hbl).trans u0
        have u1' := ((bcell hB).1 b _ hbl).trans u1
        have v0' := ((bcell hB).1 b _ hbl).trans v0
        have v1' := ((bcell hB).1 b _ hbl).trans v1
        clear u0 u1 v0 v1 R T r1 r2 t1 t2
        have hreg : ∀ w', Below W0.heap.size W0 w' → Below W0.heap.size W0 w' ∧ w'.cell? ⟨b, off + i * 2, none⟩ = some (.int .i64 (N i 0)) ∧ w'.cell? ⟨b, off + i * 2 + 1, none⟩ = some (.int .i64 (N i 1)) ∧ w'.cell? ⟨b, off + j * 2, none⟩ = some (.int .i64 (N j 0)) ∧ w'.cell? ⟨b, off + j * 2 + 1, none⟩ = some (.int .i64 (N j 1)) :=
          fun w' h => ⟨h, ((bcell h).1 b _ hl0).trans u0', ((bcell h).1 b _ hl0).trans u1', ((bcell h).1 b _ hl0).trans v0', ((bcell h).1 b _ hl0).trans v1'⟩
        clear u0' u1' v0' v1'
        go_region_held3 (fun w' => Below W0.heap.size W0 w' ∧ w'.cell? ⟨b, off + i * 2, none⟩ = some (.int .i64 (N i 0)) ∧ w'.cell? ⟨b, off + i * 2 + 1, none⟩ = some (.int .i64 (N i 1)) ∧ w'.cell? ⟨b, off + j * 2, none⟩ = some (.int .i64 (N j 0)) ∧ w'.cell? ⟨b, off + j * 2 + 1, none⟩ = some (.int .i64 (N j 1))) (first | assumption | exact hreg _ (Below.refl _ _).drew | exact keepR hreg hbn (by assumption))
          (first | (go_at_call 31; refine (rise_c _ _ _ _ _ _ _ (keepRd T0 (by assumption)) (by omega) hjm hm63 O.s0 O.s1).mono ?_; rw [hX.out]; rintro e wn ⟨rfl, hbn⟩) | (go_at_call 32; refine (fall_c _ _ _ _ _ _ _ (keepRd T0 (by assumption)) (by omega) hjm hm63 O.s0 O.s1).mono ?_; rw [hY.out]; rintro e wn ⟨rfl, hbn⟩))
        all_goals
          rename_i hS
          replace hB := bt hB hS.1
          go_wp2
          all_goals
            go_ret
            exact ⟨ret_int (by rw [e2.out]; omega), hB⟩
end Go.Proofs.Ytgfmheaijdcgoaa
