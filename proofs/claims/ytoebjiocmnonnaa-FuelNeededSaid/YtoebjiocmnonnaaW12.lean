/-
  The statement Adds.
-/
import Derived.Test.YtoebjiocmnonnaaW11
namespace Go.Proofs.Ytoebjiocmnonnaa
set_option linter.unusedVariables false
open Go.RowKit

theorem bsl {w w1 : World} (h : Below w.heap.size w w1) {p : Addr} (hp : w.heap.size ≤ p.block) (v : Value) : Below w.heap.size w (w1.setCell p v) := h.setCell hp v
theorem adds_fin {E L R C x y : Int} (h : Fu.burnE E L R C x y = 0) : Fu.ok E L R (C + x * y) := Fu.ok_after h

set_option maxRecDepth 100000 in
set_option maxHeartbeats 8000000 in
theorem law_adds (E L R B : Int) (A : Option Addr) (n cA : Nat) (N : Nat → Nat → Int) (w : World) (hn : n ≤ 9223372036854775807)
    (hA : 0 < n → ∃ b off : Nat, A = some ⟨b, off, none⟩ ∧ b < w.heap.size ∧ ∀ i j k, i < n → [IntKind.i64, IntKind.i64][j]? = some k → w.cell? ⟨b, off + (i * ([IntKind.i64].length + 1) + j), none⟩ = some (.int k (N i j))) :
    Calls Try.prog 10 #[.agg #[.int .i64 E, .int .i64 L, .int .i64 R, .int .i64 B], .slice A n cA] w fun e w' => e = .returned (.bool true) ∧ Below w.heap.size w w' := by
  have HA := Lib.hid hA
  clear hA
  have s0 := Fu.sel0
  have s2 := Fu.sel2
  have s15 := Fu.sel15
  by_cases hok : Fu.ok E L R B
  rotate_left
  · have hk := Fu.ck_no hok
    have hb := Fu.burn_1 hok (f := 1) (t := 1)
    clear hok
    go_enter Try.func10, Try.ntmps10
    go_wp2_with fail
    refine (awake_c _).mono ?_
    rintro e w1 ⟨rfl, hb1⟩
    have AA := (Blk.new w _ _).keep hb1
    obtain ⟨a0, a1, a2, a3, a4, a5⟩ := AA.open4
    go_wp2_with fail
    refine (check_c _ _ _ _ _).mono ?_
    rintro e w2 ⟨rfl, hb2⟩
    clear a0 a1 a2 a3 a4 a5
    replace AA := AA.keep hb2
    obtain ⟨a0, a1, a2, a3, a4, a5⟩ := AA.open4
    go_wp2_with fail
    refine (burn_c _ _ _ _ _ _ _).mono ?_
    rintro e w3 ⟨rfl, hb3⟩
    go_wp2_with fail
    go_ret
    exact ⟨rfl, bal (bt (bt (bt (ba w _) hb1) hb2) hb3) _⟩
  have hk := Fu.ck_yes hok
  have HOK := Lib.hid hok
  clear hok
  go_enter Try.func10, Try.ntmps10
  go_wp2_with fail
  refine (awake_c _).mono ?_
  rintro e w1 ⟨rfl, hb1⟩
  have AA := (Blk.new w _ _).keep hb1
  obtain ⟨a0, a1, a2, a3, a4, a5⟩ := AA.open4
  go_wp2_with fail
  refine (check_c _ _ _ _ _).mono ?_
  rintro e w2 ⟨rfl, hb2⟩
  have hB := bt (bt (ba w _) hb1) hb2
  clear a0 a1 a2 a3 a4 a5
  replace AA := AA.keep hb2
  go_wp2_with fail
  clear hk
  go_loopw [25] (fun i wr => ∃ (k : Nat) (C : Int), k ≤ n ∧ i = .int .i64 k ∧ Hid (Fu.ok E L R C) ∧ Blk wr w.heap.size 23 #[.int .i64 E, .int .i64 L, .int .i64 R, .int .i64 C] ∧ Below w.heap.size w wr) (fun i _ => n - (intOf i).toNat)
  case atStart => exact ⟨0, B, Nat.zero_le _, rfl, HOK, AA, hB⟩
  case round =>
    clear AA hB hb2 hb1 HOK
    rename_i wr
    obtain ⟨k, C, hkn, rfl, hok, AA, hB⟩ := hrel
    by_cases hlt : k < n
    rotate_left
    · obtain rfl : k = n := by omega
      have hk := Fu.ck_yes hok.out
      have hlf : Fu.lf E L R C = L - C := by unfold Fu.lf; rw [hk]; rfl
      have hms : Fu.ms E L R C = E + (L - C) := by unfold Fu.ms; rw [hk]; rfl
      obtain ⟨o1, o2, o3, o4, o5, o6, o7, o8⟩ := hok.out
      have hw1 : IntKind.i64.wrap (E + (L - C)) = E + (L - C) := IntWalk.i64_in _ (by omega)
      have hd1 : decide (0 ≤ L - C) = true := decide_eq_true (by omega)
      obtain ⟨a0, a1, a2, a3, a4, a5⟩ := AA.open4
      go_wp2_with fail
      generalize wr = W0 at AA hB ⊢
      have hreg : ∀ w', Below W0.heap.size W0 w' → Below W0.heap.size W0 w' ∧ w'.cell? ⟨w.heap.size, 0, none⟩ = some (.int .i64 E) ∧ w'.cell? ⟨w.heap.size, 1, none⟩ = some (.int .i64 L) ∧ w'.cell? ⟨w.heap.size, 2, none⟩ = some (.int .i64 R) ∧ w'.cell? ⟨w.heap.size, 3, none⟩ = some (.int .i64 C) := fun w' h => ⟨h, (AA.keep h).cell 0, (AA.keep h).cell 1, (AA.keep h).cell 2, (AA.keep h).cell 3⟩
      go_region_held3 (fun w' => Below W0.heap.size W0 w' ∧ w'.cell? ⟨w.heap.size, 0, none⟩ = some (.int .i64 E) ∧ w'.cell? ⟨w.heap.size, 1, none⟩ = some (.int .i64 L) ∧ w'.cell? ⟨w.heap.size, 2, none⟩ = some (.int .i64 R) ∧ w'.cell? ⟨w.heap.size, 3, none⟩ = some (.int .i64 C)) (first | exact hreg _ (Below.refl _ _).drew | exact keepR hreg hbn (by assumption)) (first | (go_at_call 24; refine (check_c _ _ _ _ _).mono ?_; rintro e wn ⟨rfl, hbn⟩) | (go_at_call 22; refine (left_c _ _ _ _ _).mono ?_; rintro e wn ⟨rfl, hbn⟩) | (go_at_call 27; refine (mass_c _ _ _ _ _).mono ?_; rintro e wn ⟨rfl, hbn⟩))
      go_wp2
      go_ret
      rename_i h
      exact ⟨rfl, bt hB h.1⟩
    obtain ⟨b, off, eA, hbl, hc⟩ := HA.out (by omega)
    have u0 : wr.cell? ⟨b, off + k * 2, none⟩ = some (.int .i64 (N k 0)) := ((bcell hB).1 _ _ hbl).trans (by simpa using hc k 0 .i64 hlt rfl)
    have u1 : wr.cell? ⟨b, off + k * 2 + 1, none⟩ = some (.int .i64 (N k 1)) := ((bcell hB).1 _ _ hbl).trans (by have := hc k 1 .i64 hlt rfl; simpa [Nat.add_assoc] using this)
    rw [eA]
    clear eA hc
    generalize hx : N k 0 = x at u0
    generalize hy : N k 1 = y at u1
    clear hx hy
    by_cases h50 : 50 ≤ k
    · skip
      have hk := Fu.ck_yes hok.out
      have hlf : Fu.lf E L R C = L - C := by unfold Fu.lf; rw [hk]; rfl
      have hms : Fu.ms E L R C = E + (L - C) := by unfold Fu.ms; rw [hk]; rfl
      obtain ⟨o1, o2, o3, o4, o5, o6, o7, o8⟩ := hok.out
      have hw1 : IntKind.i64.wrap (E + (L - C)) = E + (L - C) := IntWalk.i64_in _ (by omega)
      have hd1 : decide (0 ≤ L - C) = true := decide_eq_true (by omega)
      replace hB := bal hB (.cells #[.int .i64 x, .int .i64 y] 47)
      replace AA := AA.alloc (.cells #[.int .i64 x, .int .i64 y] 47)
      go_wp2_with fail
      generalize wr.alloc _ = W0 at AA hB ⊢
      have hreg : ∀ w', Below W0.heap.size W0 w' → Below W0.heap.size W0 w' ∧ w'.cell? ⟨w.heap.size, 0, none⟩ = some (.int .i64 E) ∧ w'.cell? ⟨w.heap.size, 1, none⟩ = some (.int .i64 L) ∧ w'.cell? ⟨w.heap.size, 2, none⟩ = some (.int .i64 R) ∧ w'.cell? ⟨w.heap.size, 3, none⟩ = some (.int .i64 C) := fun w' h => ⟨h, (AA.keep h).cell 0, (AA.keep h).cell 1, (AA.keep h).cell 2, (AA.keep h).cell 3⟩
      go_region_held3 (fun w' => Below W0.heap.size W0 w' ∧ w'.cell? ⟨w.heap.size, 0, none⟩ = some (.int .i64 E) ∧ w'.cell? ⟨w.heap.size, 1, none⟩ = some (.int .i64 L) ∧ w'.cell? ⟨w.heap.size, 2, none⟩ = some (.int .i64 R) ∧ w'.cell? ⟨w.heap.size, 3, none⟩ = some (.int .i64 C)) (first | exact hreg _ (Below.refl _ _).drew | exact keepR hreg hbn (by assumption)) (first | (go_at_call 24; refine (check_c _ _ _ _ _).mono ?_; rintro e wn ⟨rfl, hbn⟩) | (go_at_call 22; refine (left_c _ _ _ _ _).mono ?_; rintro e wn ⟨rfl, hbn⟩) | (go_at_call 27; refine (mass_c _ _ _ _ _).mono ?_; rintro e wn ⟨rfl, hbn⟩))
      go_wp2
      go_ret
      rename_i h
      exact ⟨rfl, bt hB h.1⟩
    obtain ⟨a0, a1, a2, a3, a4, a5⟩ := AA.open4
    rcases Fu.burn_cases E L R C x y with hc | hc | hc
    rotate_left
    iterate 2
      go_wp2_with fail
      refine (burn_c _ _ _ _ _ _ _).mono ?_
      rintro e w4 ⟨rfl, hb4⟩
      clear a0 a1 a2 a3 a4 a5
      have AN := ((AA.alloc _).keep hb4).alloc (.cells #[.int .i64 0, .int .i64 0, .int .i64 0, .int .i64 0] 23)
      have hN := bal (bt (bal hB _) hb4) (.cells #[.int .i64 0, .int .i64 0, .int .i64 0, .int .i64 0] 23)
      go_wp2_with fail
      go_roundw
      case rel => exact ⟨k + 1, C, by omega, by go_num, hok, AN, hN⟩
      case measure => simp [intOf]; omega
    go_wp2_with fail
    refine (burn_c _ _ _ _ _ _ _).mono ?_
    rintro e w4 ⟨rfl, hb4⟩
    clear a0 a1 a2 a3 a4 a5
    obtain ⟨hok1, hi, hle⟩ := Fu.burn_zero hc
    have hokN := Fu.ok_after hc
    have HN := Lib.hid hokN
    have hk0 := Fu.ck_yes hok1
    have hk := Fu.ck_yes hokN
    have hlf : Fu.lf E L R (C + x * y) = L - (C + x * y) := by unfold Fu.lf; rw [hk]; rfl
    have hms : Fu.ms E L R (C + x * y) = E + (L - (C + x * y)) := by unfold Fu.ms; rw [hk]; rfl
    have hms0 : Fu.ms E L R C = E + (L - C) := by unfold Fu.ms; rw [hk0]; rfl
    obtain ⟨m1, m2⟩ := Fu.mul_bd hi
    obtain ⟨o1, o2, o3, o4, o5, o6, o7, o8⟩ := hok1
    clear hokN hi
    have hw1 : IntKind.i64.wrap (C + x * y - C) = x * y := by rw [IntWalk.i64_in _ (by omega)]; omega
    have hw2 : IntKind.i64.wrap (x * y) = x * y := IntWalk.i64_in _ (by omega)
    have hw3 : IntKind.i64.wrap (C + x * y + (L - (C + x * y))) = L := by rw [IntWalk.i64_in _ (by omega)]; omega
    have hw4 : IntKind.i64.wrap (E + (L - C) - (E + (L - (C + x * y)))) = x * y := by rw [IntWalk.i64_in _ (by omega)]; omega
    have AX := ((AA.alloc _).keep hb4).alloc (.cells #[.int .i64 E, .int .i64 L, .int .i64 R, .int .i64 (C + x * y)] 23)
    have BX := Blk.new w4 23 #[.int .i64 E, .int .i64 L, .int .i64 R, .int .i64 (C + x * y)]
    have UX := ((Blk.new wr 47 #[.int .i64 x, .int .i64 y]).keep hb4).alloc (.cells #[.int .i64 E, .int .i64 L, .int .i64 R, .int .i64 (C + x * y)] 23)
    have hX := bal (bt (bal hB _) hb4) (.cells #[.int .i64 E, .int .i64 L, .int .i64 R, .int .i64 (C + x * y)] 23)
    go_wp2_with fail
    generalize w4.alloc _ = W0 at AX BX UX hX ⊢
    have hreg : ∀ w', Below W0.heap.size W0 w' → Below W0.heap.size W0 w' ∧ w'.cell? ⟨w.heap.size, 0, none⟩ = some (.int .i64 E) ∧ w'.cell? ⟨w.heap.size, 1, none⟩ = some (.int .i64 L) ∧ w'.cell? ⟨w.heap.size, 2, none⟩ = some (.int .i64 R) ∧ w'.cell? ⟨w.heap.size, 3, none⟩ = some (.int .i64 C) ∧ w'.cell? ⟨w4.heap.size, 0, none⟩ = some (.int .i64 E) ∧ w'.cell? ⟨w4.heap.size, 1, none⟩ = some (.int .i64 L) ∧ w'.cell? ⟨w4.heap.size, 2, none⟩ = some (.int .i64 R) ∧ w'.cell? ⟨w4.heap.size, 3, none⟩ = some (.int .i64 (C + x * y)) ∧ w'.cell? ⟨wr.heap.size, 0, none⟩ = some (.int .i64 x) ∧ w'.cell? ⟨wr.heap.size, 1, none⟩ = some (.int .i64 y) := fun w' h => ⟨h, (AX.keep h).cell 0, (AX.keep h).cell 1, (AX.keep h).cell 2, (AX.keep h).cell 3, (BX.keep h).cell 0, (BX.keep h).cell 1, (BX.keep h).cell 2, (BX.keep h).cell 3, (UX.keep h).cell 0, (UX.keep h).cell 1⟩
    go_region_held3 (fun w' => Below W0.heap.size W0 w' ∧ w'.cell? ⟨w.heap.size, 0, none⟩ = some (.int .i64 E) ∧ w'.cell? ⟨w.heap.size, 1, none⟩ = some (.int .i64 L) ∧ w'.cell? ⟨w.heap.size, 2, none⟩ = some (.int .i64 R) ∧ w'.cell? ⟨w.heap.size, 3, none⟩ = some (.int .i64 C) ∧ w'.cell? ⟨w4.heap.size, 0, none⟩ = some (.int .i64 E) ∧ w'.cell? ⟨w4.heap.size, 1, none⟩ = some (.int .i64 L) ∧ w'.cell? ⟨w4.heap.size, 2, none⟩ = some (.int .i64 R) ∧ w'.cell? ⟨w4.heap.size, 3, none⟩ = some (.int .i64 (C + x * y)) ∧ w'.cell? ⟨wr.heap.size, 0, none⟩ = some (.int .i64 x) ∧ w'.cell? ⟨wr.heap.size, 1, none⟩ = some (.int .i64 y)) (first | exact hreg _ (Below.refl _ _).drew | exact keepR hreg hbn (by assumption)) (first | (go_at_call 24; refine (check_c _ _ _ _ _).mono ?_; rintro e wn ⟨rfl, hbn⟩) | (go_at_call 22; refine (left_c _ _ _ _ _).mono ?_; rintro e wn ⟨rfl, hbn⟩) | (go_at_call 27; refine (mass_c _ _ _ _ _).mono ?_; rintro e wn ⟨rfl, hbn⟩))
    rename_i hS
    have q0 := hS.1
    clear hS
    have AZ := AX.keep q0
    have BZ := BX.keep q0
    obtain ⟨a0, a1, a2, a3, a4, a5⟩ := AZ.open4
    obtain ⟨b0, b1, b2, b3, b4, b5⟩ := BZ.open4
    have hY := bt hX q0
    clear hw1 hw2 hw3 hw4 hreg
    go_wp2
    go_roundw
    case rel => exact ⟨k + 1, C + x * y, by omega, by go_num, HN, by simpa using (((AZ.set_ 0 (.int .i64 E)).set_ 1 (.int .i64 L)).set_ 2 (.int .i64 R)).set_ 3 (.int .i64 (C + x * y)), bsl (bsl (bsl (bsl hY (Nat.le_refl _) _) (Nat.le_refl _) _) (Nat.le_refl _) _) (Nat.le_refl _) _⟩
    case measure => simp [intOf]; omega

end Go.Proofs.Ytoebjiocmnonnaa
