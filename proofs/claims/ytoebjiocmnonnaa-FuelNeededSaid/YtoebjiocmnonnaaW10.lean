/-
  The statements Intervals, Encloses.
-/
import Derived.Test.YtoebjiocmnonnaaW8
import Derived.Test.YtoebjiocmnonnaaPlain2
namespace Go.Proofs.Ytoebjiocmnonnaa
set_option linter.unusedVariables false
open Go.RowKit

theorem RdI.keep {w w' : World} {A : Option Addr} {xs : List Int} (h : RdI w A xs) (hb : Below w.heap.size w w') : RdI w' A xs := by
  rcases h with h | ⟨b, off, e, hc⟩
  · exact Or.inl h
  · by_cases h0 : xs = []
    · exact Or.inl h0
    · have hp : 0 < xs.length := List.length_pos_iff.2 h0
      have hl := World.block_lt_of_cell? w _ (hc 0 hp)
      exact Or.inr ⟨b, off, e, fun k hk => ((bcell hb).1 _ _ hl).trans (hc k hk)⟩
theorem bdnl {w w1 : World} (h : Below w.heap.size w w1) (n : Nat) : Below w.heap.size w (w1.drewN n) := ⟨h.os, h.tape, h.output, h.size, h.block⟩
theorem six_cells {w : World} {g : Nat} {t : TypeId} {a b c d e f : Value} (h : Blk w g t #[a, b, c, d, e, f]) : w.cell? ⟨g, 0, none⟩ = some a ∧ w.cell? ⟨g, 1, none⟩ = some b ∧ w.cell? ⟨g, 2, none⟩ = some c ∧ w.cell? ⟨g, 3, none⟩ = some d ∧ w.cell? ⟨g, 4, none⟩ = some e ∧ w.cell? ⟨g, 5, none⟩ = some f ∧ g < w.heap.size :=
  ⟨h.cell 0, h.cell 1, h.cell 2, h.cell 3, h.cell 4, h.cell 5, h.lt⟩
theorem encl {l0 l1 f0 f1 t0 t1 a b c : Int} (h : Fu.biE l0 l1 f0 f1 t0 t1 = 0) (h1 : l0 ≤ a) (h2 : a ≤ l1) (h3 : f0 ≤ b) (h4 : b ≤ f1) (h5 : t0 ≤ c) (h6 : c ≤ t1) :
    0 ≤ l0 - f1 * t1 ∧ l0 - f1 * t1 ≤ a - b * c ∧ a - b * c ≤ l1 - f0 * t0 ∧ 0 ≤ b * c ∧ b * c ≤ 54975581388800000 ∧ a ≤ 3000000000 ∧ 0 ≤ a := by
  unfold Fu.biE at h
  split at h
  · omega
  · split at h
    · omega
    · split at h
      · omega
      · rename_i g1 g2 g3
        have i : Fu.inB b c := ⟨by omega, by omega, by omega, by omega⟩
        have m := Fu.mul_bd i
        have p : b * c ≤ f1 * t1 := Int.mul_le_mul h4 h6 (by omega) (by omega)
        have q : f0 * t0 ≤ b * c := Int.mul_le_mul h3 h5 (by omega) (by omega)
        omega
theorem bi_cases (l0 l1 f0 f1 t0 t1 : Int) : Fu.biE l0 l1 f0 f1 t0 t1 = 0 ∨ Fu.biE l0 l1 f0 f1 t0 t1 = 1 ∨ Fu.biE l0 l1 f0 f1 t0 t1 = 2 ∨ Fu.biE l0 l1 f0 f1 t0 t1 = 15 := by
  unfold Fu.biE; repeat' split
  all_goals omega

set_option maxHeartbeats 4000000 in
theorem law_intervals (l0 l1 f0 f1 t0 t1 : Int) (A D : Option Addr) (cA cD : Nat) (xs ys : List Int) (w : World) (hA : RdI w A xs) (hD : RdI w D ys) (hxl : xs.length ≤ 9223372036854775807) (hyl : ys.length ≤ 9223372036854775807) :
    Calls Try.prog 4 #[.agg #[.int .i64 l0, .int .i64 l1, .int .i64 f0, .int .i64 f1, .int .i64 t0, .int .i64 t1], .slice A xs.length cA, .slice D ys.length cD] w fun e w' => e = .returned (.bool true) ∧ Below w.heap.size w w' := by
  have HA := Lib.hid hA
  have HD := Lib.hid hD
  have HX := Lib.hid hxl
  have HY := Lib.hid hyl
  clear hA hD hxl hyl
  go_enter Try.func4, Try.ntmps4
  go_wp2_with fail
  refine (awake_c _).mono ?_
  rintro e w1 ⟨rfl, hb1⟩
  have X := (Blk.new w _ _).keep hb1
  obtain ⟨x0, x1, x2, x3, x4, x5, x6⟩ := six_cells X
  go_wp2_with fail
  refine (burnin_c _ _ _ _ _ _ _).mono ?_
  rintro e w2 ⟨rfl, hb2⟩
  have h2 := bt (bt (ba w _) hb1) hb2
  clear x0 x1 x2 x3 x4 x5 x6
  replace X := X.keep hb2
  obtain ⟨x0, x1, x2, x3, x4, x5, x6⟩ := six_cells X
  go_wp2_with fail
  refine (rburnin_c _ _ _ _ _ _ _).mono ?_
  rintro e w3 ⟨rfl, hb3⟩
  have h3 := bt (bal h2 _) hb3
  have Y := (Blk.new w2 _ _).keep hb3
  clear x0 x1 x2 x3 x4 x5 x6
  replace X := (X.alloc _).keep hb3
  obtain ⟨x0, x1, x2, x3, x4, x5, x6⟩ := six_cells X
  go_wp2_with fail
  refine (needed_c _ _ _ _ _ _ _ _ (HA.out.keep (bal h3 _)) (HD.out.keep (bal h3 _)) HX.out HY.out).mono ?_
  rintro e w4 ⟨rfl, hb4⟩
  have h4 := bt (bal h3 _) hb4
  have Z := (Blk.new w3 _ _).keep hb4
  replace Y := (Y.alloc _).keep hb4
  clear x0 x1 x2 x3 x4 x5 x6
  replace X := (X.alloc _).keep hb4
  obtain ⟨x0, x1, x2, x3, x4, x5, x6⟩ := six_cells X
  go_wp2_with fail
  refine (rneeded_c _ _ _ _ _ _ _ _ (HA.out.keep h4) (HD.out.keep h4) HX.out HY.out).mono ?_
  rintro e w5 ⟨rfl, hb5⟩
  have h5 := bt h4 hb5
  replace Y := Y.keep hb5
  replace Z := Z.keep hb5
  clear x0 x1 x2 x3 x4 x5 x6
  obtain ⟨y0, y1, y2, y3⟩ := Y.open2
  obtain ⟨z0, z1, z2, z3⟩ := Z.open2
  go_wp2_with fail
  go_ret
  exact ⟨rfl, h5⟩

set_option maxHeartbeats 8000000 in
theorem law_encloses (l0 l1 f0 f1 t0 t1 a b c : Int) (w : World) : Calls Try.prog 7 #[.agg #[.int .i64 l0, .int .i64 l1, .int .i64 f0, .int .i64 f1, .int .i64 t0, .int .i64 t1], .agg #[.int .i64 a, .int .i64 b, .int .i64 c]] w fun e w' => e = .returned (.bool true) ∧ Below w.heap.size w w' := by
  have s0 := Fu.sel0
  have s1 := Fu.sel1
  have s2 := Fu.sel2
  have s15 := Fu.sel15
  rcases bi_cases l0 l1 f0 f1 t0 t1 with hc | hc | hc | hc
  rotate_left
  · skip
    go_enter Try.func7, Try.ntmps7
    go_wp2_with fail
    refine (awake_c _).mono ?_
    rintro e w1 ⟨rfl, hb1⟩
    have X := ((Blk.new w _ _).alloc _).keep hb1
    have T := (Blk.new1 w _ _ _).keep hb1
    obtain ⟨x0, x1, x2, x3, x4, x5, x6⟩ := six_cells X
    go_wp2_with fail
    refine (burnin_c _ _ _ _ _ _ _).mono ?_
    rintro e w2 ⟨rfl, hb2⟩
    have h2 := bal (bt (bt (bal (ba w _) _) hb1) hb2) (.cells #[.int .i64 0, .int .i64 0] 32)
    clear x0 x1 x2 x3 x4 x5 x6
    go_wp2_with fail
    go_ret
    exact ⟨rfl, h2⟩
  · skip
    go_enter Try.func7, Try.ntmps7
    go_wp2_with fail
    refine (awake_c _).mono ?_
    rintro e w1 ⟨rfl, hb1⟩
    have X := ((Blk.new w _ _).alloc _).keep hb1
    have T := (Blk.new1 w _ _ _).keep hb1
    obtain ⟨x0, x1, x2, x3, x4, x5, x6⟩ := six_cells X
    go_wp2_with fail
    refine (burnin_c _ _ _ _ _ _ _).mono ?_
    rintro e w2 ⟨rfl, hb2⟩
    have h2 := bal (bt (bt (bal (ba w _) _) hb1) hb2) (.cells #[.int .i64 0, .int .i64 0] 32)
    clear x0 x1 x2 x3 x4 x5 x6
    go_wp2_with fail
    go_ret
    exact ⟨rfl, h2⟩
  · skip
    go_enter Try.func7, Try.ntmps7
    go_wp2_with fail
    refine (awake_c _).mono ?_
    rintro e w1 ⟨rfl, hb1⟩
    have X := ((Blk.new w _ _).alloc _).keep hb1
    have T := (Blk.new1 w _ _ _).keep hb1
    obtain ⟨x0, x1, x2, x3, x4, x5, x6⟩ := six_cells X
    go_wp2_with fail
    refine (burnin_c _ _ _ _ _ _ _).mono ?_
    rintro e w2 ⟨rfl, hb2⟩
    have h2 := bal (bt (bt (bal (ba w _) _) hb1) hb2) (.cells #[.int .i64 0, .int .i64 0] 32)
    clear x0 x1 x2 x3 x4 x5 x6
    go_wp2_with fail
    go_ret
    exact ⟨rfl, h2⟩
  by_cases g00 : a < l0
  · skip
    go_enter Try.func7, Try.ntmps7
    go_wp2_with fail
    refine (awake_c _).mono ?_
    rintro e w1 ⟨rfl, hb1⟩
    have X := ((Blk.new w _ _).alloc _).keep hb1
    have T := (Blk.new1 w _ _ _).keep hb1
    obtain ⟨x0, x1, x2, x3, x4, x5, x6⟩ := six_cells X
    go_wp2_with fail
    refine (burnin_c _ _ _ _ _ _ _).mono ?_
    rintro e w2 ⟨rfl, hb2⟩
    have h2 := bal (bt (bt (bal (ba w _) _) hb1) hb2) (.cells #[.int .i64 (l0 - f1 * t1), .int .i64 (l1 - f0 * t0)] 32)
    clear x0 x1 x2 x3 x4 x5 x6

    replace X := X.keep hb2
    replace T := T.keep hb2
    obtain ⟨x0, x1, x2, x3, x4, x5, x6⟩ := six_cells X
    obtain ⟨u0, u1, u2, u3, u4⟩ := T.open3
    clear X T
    go_wp2
    refine wp_loop_rounds 4 ?_

    rw [rounds_succ]
    go_wp2
    go_quiet (fail)
    go_wp2
    go_ret
    exact ⟨rfl, by repeat (first | exact h2 | refine bdnl ?_ _)⟩
  have d00 : decide (a < l0) = false := decide_eq_false g00
  by_cases g01 : l1 < a
  · skip
    go_enter Try.func7, Try.ntmps7
    go_wp2_with fail
    refine (awake_c _).mono ?_
    rintro e w1 ⟨rfl, hb1⟩
    have X := ((Blk.new w _ _).alloc _).keep hb1
    have T := (Blk.new1 w _ _ _).keep hb1
    obtain ⟨x0, x1, x2, x3, x4, x5, x6⟩ := six_cells X
    go_wp2_with fail
    refine (burnin_c _ _ _ _ _ _ _).mono ?_
    rintro e w2 ⟨rfl, hb2⟩
    have h2 := bal (bt (bt (bal (ba w _) _) hb1) hb2) (.cells #[.int .i64 (l0 - f1 * t1), .int .i64 (l1 - f0 * t0)] 32)
    clear x0 x1 x2 x3 x4 x5 x6

    replace X := X.keep hb2
    replace T := T.keep hb2
    obtain ⟨x0, x1, x2, x3, x4, x5, x6⟩ := six_cells X
    obtain ⟨u0, u1, u2, u3, u4⟩ := T.open3
    clear X T
    go_wp2
    refine wp_loop_rounds 4 ?_

    rw [rounds_succ]
    go_wp2
    go_quiet (fail)
    go_wp2
    go_ret
    exact ⟨rfl, by repeat (first | exact h2 | refine bdnl ?_ _)⟩
  have d01 : decide (l1 < a) = false := decide_eq_false g01
  by_cases g10 : b < f0
  · skip
    go_enter Try.func7, Try.ntmps7
    go_wp2_with fail
    refine (awake_c _).mono ?_
    rintro e w1 ⟨rfl, hb1⟩
    have X := ((Blk.new w _ _).alloc _).keep hb1
    have T := (Blk.new1 w _ _ _).keep hb1
    obtain ⟨x0, x1, x2, x3, x4, x5, x6⟩ := six_cells X
    go_wp2_with fail
    refine (burnin_c _ _ _ _ _ _ _).mono ?_
    rintro e w2 ⟨rfl, hb2⟩
    have h2 := bal (bt (bt (bal (ba w _) _) hb1) hb2) (.cells #[.int .i64 (l0 - f1 * t1), .int .i64 (l1 - f0 * t0)] 32)
    clear x0 x1 x2 x3 x4 x5 x6

    replace X := X.keep hb2
    replace T := T.keep hb2
    obtain ⟨x0, x1, x2, x3, x4, x5, x6⟩ := six_cells X
    obtain ⟨u0, u1, u2, u3, u4⟩ := T.open3
    clear X T
    go_wp2
    refine wp_loop_rounds 4 ?_

    rw [rounds_succ]
    go_wp2
    go_quiet (fail)
    go_wp2

    rw [rounds_succ]
    go_wp2
    go_quiet (fail)
    go_wp2
    go_ret
    exact ⟨rfl, by repeat (first | exact h2 | refine bdnl ?_ _)⟩
  have d10 : decide (b < f0) = false := decide_eq_false g10
  by_cases g11 : f1 < b
  · skip
    go_enter Try.func7, Try.ntmps7
    go_wp2_with fail
    refine (awake_c _).mono ?_
    rintro e w1 ⟨rfl, hb1⟩
    have X := ((Blk.new w _ _).alloc _).keep hb1
    have T := (Blk.new1 w _ _ _).keep hb1
    obtain ⟨x0, x1, x2, x3, x4, x5, x6⟩ := six_cells X
    go_wp2_with fail
    refine (burnin_c _ _ _ _ _ _ _).mono ?_
    rintro e w2 ⟨rfl, hb2⟩
    have h2 := bal (bt (bt (bal (ba w _) _) hb1) hb2) (.cells #[.int .i64 (l0 - f1 * t1), .int .i64 (l1 - f0 * t0)] 32)
    clear x0 x1 x2 x3 x4 x5 x6

    replace X := X.keep hb2
    replace T := T.keep hb2
    obtain ⟨x0, x1, x2, x3, x4, x5, x6⟩ := six_cells X
    obtain ⟨u0, u1, u2, u3, u4⟩ := T.open3
    clear X T
    go_wp2
    refine wp_loop_rounds 4 ?_

    rw [rounds_succ]
    go_wp2
    go_quiet (fail)
    go_wp2

    rw [rounds_succ]
    go_wp2
    go_quiet (fail)
    go_wp2
    go_ret
    exact ⟨rfl, by repeat (first | exact h2 | refine bdnl ?_ _)⟩
  have d11 : decide (f1 < b) = false := decide_eq_false g11
  by_cases g20 : c < t0
  · skip
    go_enter Try.func7, Try.ntmps7
    go_wp2_with fail
    refine (awake_c _).mono ?_
    rintro e w1 ⟨rfl, hb1⟩
    have X := ((Blk.new w _ _).alloc _).keep hb1
    have T := (Blk.new1 w _ _ _).keep hb1
    obtain ⟨x0, x1, x2, x3, x4, x5, x6⟩ := six_cells X
    go_wp2_with fail
    refine (burnin_c _ _ _ _ _ _ _).mono ?_
    rintro e w2 ⟨rfl, hb2⟩
    have h2 := bal (bt (bt (bal (ba w _) _) hb1) hb2) (.cells #[.int .i64 (l0 - f1 * t1), .int .i64 (l1 - f0 * t0)] 32)
    clear x0 x1 x2 x3 x4 x5 x6

    replace X := X.keep hb2
    replace T := T.keep hb2
    obtain ⟨x0, x1, x2, x3, x4, x5, x6⟩ := six_cells X
    obtain ⟨u0, u1, u2, u3, u4⟩ := T.open3
    clear X T
    go_wp2
    refine wp_loop_rounds 4 ?_

    rw [rounds_succ]
    go_wp2
    go_quiet (fail)
    go_wp2

    rw [rounds_succ]
    go_wp2
    go_quiet (fail)
    go_wp2

    rw [rounds_succ]
    go_wp2
    go_quiet (fail)
    go_wp2
    go_ret
    exact ⟨rfl, by repeat (first | exact h2 | refine bdnl ?_ _)⟩
  have d20 : decide (c < t0) = false := decide_eq_false g20
  by_cases g21 : t1 < c
  · skip
    go_enter Try.func7, Try.ntmps7
    go_wp2_with fail
    refine (awake_c _).mono ?_
    rintro e w1 ⟨rfl, hb1⟩
    have X := ((Blk.new w _ _).alloc _).keep hb1
    have T := (Blk.new1 w _ _ _).keep hb1
    obtain ⟨x0, x1, x2, x3, x4, x5, x6⟩ := six_cells X
    go_wp2_with fail
    refine (burnin_c _ _ _ _ _ _ _).mono ?_
    rintro e w2 ⟨rfl, hb2⟩
    have h2 := bal (bt (bt (bal (ba w _) _) hb1) hb2) (.cells #[.int .i64 (l0 - f1 * t1), .int .i64 (l1 - f0 * t0)] 32)
    clear x0 x1 x2 x3 x4 x5 x6

    replace X := X.keep hb2
    replace T := T.keep hb2
    obtain ⟨x0, x1, x2, x3, x4, x5, x6⟩ := six_cells X
    obtain ⟨u0, u1, u2, u3, u4⟩ := T.open3
    clear X T
    go_wp2
    refine wp_loop_rounds 4 ?_

    rw [rounds_succ]
    go_wp2
    go_quiet (fail)
    go_wp2

    rw [rounds_succ]
    go_wp2
    go_quiet (fail)
    go_wp2

    rw [rounds_succ]
    go_wp2
    go_quiet (fail)
    go_wp2
    go_ret
    exact ⟨rfl, by repeat (first | exact h2 | refine bdnl ?_ _)⟩
  have d21 : decide (t1 < c) = false := decide_eq_false g21
  obtain ⟨e1, e2, e3, e4, e5, e6, e7⟩ := encl hc (a := a) (b := b) (c := c) (by omega) (by omega) (by omega) (by omega) (by omega) (by omega)
  go_enter Try.func7, Try.ntmps7
  go_wp2_with fail
  refine (awake_c _).mono ?_
  rintro e w1 ⟨rfl, hb1⟩
  have X := ((Blk.new w _ _).alloc _).keep hb1
  have T := (Blk.new1 w _ _ _).keep hb1
  obtain ⟨x0, x1, x2, x3, x4, x5, x6⟩ := six_cells X
  go_wp2_with fail
  refine (burnin_c _ _ _ _ _ _ _).mono ?_
  rintro e w2 ⟨rfl, hb2⟩
  have h2 := bal (bt (bt (bal (ba w _) _) hb1) hb2) (.cells #[.int .i64 (l0 - f1 * t1), .int .i64 (l1 - f0 * t0)] 32)
  clear x0 x1 x2 x3 x4 x5 x6

  replace X := X.keep hb2
  replace T := T.keep hb2
  obtain ⟨x0, x1, x2, x3, x4, x5, x6⟩ := six_cells X
  obtain ⟨u0, u1, u2, u3, u4⟩ := T.open3
  clear X T
  go_wp2
  refine wp_loop_rounds 4 ?_

  rw [rounds_succ]
  go_wp2
  go_quiet (fail)
  go_wp2

  rw [rounds_succ]
  go_wp2
  go_quiet (fail)
  go_wp2

  rw [rounds_succ]
  go_wp2
  go_quiet (fail)
  go_wp2
  rw [rounds_succ]
  go_wp2
  go_ret
  exact ⟨rfl, by repeat (first | exact h2 | refine bdnl ?_ _)⟩

end Go.Proofs.Ytoebjiocmnonnaa
