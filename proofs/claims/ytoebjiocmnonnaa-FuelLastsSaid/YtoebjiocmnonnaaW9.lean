/-
  The statements Splits and Lasts.
-/
import Derived.Test.YtoebjiocmnonnaaW8
import Derived.Test.YtoebjiocmnonnaaPlain2
namespace Go.Proofs.Ytoebjiocmnonnaa
set_option linter.unusedVariables false
open Go.RowKit

set_option maxHeartbeats 8000000 in
theorem law_splits (E L R B f t0 t1 : Int) (w : World) (hr0 : -9223372036854775808 ≤ t1) (hr1 : t1 ≤ 9223372036854775807) : Calls Try.prog 5 #[.agg #[.int .i64 E, .int .i64 L, .int .i64 R, .int .i64 B], .int .i64 f, .agg #[.int .i64 t0, .int .i64 t1]] w fun e w' => e = .returned (.bool true) ∧ Below w.heap.size w w' := by
  have s0 := Fu.sel0
  have s2 := Fu.sel2
  have s15 := Fu.sel15
  rcases Fu.burn_cases E L R B f t0 with hc | hc | hc
  rotate_left
  · clear hr0 hr1
    go_enter Try.func5, Try.ntmps5
    go_wp2_with fail
    refine (awake_c _).mono ?_
    rintro e w1 ⟨rfl, hb1⟩
    have A := ((Blk.new w _ _).alloc _).keep hb1
    have T := (Blk.new1 w _ _ _).keep hb1
    obtain ⟨a0, a1, a2, a3, a4, a5⟩ := A.open4
    obtain ⟨t0c, t1c, t2c, t3c⟩ := T.open2
    go_wp2_with fail
    refine (burn_c _ _ _ _ _ _ _).mono ?_
    rintro e w2 ⟨rfl, hb2⟩
    have h2 := bt (bt (bal (ba w _) _) hb1) hb2

    go_wp2_with fail
    go_ret
    exact ⟨rfl, bal h2 _⟩
  · clear hr0 hr1
    go_enter Try.func5, Try.ntmps5
    go_wp2_with fail
    refine (awake_c _).mono ?_
    rintro e w1 ⟨rfl, hb1⟩
    have A := ((Blk.new w _ _).alloc _).keep hb1
    have T := (Blk.new1 w _ _ _).keep hb1
    obtain ⟨a0, a1, a2, a3, a4, a5⟩ := A.open4
    obtain ⟨t0c, t1c, t2c, t3c⟩ := T.open2
    go_wp2_with fail
    refine (burn_c _ _ _ _ _ _ _).mono ?_
    rintro e w2 ⟨rfl, hb2⟩
    have h2 := bt (bt (bal (ba w _) _) hb1) hb2

    go_wp2_with fail
    go_ret
    exact ⟨rfl, bal h2 _⟩
  obtain ⟨hok, ⟨f0, f1, u0, u1⟩, hle⟩ := Fu.burn_zero hc
  have hok2 := Fu.ok_after hc
  have HOK := Lib.hid hok
  clear hok
  by_cases hn : t1 < 0
  · have hc2 := Fu.split_neg (f := f) hok2 hn
    clear hok2
    go_enter Try.func5, Try.ntmps5
    go_wp2_with fail
    refine (awake_c _).mono ?_
    rintro e w1 ⟨rfl, hb1⟩
    have A := ((Blk.new w _ _).alloc _).keep hb1
    have T := (Blk.new1 w _ _ _).keep hb1
    obtain ⟨a0, a1, a2, a3, a4, a5⟩ := A.open4
    obtain ⟨t0c, t1c, t2c, t3c⟩ := T.open2
    go_wp2_with fail
    refine (burn_c _ _ _ _ _ _ _).mono ?_
    rintro e w2 ⟨rfl, hb2⟩
    have h2 := bt (bt (bal (ba w _) _) hb1) hb2

    clear a0 a1 a2 a3 a4 a5 t0c t1c t2c t3c
    replace A := A.keep hb2
    replace T := T.keep hb2
    obtain ⟨t0c, t1c, t2c, t3c⟩ := T.open2
    go_wp2_with fail
    refine (burn_c _ _ _ _ _ _ _).mono ?_
    rintro e w3 ⟨rfl, hb3⟩
    have h3 := bt (bal h2 _) hb3
    clear t0c t1c t2c t3c
    replace A := (A.alloc _).keep hb3
    replace T := (T.alloc _).keep hb3
    obtain ⟨a0, a1, a2, a3, a4, a5⟩ := A.open4
    obtain ⟨t0c, t1c, t2c, t3c⟩ := T.open2

    go_wp2_with fail
    go_ret
    exact ⟨rfl, bal h3 _⟩
  by_cases hg : 1099511627776 - t0 < t1
  · rcases Fu.burn_cases E L R (B + f * t0) f t1 with hc2 | hc2 | hc2
    all_goals
      clear hok2
      go_enter Try.func5, Try.ntmps5
      go_wp2_with fail
      refine (awake_c _).mono ?_
      rintro e w1 ⟨rfl, hb1⟩
      have A := ((Blk.new w _ _).alloc _).keep hb1
      have T := (Blk.new1 w _ _ _).keep hb1
      obtain ⟨a0, a1, a2, a3, a4, a5⟩ := A.open4
      obtain ⟨t0c, t1c, t2c, t3c⟩ := T.open2
      go_wp2_with fail
      refine (burn_c _ _ _ _ _ _ _).mono ?_
      rintro e w2 ⟨rfl, hb2⟩
      have h2 := bt (bt (bal (ba w _) _) hb1) hb2

      clear a0 a1 a2 a3 a4 a5 t0c t1c t2c t3c
      replace A := A.keep hb2
      replace T := T.keep hb2
      obtain ⟨t0c, t1c, t2c, t3c⟩ := T.open2
      go_wp2_with fail
      refine (burn_c _ _ _ _ _ _ _).mono ?_
      rintro e w3 ⟨rfl, hb3⟩
      have h3 := bt (bal h2 _) hb3
      clear t0c t1c t2c t3c
      replace A := (A.alloc _).keep hb3
      replace T := (T.alloc _).keep hb3
      obtain ⟨a0, a1, a2, a3, a4, a5⟩ := A.open4
      obtain ⟨t0c, t1c, t2c, t3c⟩ := T.open2

      go_wp2_with fail
      go_ret
      exact ⟨rfl, bal h3 _⟩
  have hsp := Fu.split_law (t1 := t1) hc (by omega) (by omega)
  have hv : B + f * (t0 + t1) = B + f * t0 + f * t1 := by rw [Fu.mul_split]; omega
  rcases Fu.burn_cases E L R (B + f * t0) f t1 with hc2 | hc2 | hc2
  all_goals
    have hc3 := hsp.symm.trans hc2
    clear hsp hok2
    go_enter Try.func5, Try.ntmps5
    go_wp2_with fail
    refine (awake_c _).mono ?_
    rintro e w1 ⟨rfl, hb1⟩
    have A := ((Blk.new w _ _).alloc _).keep hb1
    have T := (Blk.new1 w _ _ _).keep hb1
    obtain ⟨a0, a1, a2, a3, a4, a5⟩ := A.open4
    obtain ⟨t0c, t1c, t2c, t3c⟩ := T.open2
    go_wp2_with fail
    refine (burn_c _ _ _ _ _ _ _).mono ?_
    rintro e w2 ⟨rfl, hb2⟩
    have h2 := bt (bt (bal (ba w _) _) hb1) hb2

    clear a0 a1 a2 a3 a4 a5 t0c t1c t2c t3c
    replace A := A.keep hb2
    replace T := T.keep hb2
    obtain ⟨t0c, t1c, t2c, t3c⟩ := T.open2
    go_wp2_with fail
    refine (burn_c _ _ _ _ _ _ _).mono ?_
    rintro e w3 ⟨rfl, hb3⟩
    have h3 := bt (bal h2 _) hb3
    clear t0c t1c t2c t3c
    replace A := (A.alloc _).keep hb3
    replace T := (T.alloc _).keep hb3
    obtain ⟨a0, a1, a2, a3, a4, a5⟩ := A.open4
    obtain ⟨t0c, t1c, t2c, t3c⟩ := T.open2

    go_wp2_with fail
    refine (burn_c _ _ _ _ _ _ _).mono ?_
    rintro e w4 ⟨rfl, hb4⟩
    have C := (Blk.new w3 _ _).keep hb4
    obtain ⟨c0, c1, c2, c3, c4, c5⟩ := C.open4
    have h4 := bt (bal h3 _) hb4
    go_wp2_with fail
    go_ret
    exact ⟨rfl, bal h4 _⟩

set_option maxHeartbeats 8000000 in
theorem law_lasts (E L R B f : Int) (w : World) : Calls Try.prog 6 #[.agg #[.int .i64 E, .int .i64 L, .int .i64 R, .int .i64 B], .int .i64 f] w fun e w' => e = .returned (.bool true) ∧ Below w.heap.size w w' := by
  have s0 := Fu.sel0
  have s2 := Fu.sel2
  have s15 := Fu.sel15
  rcases Fu.end_cases E L R B f with hc | hc | hc
  rotate_left
  · have hv : Fu.endV E L R B f = 0 := by unfold Fu.endV; rw [hc]; rfl
    go_enter Try.func6, Try.ntmps6
    go_wp2_with fail
    refine (awake_c _).mono ?_
    rintro e w1 ⟨rfl, hb1⟩
    have A := (Blk.new w _ _).keep hb1
    obtain ⟨a0, a1, a2, a3, a4, a5⟩ := A.open4
    go_wp2_with fail
    refine (endur_c _ _ _ _ _ _).mono ?_
    rintro e w2 ⟨rfl, hb2⟩
    have h2 := bt (bt (ba w _) hb1) hb2
    go_wp2_with fail
    go_ret
    exact ⟨rfl, h2⟩
  · have hv : Fu.endV E L R B f = 0 := by unfold Fu.endV; rw [hc]; rfl
    go_enter Try.func6, Try.ntmps6
    go_wp2_with fail
    refine (awake_c _).mono ?_
    rintro e w1 ⟨rfl, hb1⟩
    have A := (Blk.new w _ _).keep hb1
    obtain ⟨a0, a1, a2, a3, a4, a5⟩ := A.open4
    go_wp2_with fail
    refine (endur_c _ _ _ _ _ _).mono ?_
    rintro e w2 ⟨rfl, hb2⟩
    have h2 := bt (bt (ba w _) hb1) hb2
    go_wp2_with fail
    go_ret
    exact ⟨rfl, h2⟩
  obtain ⟨n, hn⟩ : ∃ n, (L - B - R) / f = n := ⟨_, rfl⟩
  have hv : Fu.endV E L R B f = n := by unfold Fu.endV; rw [hc]; exact hn
  obtain ⟨n0, n1, l1, l2, l3⟩ := Fu.lasts hc hn
  clear hn
  rcases l3 with l3 | ⟨l3, l4⟩
  · skip
    go_enter Try.func6, Try.ntmps6
    go_wp2_with fail
    refine (awake_c _).mono ?_
    rintro e w1 ⟨rfl, hb1⟩
    have A := (Blk.new w _ _).keep hb1
    obtain ⟨a0, a1, a2, a3, a4, a5⟩ := A.open4
    go_wp2_with fail
    refine (endur_c _ _ _ _ _ _).mono ?_
    rintro e w2 ⟨rfl, hb2⟩
    have h2 := bt (bt (ba w _) hb1) hb2

    clear a0 a1 a2 a3 a4 a5
    replace A := A.keep hb2
    obtain ⟨a0, a1, a2, a3, a4, a5⟩ := A.open4
    go_wp2_with fail
    refine (burn_c _ _ _ _ _ _ _).mono ?_
    rintro e w3 ⟨rfl, hb3⟩
    have h3 := bal (bt h2 hb3) (.cells #[.int .i64 E, .int .i64 L, .int .i64 R, .int .i64 (B + f * n)] 23)
    clear a0 a1 a2 a3 a4 a5
    replace A := (A.keep hb3).alloc (.cells #[.int .i64 E, .int .i64 L, .int .i64 R, .int .i64 (B + f * n)] 23)
    go_wp2_with fail
    refine (low_c _ _ _ _ _).mono ?_
    rintro e w4 ⟨rfl, hb4⟩
    have h4 := bt h3 hb4
    replace A := A.keep hb4
    obtain ⟨a0, a1, a2, a3, a4, a5⟩ := A.open4
    go_wp2_with fail
    refine (burn_c _ _ _ _ _ _ _).mono ?_
    rintro e w5 ⟨rfl, hb5⟩
    have h5 := bt h4 hb5
    clear a0 a1 a2 a3 a4 a5
    go_wp2_with fail
    go_ret
    exact ⟨rfl, bal h5 _⟩
  · skip
    go_enter Try.func6, Try.ntmps6
    go_wp2_with fail
    refine (awake_c _).mono ?_
    rintro e w1 ⟨rfl, hb1⟩
    have A := (Blk.new w _ _).keep hb1
    obtain ⟨a0, a1, a2, a3, a4, a5⟩ := A.open4
    go_wp2_with fail
    refine (endur_c _ _ _ _ _ _).mono ?_
    rintro e w2 ⟨rfl, hb2⟩
    have h2 := bt (bt (ba w _) hb1) hb2

    clear a0 a1 a2 a3 a4 a5
    replace A := A.keep hb2
    obtain ⟨a0, a1, a2, a3, a4, a5⟩ := A.open4
    go_wp2_with fail
    refine (burn_c _ _ _ _ _ _ _).mono ?_
    rintro e w3 ⟨rfl, hb3⟩
    have h3 := bal (bt h2 hb3) (.cells #[.int .i64 E, .int .i64 L, .int .i64 R, .int .i64 (B + f * n)] 23)
    clear a0 a1 a2 a3 a4 a5
    replace A := (A.keep hb3).alloc (.cells #[.int .i64 E, .int .i64 L, .int .i64 R, .int .i64 (B + f * n)] 23)
    go_wp2_with fail
    refine (low_c _ _ _ _ _).mono ?_
    rintro e w4 ⟨rfl, hb4⟩
    have h4 := bt h3 hb4
    replace A := A.keep hb4
    obtain ⟨a0, a1, a2, a3, a4, a5⟩ := A.open4
    go_wp2_with fail
    refine (burn_c _ _ _ _ _ _ _).mono ?_
    rintro e w5 ⟨rfl, hb5⟩
    have h5 := bt h4 hb5
    clear a0 a1 a2 a3 a4 a5
    go_wp2_with fail
    refine (low_c _ _ _ _ _).mono ?_
    rintro e w6 ⟨rfl, hb6⟩
    go_wp2_with fail
    go_ret
    exact ⟨rfl, bt (bal h5 _) hb6⟩

end Go.Proofs.Ytoebjiocmnonnaa
