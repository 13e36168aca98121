/-
  Contracts: navSize, navUnary.
-/
import Derived.Test.YtgkbjkgafiojjaaITw
import Derived.Test.YtgkbjkgafiojjaaI4
import Derived.Test.YtgkbjkgafiojjaaI5
import Derived.Test.YtgkbjkgafiojjaaI3
import Derived.Test.YtgkbjkgafiojjaaI11
import Derived.Test.YtgkbjkgafiojjaaW2
import Derived.Test.YtgkbjkgafiojjaaW5
import Derived.Deep.DeepCutAuto
namespace Go.Proofs.Ytgkbjkgafiojjaa
set_option linter.unusedVariables false
set_option linter.unusedSimpArgs false
open Go.RowKit
attribute [local irreducible] World.setCell World.cell?

set_option maxRecDepth 100000 in
set_option maxHeartbeats 4000000 in
theorem navsize_c (n : Int) (w : World) (h1 : -4611686018427387904 ≤ n) (h2 : n ≤ 4611686018427387904) : Calls Try.prog 19 #[.int .i64 n] w fun e w' => e = .returned (.int .i64 (Iv.az n)) ∧ w = w' := by
  by_cases h : n < 0
  · have e1 : Iv.az n = -n := if_pos h
    rw [e1]
    go_enter Try.func19, Try.ntmps19
    go_wp2_with fail
    go_returns
    exact ⟨rfl, rfl⟩
  · have e1 : Iv.az n = n := if_neg h
    rw [e1]
    go_enter Try.func19, Try.ntmps19
    go_wp2_with fail
    go_returns
    exact ⟨rfl, rfl⟩
set_option maxRecDepth 100000 in
set_option maxHeartbeats 4000000 in
theorem unary_c (a b c op lo hi n : Int) (w : World) (hm : Iv.Mem a b c) (hn : 0 ≤ n ∧ n ≤ 18446744073709551615) : Calls Try.prog 8 #[.agg #[.int .i64 a, .int .i64 b, .int .i64 c], .agg #[.int .u8 op, .int .i64 lo, .int .i64 hi, .int .u64 n]] w fun e w' => ∃ a' b' c' er : Int, e = .returned (.tuple #[.agg #[.int .i64 a', .int .i64 b', .int .i64 c'], .int .i64 er]) ∧ 0 ≤ er ∧ er ≤ 2 ∧ (er = 0 → Iv.Mem a' b' c') ∧ Below w.heap.size w w' := by
  obtain ⟨m1, m2, m3, m4, m5⟩ := hm.bd
  obtain ⟨n1, n2⟩ := hn
  have HM := Lib.hid hm
  have hmem : a ≤ c ∧ c ≤ b := ⟨hm.2.1, hm.2.2⟩
  have HMM := Lib.hid hmem
  clear hm hmem
  have X := ((Blk.new w 33 #[.int .i64 a, .int .i64 b, .int .i64 c]).alloc (.cells #[.int .u8 op, .int .i64 lo, .int .i64 hi, .int .u64 n] 31)).alloc (.cells #[.int .i64 0, .int .i64 0, .int .i64 0] 33)
  have T := (Blk.new1 w (.cells #[.int .i64 a, .int .i64 b, .int .i64 c] 33) 31 #[.int .u8 op, .int .i64 lo, .int .i64 hi, .int .u64 n]).alloc (.cells #[.int .i64 0, .int .i64 0, .int .i64 0] 33)
  have R := Blk.new2 w (.cells #[.int .i64 a, .int .i64 b, .int .i64 c] 33) (.cells #[.int .u8 op, .int .i64 lo, .int .i64 hi, .int .u64 n] 31) 33 #[.int .i64 0, .int .i64 0, .int .i64 0]
  have hB := bal (bal (ba w (.cells #[.int .i64 a, .int .i64 b, .int .i64 c] 33)) (.cells #[.int .u8 op, .int .i64 lo, .int .i64 hi, .int .u64 n] 31)) (.cells #[.int .i64 0, .int .i64 0, .int .i64 0] 33)
  go_enter Try.func8, Try.ntmps8
  try simp only [List.append_eq, List.cons_append, List.nil_append]
  go_upto_region 1 with fail
  generalize World.alloc (World.alloc (World.alloc w _) _) _ = w1 at X T R hB ⊢
  obtain ⟨x0, x1, x2, x3, x4⟩ := X.open3
  obtain ⟨t0, t1, t2, t3, t4, t5⟩ := T.open4
  by_cases h4 : op = 4
  · subst h4
    go_wp2_with fail
    refine (neg_ci a b _).mono ?_
    rintro e w2 ⟨rfl, hb⟩
    clear x0 x1 x2 x3 x4 t0 t1 t2 t3 t4 t5
    replace X := X.keep hb
    replace T := T.keep hb
    replace R := R.keep hb
    replace hB := bt hB hb
    clear hb
    have E := Lib.hid (Iv.te_neg a b)
    have V := Lib.hid (fun (_ : (Iv.neg a b).er = 0) => Iv.neg_has HM.out.1 HMM.out)
    generalize Iv.neg a b = r at *
    have Y := Blk.new w2 24 #[.int .i64 r.lo, .int .i64 r.hi]
    replace X := X.alloc (.cells #[.int .i64 r.lo, .int .i64 r.hi] 24)
    replace R := R.alloc (.cells #[.int .i64 r.lo, .int .i64 r.hi] 24)
    have rlt := R.lt
    replace hB := bal hB (.cells #[.int .i64 r.lo, .int .i64 r.hi] 24)
    obtain ⟨x0, x1, x2, x3, x4⟩ := X.open3
    obtain ⟨y0, y1, y2, y3⟩ := Y.open2
    obtain ⟨r0, r1, r2, r3, r4⟩ := R.open3
    have R2 := ((R.set_ 0 (.int .i64 r.lo)).set_ 1 (.int .i64 r.hi)).set_ 2 (.int .i64 (-c))
    simp only [List.setIfInBounds_toArray, List.set_cons_zero, List.set_cons_succ] at R2
    have hB2 := bst (bst (bst hB (p := ⟨w.heap.size + 1 + 1, 0, none⟩) (by show _ ≤ w.heap.size + 1 + 1; omega) (.int .i64 r.lo)) (p := ⟨w.heap.size + 1 + 1, 1, none⟩) (by show _ ≤ w.heap.size + 1 + 1; omega) (.int .i64 r.hi)) (p := ⟨w.heap.size + 1 + 1, 2, none⟩) (by show _ ≤ w.heap.size + 1 + 1; omega) (.int .i64 (-c))
    obtain ⟨s0, s1, s2, s3, s4⟩ := R2.open3
    go_wp2_with fail
    refine bodyPost_ret (by simp [results, Try.results8, go_sem, s0, s1, s2]; try rfl) rfl ?_
    exact ⟨_, _, _, _, rfl, E.out.1, E.out.2, V.out, hB2⟩
  by_cases h5 : op = 5
  · subst h5
    have h4' : ((5 : Int) == 4) = false := by decide
    go_wp2_with fail
    refine (abs_ci a b _).mono ?_
    rintro e w2 ⟨rfl, hb⟩
    clear x0 x1 x2 x3 x4 t0 t1 t2 t3 t4 t5
    replace X := X.keep hb
    replace T := T.keep hb
    replace R := R.keep hb
    replace hB := bt hB hb
    clear hb
    have E := Lib.hid (Iv.te_abs a b)
    have V := Lib.hid (fun (_ : (Iv.abs a b).er = 0) => Iv.abs_has HM.out.1 HMM.out)
    generalize Iv.abs a b = r at *
    have Y := Blk.new w2 24 #[.int .i64 r.lo, .int .i64 r.hi]
    replace X := X.alloc (.cells #[.int .i64 r.lo, .int .i64 r.hi] 24)
    replace R := R.alloc (.cells #[.int .i64 r.lo, .int .i64 r.hi] 24)
    have rlt := R.lt
    replace hB := bal hB (.cells #[.int .i64 r.lo, .int .i64 r.hi] 24)
    obtain ⟨x0, x1, x2, x3, x4⟩ := X.open3
    obtain ⟨y0, y1, y2, y3⟩ := Y.open2
    obtain ⟨r0, r1, r2, r3, r4⟩ := R.open3
    go_upto_region 7 with fail
    go_region_with (go_at_call 19; refine (navsize_c c _ (by omega) (by omega)).mono ?_; rintro e wn ⟨rfl, rfl⟩)
    all_goals
      have R2 := ((R.set_ 0 (.int .i64 r.lo)).set_ 1 (.int .i64 r.hi)).set_ 2 (.int .i64 (Iv.az c))
      simp only [List.setIfInBounds_toArray, List.set_cons_zero, List.set_cons_succ] at R2
      have hB2 := bst (bst (bst hB (p := ⟨w.heap.size + 1 + 1, 0, none⟩) (by show _ ≤ w.heap.size + 1 + 1; omega) (.int .i64 r.lo)) (p := ⟨w.heap.size + 1 + 1, 1, none⟩) (by show _ ≤ w.heap.size + 1 + 1; omega) (.int .i64 r.hi)) (p := ⟨w.heap.size + 1 + 1, 2, none⟩) (by show _ ≤ w.heap.size + 1 + 1; omega) (.int .i64 (Iv.az c))
      have R3 := R2.drew
      obtain ⟨s0, s1, s2, s3, s4⟩ := R3.open3
      go_wp2_with fail
      refine bodyPost_ret (by simp [results, Try.results8, go_sem, s0, s1, s2]; try rfl) rfl ?_
      exact ⟨_, _, _, _, rfl, E.out.1, E.out.2, V.out, bdr hB2⟩
  have h4' : (op == 4) = false := by simpa using h4
  have h5' : (op == 5) = false := by simpa using h5
  have q1 : 0 ≤ n % 1000 ∧ n % 1000 < 1000 := by omega
  obtain ⟨q2, q3⟩ := q1
  go_wp2_with fail
  refine (widen_ci a b (n % 1000) _ (by omega) (by omega)).mono ?_
  rintro e w2 ⟨rfl, hb⟩
  clear x0 x1 x2 x3 x4 t0 t1 t2 t3 t4 t5
  replace X := X.keep hb
  replace T := T.keep hb
  replace R := R.keep hb
  replace hB := bt hB hb
  clear hb
  have E := Lib.hid (Iv.te_widen a b (n % 1000))
  have V := Lib.hid (fun (h : (Iv.widen a b (n % 1000)).er = 0) => Iv.widen_has HMM.out h)
  generalize Iv.widen a b (n % 1000) = r at *
  have Y := Blk.new w2 24 #[.int .i64 r.lo, .int .i64 r.hi]
  replace X := X.alloc (.cells #[.int .i64 r.lo, .int .i64 r.hi] 24)
  replace R := R.alloc (.cells #[.int .i64 r.lo, .int .i64 r.hi] 24)
  have rlt := R.lt
  replace hB := bal hB (.cells #[.int .i64 r.lo, .int .i64 r.hi] 24)
  obtain ⟨x0, x1, x2, x3, x4⟩ := X.open3
  obtain ⟨y0, y1, y2, y3⟩ := Y.open2
  obtain ⟨r0, r1, r2, r3, r4⟩ := R.open3
  have R2 := ((R.set_ 0 (.int .i64 r.lo)).set_ 1 (.int .i64 r.hi)).set_ 2 (.int .i64 c)
  simp only [List.setIfInBounds_toArray, List.set_cons_zero, List.set_cons_succ] at R2
  have hB2 := bst (bst (bst hB (p := ⟨w.heap.size + 1 + 1, 0, none⟩) (by show _ ≤ w.heap.size + 1 + 1; omega) (.int .i64 r.lo)) (p := ⟨w.heap.size + 1 + 1, 1, none⟩) (by show _ ≤ w.heap.size + 1 + 1; omega) (.int .i64 r.hi)) (p := ⟨w.heap.size + 1 + 1, 2, none⟩) (by show _ ≤ w.heap.size + 1 + 1; omega) (.int .i64 c)
  obtain ⟨s0, s1, s2, s3, s4⟩ := R2.open3
  go_wp2_with fail
  refine bodyPost_ret (by simp [results, Try.results8, go_sem, s0, s1, s2]; try rfl) rfl ?_
  exact ⟨_, _, _, _, rfl, E.out.1, E.out.2, V.out, hB2⟩
end Go.Proofs.Ytgkbjkgafiojjaa
