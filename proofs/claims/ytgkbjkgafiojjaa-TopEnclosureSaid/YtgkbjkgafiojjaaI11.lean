/-
  Contracts: the product.
-/
import Derived.Test.YtgkbjkgafiojjaaI7
import Derived.Test.YtgkbjkgafiojjaaW5
import Derived.Test.YtgkbjkgafiojjaaW2
namespace Go.Proofs.Ytgkbjkgafiojjaa
set_option linter.unusedVariables false
set_option linter.unusedSimpArgs false
open Go.RowKit

theorem ix0 (a b c d e f : Value) (w : World) : (Instr.index 52 (.agg #[a, b, c, d, e, f]) (.int .i64 0)).run Try.prog w = .ok (.agg #[a, b]) w := by kernel_rfl
theorem ix1 (a b c d e f : Value) (w : World) : (Instr.index 52 (.agg #[a, b, c, d, e, f]) (.int .i64 1)).run Try.prog w = .ok (.agg #[c, d]) w := by kernel_rfl
theorem ix2 (a b c d e f : Value) (w : World) : (Instr.index 52 (.agg #[a, b, c, d, e, f]) (.int .i64 2)).run Try.prog w = .ok (.agg #[e, f]) w := by kernel_rfl
theorem mn_one (a b c d : Int) : Iv.mnU (four a b c d) (0 + 1) = a := by simp [Iv.mnU, four]
theorem mx_one (a b c d : Int) : Iv.mxU (four a b c d) (0 + 1) = a := by simp [Iv.mxU, four]

set_option maxRecDepth 100000 in
set_option maxHeartbeats 4000000 in
theorem mul_ci (l h l' h' : Int) (w : World) : Calls Try.prog 14 #[.agg #[.int .i64 l, .int .i64 h], .agg #[.int .i64 l', .int .i64 h']] w fun e w' =>
    e = .returned (.tuple #[.agg #[.int .i64 (Iv.mul l h l' h').lo, .int .i64 (Iv.mul l h l' h').hi], .int .i64 (Iv.mul l h l' h').er]) ∧ Below w.heap.size w w' := by
  unfold Iv.mul
  by_cases v : Iv.Vd l h
  rotate_left
  · rw [if_neg (by rintro ⟨q1, q2⟩; exact v q1)]
    have e1 := Lib.hid (Iv.vb_no v)
    clear v
    go_enter Try.func14, Try.ntmps14
    have X := Blk.new w 24 #[.int .i64 (l), .int .i64 (h)]
    have hB := ba w (.cells #[.int .i64 (l), .int .i64 (h)] 24)
    have Y := Blk.new1 w (.cells #[.int .i64 (l), .int .i64 (h)] 24) 24 #[.int .i64 (l'), .int .i64 (h')]
    replace X := X.alloc (.cells #[.int .i64 (l'), .int .i64 (h')] 24)
    replace hB := bal hB (.cells #[.int .i64 (l'), .int .i64 (h')] 24)
    have R := Blk.new2 w (.cells #[.int .i64 (l), .int .i64 (h)] 24) (.cells #[.int .i64 (l'), .int .i64 (h')] 24) 24 #[.int .i64 (0), .int .i64 (0)]
    replace X := X.alloc (.cells #[.int .i64 (0), .int .i64 (0)] 24)
    replace Y := Y.alloc (.cells #[.int .i64 (0), .int .i64 (0)] 24)
    replace hB := bal hB (.cells #[.int .i64 (0), .int .i64 (0)] 24)
    obtain ⟨c00, c01, c02, c03⟩ := X.open2
    go_wp2_with fail
    refine (valid_c _ _ _).mono ?_
    rw [e1.out]
    rintro e w1 ⟨rfl, hb⟩
    clear c00 c01 c02 c03
    replace X := X.keep hb
    replace Y := Y.keep hb
    replace R := R.keep hb
    replace hB := bt hB hb
    clear hb
    obtain ⟨r00, r01, r02, r03⟩ := R.open2
    go_wp2_with fail
    refine bodyPost_ret (by simp [results, Try.results14, go_sem, r00, r01, r02, r03]; try rfl) rfl ?_
    exact ⟨rfl, by repeat (first | exact Below.refl _ _ | (with_reducible assumption) | (with_reducible apply bal) | (with_reducible apply bdr) | (with_reducible apply bdnl) | (with_reducible refine bst ?_ (by first | (simp; done) | (simp; omega) | omega) _) | (with_reducible refine bt ?_ (by with_reducible assumption)))⟩
  by_cases v2 : Iv.Vd l' h'
  rotate_left
  · rw [if_neg (by rintro ⟨q1, q2⟩; exact v2 q2)]
    have e1 := Lib.hid (Iv.vb_yes v)
    have e2 := Lib.hid (Iv.vb_no v2)
    clear v v2
    go_enter Try.func14, Try.ntmps14
    have X := Blk.new w 24 #[.int .i64 (l), .int .i64 (h)]
    have hB := ba w (.cells #[.int .i64 (l), .int .i64 (h)] 24)
    have Y := Blk.new1 w (.cells #[.int .i64 (l), .int .i64 (h)] 24) 24 #[.int .i64 (l'), .int .i64 (h')]
    replace X := X.alloc (.cells #[.int .i64 (l'), .int .i64 (h')] 24)
    replace hB := bal hB (.cells #[.int .i64 (l'), .int .i64 (h')] 24)
    have R := Blk.new2 w (.cells #[.int .i64 (l), .int .i64 (h)] 24) (.cells #[.int .i64 (l'), .int .i64 (h')] 24) 24 #[.int .i64 (0), .int .i64 (0)]
    replace X := X.alloc (.cells #[.int .i64 (0), .int .i64 (0)] 24)
    replace Y := Y.alloc (.cells #[.int .i64 (0), .int .i64 (0)] 24)
    replace hB := bal hB (.cells #[.int .i64 (0), .int .i64 (0)] 24)
    obtain ⟨c00, c01, c02, c03⟩ := X.open2
    go_wp2_with fail
    refine (valid_c _ _ _).mono ?_
    rw [e1.out]
    rintro e w1 ⟨rfl, hb⟩
    clear c00 c01 c02 c03
    replace X := X.keep hb
    replace Y := Y.keep hb
    replace R := R.keep hb
    replace hB := bt hB hb
    clear hb
    obtain ⟨c00, c01, c02, c03⟩ := Y.open2
    go_wp2_with fail
    refine (valid_c _ _ _).mono ?_
    rw [e2.out]
    rintro e w2 ⟨rfl, hb⟩
    clear c00 c01 c02 c03
    replace X := X.keep hb
    replace Y := Y.keep hb
    replace R := R.keep hb
    replace hB := bt hB hb
    clear hb
    obtain ⟨r00, r01, r02, r03⟩ := R.open2
    go_wp2_with fail
    refine bodyPost_ret (by simp [results, Try.results14, go_sem, r00, r01, r02, r03]; try rfl) rfl ?_
    exact ⟨rfl, by repeat (first | exact Below.refl _ _ | (with_reducible assumption) | (with_reducible apply bal) | (with_reducible apply bdr) | (with_reducible apply bdnl) | (with_reducible refine bst ?_ (by first | (simp; done) | (simp; omega) | omega) _) | (with_reducible refine bt ?_ (by with_reducible assumption)))⟩
  rw [if_pos ⟨v, v2⟩, ← mn_four, ← mx_four]
  have e1 := Lib.hid (Iv.vb_yes v)
  have e2 := Lib.hid (Iv.vb_yes v2)
  have x1 : -9223372036854775808 ≤ l := by unfold Iv.Vd at *; omega
  have x2 : l ≤ 9223372036854775807 := by unfold Iv.Vd at *; omega
  have xx1 : -9223372036854775808 ≤ h := by unfold Iv.Vd at *; omega
  have xx2 : h ≤ 9223372036854775807 := by unfold Iv.Vd at *; omega
  have y1 : -9223372036854775808 ≤ l' := by unfold Iv.Vd at *; omega
  have y2 : l' ≤ 9223372036854775807 := by unfold Iv.Vd at *; omega
  have yy1 : -9223372036854775808 ≤ h' := by unfold Iv.Vd at *; omega
  have yy2 : h' ≤ 9223372036854775807 := by unfold Iv.Vd at *; omega
  have m1 := mul_W x1 x2 y1 y2
  have m2 := mul_W x1 x2 yy1 yy2
  have m3 := mul_W xx1 xx2 y1 y2
  have m4 := mul_W xx1 xx2 yy1 yy2
  have HF := Lib.hid (four_W m1 m2 m3 m4)
  clear v v2
  go_enter Try.func14, Try.ntmps14
  have X := Blk.new w 24 #[.int .i64 (l), .int .i64 (h)]
  have hB := ba w (.cells #[.int .i64 (l), .int .i64 (h)] 24)
  have Y := Blk.new1 w (.cells #[.int .i64 (l), .int .i64 (h)] 24) 24 #[.int .i64 (l'), .int .i64 (h')]
  replace X := X.alloc (.cells #[.int .i64 (l'), .int .i64 (h')] 24)
  replace hB := bal hB (.cells #[.int .i64 (l'), .int .i64 (h')] 24)
  have R := Blk.new2 w (.cells #[.int .i64 (l), .int .i64 (h)] 24) (.cells #[.int .i64 (l'), .int .i64 (h')] 24) 24 #[.int .i64 (0), .int .i64 (0)]
  replace X := X.alloc (.cells #[.int .i64 (0), .int .i64 (0)] 24)
  replace Y := Y.alloc (.cells #[.int .i64 (0), .int .i64 (0)] 24)
  replace hB := bal hB (.cells #[.int .i64 (0), .int .i64 (0)] 24)
  obtain ⟨c00, c01, c02, c03⟩ := X.open2
  go_wp2_with fail
  refine (valid_c _ _ _).mono ?_
  rw [e1.out]
  rintro e w1 ⟨rfl, hb⟩
  clear c00 c01 c02 c03
  replace X := X.keep hb
  replace Y := Y.keep hb
  replace R := R.keep hb
  replace hB := bt hB hb
  clear hb
  obtain ⟨c00, c01, c02, c03⟩ := Y.open2
  go_wp2_with fail
  refine (valid_c _ _ _).mono ?_
  rw [e2.out]
  rintro e w2 ⟨rfl, hb⟩
  clear c00 c01 c02 c03
  replace X := X.keep hb
  replace Y := Y.keep hb
  replace R := R.keep hb
  replace hB := bt hB hb
  clear hb
  obtain ⟨c00, c01, c02, c03⟩ := X.open2
  obtain ⟨c10, c11, c12, c13⟩ := Y.open2
  go_wp2_with fail
  refine (mul_c _ _ _ x1 x2 y1 y2).mono ?_
  rintro e w3 ⟨rfl, hb⟩
  clear c00 c01 c02 c03 c10 c11 c12 c13
  replace X := X.keep hb
  replace Y := Y.keep hb
  replace R := R.keep hb
  replace hB := bt hB hb
  clear hb
  have hz3 := hB.size
  have l3X := X.lt
  have l3Y := Y.lt
  have l3R := R.lt
  replace X := X.alloc (.cells #[.int .i64 (Wi.Hq (l * l')), .int .u64 (Wi.Lr (l * l'))] 46)
  replace Y := Y.alloc (.cells #[.int .i64 (Wi.Hq (l * l')), .int .u64 (Wi.Lr (l * l'))] 46)
  replace R := R.alloc (.cells #[.int .i64 (Wi.Hq (l * l')), .int .u64 (Wi.Lr (l * l'))] 46)
  replace hB := bal hB (.cells #[.int .i64 (Wi.Hq (l * l')), .int .u64 (Wi.Lr (l * l'))] 46)
  have ML := Blk.new w3 46 #[.int .i64 (Wi.Hq (l * l')), .int .u64 (Wi.Lr (l * l'))]
  replace X := X.alloc (.cells #[.int .i64 (Wi.Hq (l * l')), .int .u64 (Wi.Lr (l * l'))] 46)
  replace Y := Y.alloc (.cells #[.int .i64 (Wi.Hq (l * l')), .int .u64 (Wi.Lr (l * l'))] 46)
  replace R := R.alloc (.cells #[.int .i64 (Wi.Hq (l * l')), .int .u64 (Wi.Lr (l * l'))] 46)
  replace ML := ML.alloc (.cells #[.int .i64 (Wi.Hq (l * l')), .int .u64 (Wi.Lr (l * l'))] 46)
  replace hB := bal hB (.cells #[.int .i64 (Wi.Hq (l * l')), .int .u64 (Wi.Lr (l * l'))] 46)
  have MH := Blk.new1 w3 (.cells #[.int .i64 (Wi.Hq (l * l')), .int .u64 (Wi.Lr (l * l'))] 46) 46 #[.int .i64 (Wi.Hq (l * l')), .int .u64 (Wi.Lr (l * l'))]
  obtain ⟨c00, c01, c02, c03⟩ := ML.open2
  go_wp2_with fail
  refine wp_region_inv (fun L x G wx => Below w.heap.size w wx
        ∧ w.heap.size < wx.heap.size
        ∧ Blk wx (w.heap.size) 24 #[.int .i64 (l), .int .i64 (h)]
        ∧ w.heap.size + 1 < wx.heap.size
        ∧ Blk wx (w.heap.size + 1) 24 #[.int .i64 (l'), .int .i64 (h')]
        ∧ w.heap.size + 1 + 1 < wx.heap.size
        ∧ Blk wx (w.heap.size + 1 + 1) 24 #[.int .i64 (0), .int .i64 (0)]
        ∧ w3.heap.size < wx.heap.size
        ∧ Blk wx (w3.heap.size) 46 #[.int .i64 (Wi.Hq (l * l')), .int .u64 (Wi.Lr (l * l'))]
        ∧ w3.heap.size + 1 < wx.heap.size
        ∧ Blk wx (w3.heap.size + 1) 46 #[.int .i64 (Wi.Hq (l * l')), .int .u64 (Wi.Lr (l * l'))]
        ∧ (L 0 → x 29 = .pointer (some ⟨w.heap.size, 0, none⟩))
        ∧ (L 1 → x 30 = .int .i64 (l))
        ∧ (L 2 → x 31 = .pointer (some ⟨w.heap.size + 1, 1, none⟩))
        ∧ (L 3 → x 32 = .int .i64 (h'))
        ∧ (L 4 → x 33 = .agg #[.int .i64 (Wi.Hq (l * h')), .int .u64 (Wi.Lr (l * h'))])
        ∧ (L 5 → x 34 = .pointer (some ⟨w.heap.size, 1, none⟩))
        ∧ (L 6 → x 35 = .int .i64 (h))
        ∧ (L 7 → x 36 = .pointer (some ⟨w.heap.size + 1, 0, none⟩))
        ∧ (L 8 → x 37 = .int .i64 (l'))
        ∧ (L 9 → x 38 = .agg #[.int .i64 (Wi.Hq (h * l')), .int .u64 (Wi.Lr (h * l'))])
        ∧ (L 10 → x 39 = .pointer (some ⟨w.heap.size, 1, none⟩))
        ∧ (L 11 → x 40 = .int .i64 (h))
        ∧ (L 12 → x 41 = .pointer (some ⟨w.heap.size + 1, 1, none⟩))
        ∧ (L 13 → x 42 = .int .i64 (h'))
        ∧ (L 14 → x 43 = .agg #[.int .i64 (Wi.Hq (h * h')), .int .u64 (Wi.Lr (h * h'))])
        ∧ (L 15 → x 44 = .agg #[.int .i64 (Wi.Hq (l * h')), .int .u64 (Wi.Lr (l * h')), .int .i64 (Wi.Hq (h * l')), .int .u64 (Wi.Lr (h * l')), .int .i64 (Wi.Hq (h * h')), .int .u64 (Wi.Lr (h * h'))])
        ∧ (L 16 → x 45 = .int .i64 (0))) [29, 30, 31, 32, 33, 34, 35, 36, 37, 38, 39, 40, 41, 42, 43, 44, 45] 17 (by kernel_rfl) (by kernel_rfl) (by kernel_rfl) ?h0 ?st ?fin
  case h0 =>
    exact ⟨bdr hB, Blk.lt X.drew, X.drew, Blk.lt Y.drew, Y.drew, Blk.lt R.drew, R.drew, Blk.lt ML.drew, ML.drew, Blk.lt MH.drew, MH.drew, fun q => q.elim, fun q => q.elim, fun q => q.elim, fun q => q.elim, fun q => q.elim, fun q => q.elim, fun q => q.elim, fun q => q.elim, fun q => q.elim, fun q => q.elim, fun q => q.elim, fun q => q.elim, fun q => q.elim, fun q => q.elim, fun q => q.elim, fun q => q.elim, fun q => q.elim⟩
  case st =>
    refine StepsOk.cons (i := 0) rfl (fun L x G w1 K Q hn hp hJ hK => ?_) ?_
    · skip
      simp only [putAll, Act.put, List.setIfInBounds_toArray, List.set_cons_zero, List.set_cons_succ]
      go_simp
      refine hK _ G _ (by kernel_rfl) ?_
      exact ⟨(hJ.1),
        (hJ.2.1),
        (hJ.2.2.1),
        (hJ.2.2.2.1),
        (hJ.2.2.2.2.1),
        (hJ.2.2.2.2.2.1),
        (hJ.2.2.2.2.2.2.1),
        (hJ.2.2.2.2.2.2.2.1),
        (hJ.2.2.2.2.2.2.2.2.1),
        (hJ.2.2.2.2.2.2.2.2.2.1),
        (hJ.2.2.2.2.2.2.2.2.2.2.1),
        fun _ => rfl,
        fun q => (hJ.2.2.2.2.2.2.2.2.2.2.2.2.1) (q.resolve_left (by decide)),
        fun q => (hJ.2.2.2.2.2.2.2.2.2.2.2.2.2.1) (q.resolve_left (by decide)),
        fun q => (hJ.2.2.2.2.2.2.2.2.2.2.2.2.2.2.1) (q.resolve_left (by decide)),
        fun q => (hJ.2.2.2.2.2.2.2.2.2.2.2.2.2.2.2.1) (q.resolve_left (by decide)),
        fun q => (hJ.2.2.2.2.2.2.2.2.2.2.2.2.2.2.2.2.1) (q.resolve_left (by decide)),
        fun q => (hJ.2.2.2.2.2.2.2.2.2.2.2.2.2.2.2.2.2.1) (q.resolve_left (by decide)),
        fun q => (hJ.2.2.2.2.2.2.2.2.2.2.2.2.2.2.2.2.2.2.1) (q.resolve_left (by decide)),
        fun q => (hJ.2.2.2.2.2.2.2.2.2.2.2.2.2.2.2.2.2.2.2.1) (q.resolve_left (by decide)),
        fun q => (hJ.2.2.2.2.2.2.2.2.2.2.2.2.2.2.2.2.2.2.2.2.1) (q.resolve_left (by decide)),
        fun q => (hJ.2.2.2.2.2.2.2.2.2.2.2.2.2.2.2.2.2.2.2.2.2.1) (q.resolve_left (by decide)),
        fun q => (hJ.2.2.2.2.2.2.2.2.2.2.2.2.2.2.2.2.2.2.2.2.2.2.1) (q.resolve_left (by decide)),
        fun q => (hJ.2.2.2.2.2.2.2.2.2.2.2.2.2.2.2.2.2.2.2.2.2.2.2.1) (q.resolve_left (by decide)),
        fun q => (hJ.2.2.2.2.2.2.2.2.2.2.2.2.2.2.2.2.2.2.2.2.2.2.2.2.1) (q.resolve_left (by decide)),
        fun q => (hJ.2.2.2.2.2.2.2.2.2.2.2.2.2.2.2.2.2.2.2.2.2.2.2.2.2.1) (q.resolve_left (by decide)),
        fun q => (hJ.2.2.2.2.2.2.2.2.2.2.2.2.2.2.2.2.2.2.2.2.2.2.2.2.2.2.1) (q.resolve_left (by decide)),
        fun q => (hJ.2.2.2.2.2.2.2.2.2.2.2.2.2.2.2.2.2.2.2.2.2.2.2.2.2.2.2) (q.resolve_left (by decide))⟩
    refine StepsOk.cons (i := 1) rfl (fun L x G w1 K Q hn hp hJ hK => ?_) ?_
    · skip
      have p0 : L 0 := hp ⟨0, .data⟩ (by simp) rfl
      have e0 := (hJ.2.2.2.2.2.2.2.2.2.2.2.1) p0
      have hc := Blk.open2 ((hJ.2.2.1))
      have c0 := hc.1
      have c1 := hc.2.1
      have c2 := hc.2.2.1
      have c3 := hc.2.2.2
      clear hc
      simp only [putAll, Act.put, List.setIfInBounds_toArray, List.set_cons_zero, List.set_cons_succ]
      go_simp
      refine hK _ G _ (by kernel_rfl) ?_
      exact ⟨(hJ.1),
        (hJ.2.1),
        (hJ.2.2.1),
        (hJ.2.2.2.1),
        (hJ.2.2.2.2.1),
        (hJ.2.2.2.2.2.1),
        (hJ.2.2.2.2.2.2.1),
        (hJ.2.2.2.2.2.2.2.1),
        (hJ.2.2.2.2.2.2.2.2.1),
        (hJ.2.2.2.2.2.2.2.2.2.1),
        (hJ.2.2.2.2.2.2.2.2.2.2.1),
        fun _ => by first | exact rfl | exact e0,
        fun _ => rfl,
        fun q => (hJ.2.2.2.2.2.2.2.2.2.2.2.2.2.1) (q.resolve_left (by decide)),
        fun q => (hJ.2.2.2.2.2.2.2.2.2.2.2.2.2.2.1) (q.resolve_left (by decide)),
        fun q => (hJ.2.2.2.2.2.2.2.2.2.2.2.2.2.2.2.1) (q.resolve_left (by decide)),
        fun q => (hJ.2.2.2.2.2.2.2.2.2.2.2.2.2.2.2.2.1) (q.resolve_left (by decide)),
        fun q => (hJ.2.2.2.2.2.2.2.2.2.2.2.2.2.2.2.2.2.1) (q.resolve_left (by decide)),
        fun q => (hJ.2.2.2.2.2.2.2.2.2.2.2.2.2.2.2.2.2.2.1) (q.resolve_left (by decide)),
        fun q => (hJ.2.2.2.2.2.2.2.2.2.2.2.2.2.2.2.2.2.2.2.1) (q.resolve_left (by decide)),
        fun q => (hJ.2.2.2.2.2.2.2.2.2.2.2.2.2.2.2.2.2.2.2.2.1) (q.resolve_left (by decide)),
        fun q => (hJ.2.2.2.2.2.2.2.2.2.2.2.2.2.2.2.2.2.2.2.2.2.1) (q.resolve_left (by decide)),
        fun q => (hJ.2.2.2.2.2.2.2.2.2.2.2.2.2.2.2.2.2.2.2.2.2.2.1) (q.resolve_left (by decide)),
        fun q => (hJ.2.2.2.2.2.2.2.2.2.2.2.2.2.2.2.2.2.2.2.2.2.2.2.1) (q.resolve_left (by decide)),
        fun q => (hJ.2.2.2.2.2.2.2.2.2.2.2.2.2.2.2.2.2.2.2.2.2.2.2.2.1) (q.resolve_left (by decide)),
        fun q => (hJ.2.2.2.2.2.2.2.2.2.2.2.2.2.2.2.2.2.2.2.2.2.2.2.2.2.1) (q.resolve_left (by decide)),
        fun q => (hJ.2.2.2.2.2.2.2.2.2.2.2.2.2.2.2.2.2.2.2.2.2.2.2.2.2.2.1) (q.resolve_left (by decide)),
        fun q => (hJ.2.2.2.2.2.2.2.2.2.2.2.2.2.2.2.2.2.2.2.2.2.2.2.2.2.2.2) (q.resolve_left (by decide))⟩
    refine StepsOk.cons (i := 2) rfl (fun L x G w1 K Q hn hp hJ hK => ?_) ?_
    · skip
      simp only [putAll, Act.put, List.setIfInBounds_toArray, List.set_cons_zero, List.set_cons_succ]
      go_simp
      refine hK _ G _ (by kernel_rfl) ?_
      exact ⟨(hJ.1),
        (hJ.2.1),
        (hJ.2.2.1),
        (hJ.2.2.2.1),
        (hJ.2.2.2.2.1),
        (hJ.2.2.2.2.2.1),
        (hJ.2.2.2.2.2.2.1),
        (hJ.2.2.2.2.2.2.2.1),
        (hJ.2.2.2.2.2.2.2.2.1),
        (hJ.2.2.2.2.2.2.2.2.2.1),
        (hJ.2.2.2.2.2.2.2.2.2.2.1),
        fun q => (hJ.2.2.2.2.2.2.2.2.2.2.2.1) (q.resolve_left (by decide)),
        fun q => (hJ.2.2.2.2.2.2.2.2.2.2.2.2.1) (q.resolve_left (by decide)),
        fun _ => rfl,
        fun q => (hJ.2.2.2.2.2.2.2.2.2.2.2.2.2.2.1) (q.resolve_left (by decide)),
        fun q => (hJ.2.2.2.2.2.2.2.2.2.2.2.2.2.2.2.1) (q.resolve_left (by decide)),
        fun q => (hJ.2.2.2.2.2.2.2.2.2.2.2.2.2.2.2.2.1) (q.resolve_left (by decide)),
        fun q => (hJ.2.2.2.2.2.2.2.2.2.2.2.2.2.2.2.2.2.1) (q.resolve_left (by decide)),
        fun q => (hJ.2.2.2.2.2.2.2.2.2.2.2.2.2.2.2.2.2.2.1) (q.resolve_left (by decide)),
        fun q => (hJ.2.2.2.2.2.2.2.2.2.2.2.2.2.2.2.2.2.2.2.1) (q.resolve_left (by decide)),
        fun q => (hJ.2.2.2.2.2.2.2.2.2.2.2.2.2.2.2.2.2.2.2.2.1) (q.resolve_left (by decide)),
        fun q => (hJ.2.2.2.2.2.2.2.2.2.2.2.2.2.2.2.2.2.2.2.2.2.1) (q.resolve_left (by decide)),
        fun q => (hJ.2.2.2.2.2.2.2.2.2.2.2.2.2.2.2.2.2.2.2.2.2.2.1) (q.resolve_left (by decide)),
        fun q => (hJ.2.2.2.2.2.2.2.2.2.2.2.2.2.2.2.2.2.2.2.2.2.2.2.1) (q.resolve_left (by decide)),
        fun q => (hJ.2.2.2.2.2.2.2.2.2.2.2.2.2.2.2.2.2.2.2.2.2.2.2.2.1) (q.resolve_left (by decide)),
        fun q => (hJ.2.2.2.2.2.2.2.2.2.2.2.2.2.2.2.2.2.2.2.2.2.2.2.2.2.1) (q.resolve_left (by decide)),
        fun q => (hJ.2.2.2.2.2.2.2.2.2.2.2.2.2.2.2.2.2.2.2.2.2.2.2.2.2.2.1) (q.resolve_left (by decide)),
        fun q => (hJ.2.2.2.2.2.2.2.2.2.2.2.2.2.2.2.2.2.2.2.2.2.2.2.2.2.2.2) (q.resolve_left (by decide))⟩
    refine StepsOk.cons (i := 3) rfl (fun L x G w1 K Q hn hp hJ hK => ?_) ?_
    · skip
      have p2 : L 2 := hp ⟨2, .data⟩ (by simp) rfl
      have e2 := (hJ.2.2.2.2.2.2.2.2.2.2.2.2.2.1) p2
      have hc := Blk.open2 ((hJ.2.2.2.2.1))
      have c0 := hc.1
      have c1 := hc.2.1
      have c2 := hc.2.2.1
      have c3 := hc.2.2.2
      clear hc
      simp only [putAll, Act.put, List.setIfInBounds_toArray, List.set_cons_zero, List.set_cons_succ]
      go_simp
      refine hK _ G _ (by kernel_rfl) ?_
      exact ⟨(hJ.1),
        (hJ.2.1),
        (hJ.2.2.1),
        (hJ.2.2.2.1),
        (hJ.2.2.2.2.1),
        (hJ.2.2.2.2.2.1),
        (hJ.2.2.2.2.2.2.1),
        (hJ.2.2.2.2.2.2.2.1),
        (hJ.2.2.2.2.2.2.2.2.1),
        (hJ.2.2.2.2.2.2.2.2.2.1),
        (hJ.2.2.2.2.2.2.2.2.2.2.1),
        fun q => (hJ.2.2.2.2.2.2.2.2.2.2.2.1) (q.resolve_left (by decide)),
        fun q => (hJ.2.2.2.2.2.2.2.2.2.2.2.2.1) (q.resolve_left (by decide)),
        fun _ => by first | exact rfl | exact e2,
        fun _ => rfl,
        fun q => (hJ.2.2.2.2.2.2.2.2.2.2.2.2.2.2.2.1) (q.resolve_left (by decide)),
        fun q => (hJ.2.2.2.2.2.2.2.2.2.2.2.2.2.2.2.2.1) (q.resolve_left (by decide)),
        fun q => (hJ.2.2.2.2.2.2.2.2.2.2.2.2.2.2.2.2.2.1) (q.resolve_left (by decide)),
        fun q => (hJ.2.2.2.2.2.2.2.2.2.2.2.2.2.2.2.2.2.2.1) (q.resolve_left (by decide)),
        fun q => (hJ.2.2.2.2.2.2.2.2.2.2.2.2.2.2.2.2.2.2.2.1) (q.resolve_left (by decide)),
        fun q => (hJ.2.2.2.2.2.2.2.2.2.2.2.2.2.2.2.2.2.2.2.2.1) (q.resolve_left (by decide)),
        fun q => (hJ.2.2.2.2.2.2.2.2.2.2.2.2.2.2.2.2.2.2.2.2.2.1) (q.resolve_left (by decide)),
        fun q => (hJ.2.2.2.2.2.2.2.2.2.2.2.2.2.2.2.2.2.2.2.2.2.2.1) (q.resolve_left (by decide)),
        fun q => (hJ.2.2.2.2.2.2.2.2.2.2.2.2.2.2.2.2.2.2.2.2.2.2.2.1) (q.resolve_left (by decide)),
        fun q => (hJ.2.2.2.2.2.2.2.2.2.2.2.2.2.2.2.2.2.2.2.2.2.2.2.2.1) (q.resolve_left (by decide)),
        fun q => (hJ.2.2.2.2.2.2.2.2.2.2.2.2.2.2.2.2.2.2.2.2.2.2.2.2.2.1) (q.resolve_left (by decide)),
        fun q => (hJ.2.2.2.2.2.2.2.2.2.2.2.2.2.2.2.2.2.2.2.2.2.2.2.2.2.2.1) (q.resolve_left (by decide)),
        fun q => (hJ.2.2.2.2.2.2.2.2.2.2.2.2.2.2.2.2.2.2.2.2.2.2.2.2.2.2.2) (q.resolve_left (by decide))⟩
    refine StepsOk.cons (i := 4) rfl (fun L x G w1 K Q hn hp hJ hK => ?_) ?_
    · skip
      have p1 : L 1 := hp ⟨1, .data⟩ (by simp) rfl
      have e1 := (hJ.2.2.2.2.2.2.2.2.2.2.2.2.1) p1
      have p3 : L 3 := hp ⟨3, .data⟩ (by simp) rfl
      have e3 := (hJ.2.2.2.2.2.2.2.2.2.2.2.2.2.2.1) p3
      simp only [putAll, Act.put, List.setIfInBounds_toArray, List.set_cons_zero, List.set_cons_succ]
      go_simp
      refine (mul_c _ _ _ x1 x2 yy1 yy2).mono ?_
      rintro e w2 ⟨rfl, hb⟩
      have hz := hb.size
      try go_simp
      refine hK _ G _ (by kernel_rfl) ?_
      exact ⟨bt (hJ.1) hb,
        Nat.lt_of_lt_of_le (hJ.2.1) hb.size,
        Blk.keep ((hJ.2.2.1)) hb,
        Nat.lt_of_lt_of_le (hJ.2.2.2.1) hb.size,
        Blk.keep ((hJ.2.2.2.2.1)) hb,
        Nat.lt_of_lt_of_le (hJ.2.2.2.2.2.1) hb.size,
        Blk.keep ((hJ.2.2.2.2.2.2.1)) hb,
        Nat.lt_of_lt_of_le (hJ.2.2.2.2.2.2.2.1) hb.size,
        Blk.keep ((hJ.2.2.2.2.2.2.2.2.1)) hb,
        Nat.lt_of_lt_of_le (hJ.2.2.2.2.2.2.2.2.2.1) hb.size,
        Blk.keep ((hJ.2.2.2.2.2.2.2.2.2.2.1)) hb,
        fun q => (hJ.2.2.2.2.2.2.2.2.2.2.2.1) (q.resolve_left (by decide)),
        fun _ => by first | exact rfl | exact e1,
        fun q => (hJ.2.2.2.2.2.2.2.2.2.2.2.2.2.1) (q.resolve_left (by decide)),
        fun _ => by first | exact rfl | exact e3,
        fun _ => rfl,
        fun q => (hJ.2.2.2.2.2.2.2.2.2.2.2.2.2.2.2.2.1) (q.resolve_left (by decide)),
        fun q => (hJ.2.2.2.2.2.2.2.2.2.2.2.2.2.2.2.2.2.1) (q.resolve_left (by decide)),
        fun q => (hJ.2.2.2.2.2.2.2.2.2.2.2.2.2.2.2.2.2.2.1) (q.resolve_left (by decide)),
        fun q => (hJ.2.2.2.2.2.2.2.2.2.2.2.2.2.2.2.2.2.2.2.1) (q.resolve_left (by decide)),
        fun q => (hJ.2.2.2.2.2.2.2.2.2.2.2.2.2.2.2.2.2.2.2.2.1) (q.resolve_left (by decide)),
        fun q => (hJ.2.2.2.2.2.2.2.2.2.2.2.2.2.2.2.2.2.2.2.2.2.1) (q.resolve_left (by decide)),
        fun q => (hJ.2.2.2.2.2.2.2.2.2.2.2.2.2.2.2.2.2.2.2.2.2.2.1) (q.resolve_left (by decide)),
        fun q => (hJ.2.2.2.2.2.2.2.2.2.2.2.2.2.2.2.2.2.2.2.2.2.2.2.1) (q.resolve_left (by decide)),
        fun q => (hJ.2.2.2.2.2.2.2.2.2.2.2.2.2.2.2.2.2.2.2.2.2.2.2.2.1) (q.resolve_left (by decide)),
        fun q => (hJ.2.2.2.2.2.2.2.2.2.2.2.2.2.2.2.2.2.2.2.2.2.2.2.2.2.1) (q.resolve_left (by decide)),
        fun q => (hJ.2.2.2.2.2.2.2.2.2.2.2.2.2.2.2.2.2.2.2.2.2.2.2.2.2.2.1) (q.resolve_left (by decide)),
        fun q => (hJ.2.2.2.2.2.2.2.2.2.2.2.2.2.2.2.2.2.2.2.2.2.2.2.2.2.2.2) (q.resolve_left (by decide))⟩
    refine StepsOk.cons (i := 5) rfl (fun L x G w1 K Q hn hp hJ hK => ?_) ?_
    · skip
      simp only [putAll, Act.put, List.setIfInBounds_toArray, List.set_cons_zero, List.set_cons_succ]
      go_simp
      refine hK _ G _ (by kernel_rfl) ?_
      exact ⟨(hJ.1),
        (hJ.2.1),
        (hJ.2.2.1),
        (hJ.2.2.2.1),
        (hJ.2.2.2.2.1),
        (hJ.2.2.2.2.2.1),
        (hJ.2.2.2.2.2.2.1),
        (hJ.2.2.2.2.2.2.2.1),
        (hJ.2.2.2.2.2.2.2.2.1),
        (hJ.2.2.2.2.2.2.2.2.2.1),
        (hJ.2.2.2.2.2.2.2.2.2.2.1),
        fun q => (hJ.2.2.2.2.2.2.2.2.2.2.2.1) (q.resolve_left (by decide)),
        fun q => (hJ.2.2.2.2.2.2.2.2.2.2.2.2.1) (q.resolve_left (by decide)),
        fun q => (hJ.2.2.2.2.2.2.2.2.2.2.2.2.2.1) (q.resolve_left (by decide)),
        fun q => (hJ.2.2.2.2.2.2.2.2.2.2.2.2.2.2.1) (q.resolve_left (by decide)),
        fun q => (hJ.2.2.2.2.2.2.2.2.2.2.2.2.2.2.2.1) (q.resolve_left (by decide)),
        fun _ => rfl,
        fun q => (hJ.2.2.2.2.2.2.2.2.2.2.2.2.2.2.2.2.2.1) (q.resolve_left (by decide)),
        fun q => (hJ.2.2.2.2.2.2.2.2.2.2.2.2.2.2.2.2.2.2.1) (q.resolve_left (by decide)),
        fun q => (hJ.2.2.2.2.2.2.2.2.2.2.2.2.2.2.2.2.2.2.2.1) (q.resolve_left (by decide)),
        fun q => (hJ.2.2.2.2.2.2.2.2.2.2.2.2.2.2.2.2.2.2.2.2.1) (q.resolve_left (by decide)),
        fun q => (hJ.2.2.2.2.2.2.2.2.2.2.2.2.2.2.2.2.2.2.2.2.2.1) (q.resolve_left (by decide)),
        fun q => (hJ.2.2.2.2.2.2.2.2.2.2.2.2.2.2.2.2.2.2.2.2.2.2.1) (q.resolve_left (by decide)),
        fun q => (hJ.2.2.2.2.2.2.2.2.2.2.2.2.2.2.2.2.2.2.2.2.2.2.2.1) (q.resolve_left (by decide)),
        fun q => (hJ.2.2.2.2.2.2.2.2.2.2.2.2.2.2.2.2.2.2.2.2.2.2.2.2.1) (q.resolve_left (by decide)),
        fun q => (hJ.2.2.2.2.2.2.2.2.2.2.2.2.2.2.2.2.2.2.2.2.2.2.2.2.2.1) (q.resolve_left (by decide)),
        fun q => (hJ.2.2.2.2.2.2.2.2.2.2.2.2.2.2.2.2.2.2.2.2.2.2.2.2.2.2.1) (q.resolve_left (by decide)),
        fun q => (hJ.2.2.2.2.2.2.2.2.2.2.2.2.2.2.2.2.2.2.2.2.2.2.2.2.2.2.2) (q.resolve_left (by decide))⟩
    refine StepsOk.cons (i := 6) rfl (fun L x G w1 K Q hn hp hJ hK => ?_) ?_
    · skip
      have p5 : L 5 := hp ⟨5, .data⟩ (by simp) rfl
      have e5 := (hJ.2.2.2.2.2.2.2.2.2.2.2.2.2.2.2.2.1) p5
      have hc := Blk.open2 ((hJ.2.2.1))
      have c0 := hc.1
      have c1 := hc.2.1
      have c2 := hc.2.2.1
      have c3 := hc.2.2.2
      clear hc
      simp only [putAll, Act.put, List.setIfInBounds_toArray, List.set_cons_zero, List.set_cons_succ]
      go_simp
      refine hK _ G _ (by kernel_rfl) ?_
      exact ⟨(hJ.1),
        (hJ.2.1),
        (hJ.2.2.1),
        (hJ.2.2.2.1),
        (hJ.2.2.2.2.1),
        (hJ.2.2.2.2.2.1),
        (hJ.2.2.2.2.2.2.1),
        (hJ.2.2.2.2.2.2.2.1),
        (hJ.2.2.2.2.2.2.2.2.1),
        (hJ.2.2.2.2.2.2.2.2.2.1),
        (hJ.2.2.2.2.2.2.2.2.2.2.1),
        fun q => (hJ.2.2.2.2.2.2.2.2.2.2.2.1) (q.resolve_left (by decide)),
        fun q => (hJ.2.2.2.2.2.2.2.2.2.2.2.2.1) (q.resolve_left (by decide)),
        fun q => (hJ.2.2.2.2.2.2.2.2.2.2.2.2.2.1) (q.resolve_left (by decide)),
        fun q => (hJ.2.2.2.2.2.2.2.2.2.2.2.2.2.2.1) (q.resolve_left (by decide)),
        fun q => (hJ.2.2.2.2.2.2.2.2.2.2.2.2.2.2.2.1) (q.resolve_left (by decide)),
        fun _ => by first | exact rfl | exact e5,
        fun _ => rfl,
        fun q => (hJ.2.2.2.2.2.2.2.2.2.2.2.2.2.2.2.2.2.2.1) (q.resolve_left (by decide)),
        fun q => (hJ.2.2.2.2.2.2.2.2.2.2.2.2.2.2.2.2.2.2.2.1) (q.resolve_left (by decide)),
        fun q => (hJ.2.2.2.2.2.2.2.2.2.2.2.2.2.2.2.2.2.2.2.2.1) (q.resolve_left (by decide)),
        fun q => (hJ.2.2.2.2.2.2.2.2.2.2.2.2.2.2.2.2.2.2.2.2.2.1) (q.resolve_left (by decide)),
        fun q => (hJ.2.2.2.2.2.2.2.2.2.2.2.2.2.2.2.2.2.2.2.2.2.2.1) (q.resolve_left (by decide)),
        fun q => (hJ.2.2.2.2.2.2.2.2.2.2.2.2.2.2.2.2.2.2.2.2.2.2.2.1) (q.resolve_left (by decide)),
        fun q => (hJ.2.2.2.2.2.2.2.2.2.2.2.2.2.2.2.2.2.2.2.2.2.2.2.2.1) (q.resolve_left (by decide)),
        fun q => (hJ.2.2.2.2.2.2.2.2.2.2.2.2.2.2.2.2.2.2.2.2.2.2.2.2.2.1) (q.resolve_left (by decide)),
        fun q => (hJ.2.2.2.2.2.2.2.2.2.2.2.2.2.2.2.2.2.2.2.2.2.2.2.2.2.2.1) (q.resolve_left (by decide)),
        fun q => (hJ.2.2.2.2.2.2.2.2.2.2.2.2.2.2.2.2.2.2.2.2.2.2.2.2.2.2.2) (q.resolve_left (by decide))⟩
    refine StepsOk.cons (i := 7) rfl (fun L x G w1 K Q hn hp hJ hK => ?_) ?_
    · skip
      simp only [putAll, Act.put, List.setIfInBounds_toArray, List.set_cons_zero, List.set_cons_succ]
      go_simp
      refine hK _ G _ (by kernel_rfl) ?_
      exact ⟨(hJ.1),
        (hJ.2.1),
        (hJ.2.2.1),
        (hJ.2.2.2.1),
        (hJ.2.2.2.2.1),
        (hJ.2.2.2.2.2.1),
        (hJ.2.2.2.2.2.2.1),
        (hJ.2.2.2.2.2.2.2.1),
        (hJ.2.2.2.2.2.2.2.2.1),
        (hJ.2.2.2.2.2.2.2.2.2.1),
        (hJ.2.2.2.2.2.2.2.2.2.2.1),
        fun q => (hJ.2.2.2.2.2.2.2.2.2.2.2.1) (q.resolve_left (by decide)),
        fun q => (hJ.2.2.2.2.2.2.2.2.2.2.2.2.1) (q.resolve_left (by decide)),
        fun q => (hJ.2.2.2.2.2.2.2.2.2.2.2.2.2.1) (q.resolve_left (by decide)),
        fun q => (hJ.2.2.2.2.2.2.2.2.2.2.2.2.2.2.1) (q.resolve_left (by decide)),
        fun q => (hJ.2.2.2.2.2.2.2.2.2.2.2.2.2.2.2.1) (q.resolve_left (by decide)),
        fun q => (hJ.2.2.2.2.2.2.2.2.2.2.2.2.2.2.2.2.1) (q.resolve_left (by decide)),
        fun q => (hJ.2.2.2.2.2.2.2.2.2.2.2.2.2.2.2.2.2.1) (q.resolve_left (by decide)),
        fun _ => rfl,
        fun q => (hJ.2.2.2.2.2.2.2.2.2.2.2.2.2.2.2.2.2.2.2.1) (q.resolve_left (by decide)),
        fun q => (hJ.2.2.2.2.2.2.2.2.2.2.2.2.2.2.2.2.2.2.2.2.1) (q.resolve_left (by decide)),
        fun q => (hJ.2.2.2.2.2.2.2.2.2.2.2.2.2.2.2.2.2.2.2.2.2.1) (q.resolve_left (by decide)),
        fun q => (hJ.2.2.2.2.2.2.2.2.2.2.2.2.2.2.2.2.2.2.2.2.2.2.1) (q.resolve_left (by decide)),
        fun q => (hJ.2.2.2.2.2.2.2.2.2.2.2.2.2.2.2.2.2.2.2.2.2.2.2.1) (q.resolve_left (by decide)),
        fun q => (hJ.2.2.2.2.2.2.2.2.2.2.2.2.2.2.2.2.2.2.2.2.2.2.2.2.1) (q.resolve_left (by decide)),
        fun q => (hJ.2.2.2.2.2.2.2.2.2.2.2.2.2.2.2.2.2.2.2.2.2.2.2.2.2.1) (q.resolve_left (by decide)),
        fun q => (hJ.2.2.2.2.2.2.2.2.2.2.2.2.2.2.2.2.2.2.2.2.2.2.2.2.2.2.1) (q.resolve_left (by decide)),
        fun q => (hJ.2.2.2.2.2.2.2.2.2.2.2.2.2.2.2.2.2.2.2.2.2.2.2.2.2.2.2) (q.resolve_left (by decide))⟩
    refine StepsOk.cons (i := 8) rfl (fun L x G w1 K Q hn hp hJ hK => ?_) ?_
    · skip
      have p7 : L 7 := hp ⟨7, .data⟩ (by simp) rfl
      have e7 := (hJ.2.2.2.2.2.2.2.2.2.2.2.2.2.2.2.2.2.2.1) p7
      have hc := Blk.open2 ((hJ.2.2.2.2.1))
      have c0 := hc.1
      have c1 := hc.2.1
      have c2 := hc.2.2.1
      have c3 := hc.2.2.2
      clear hc
      simp only [putAll, Act.put, List.setIfInBounds_toArray, List.set_cons_zero, List.set_cons_succ]
      go_simp
      refine hK _ G _ (by kernel_rfl) ?_
      exact ⟨(hJ.1),
        (hJ.2.1),
        (hJ.2.2.1),
        (hJ.2.2.2.1),
        (hJ.2.2.2.2.1),
        (hJ.2.2.2.2.2.1),
        (hJ.2.2.2.2.2.2.1),
        (hJ.2.2.2.2.2.2.2.1),
        (hJ.2.2.2.2.2.2.2.2.1),
        (hJ.2.2.2.2.2.2.2.2.2.1),
        (hJ.2.2.2.2.2.2.2.2.2.2.1),
        fun q => (hJ.2.2.2.2.2.2.2.2.2.2.2.1) (q.resolve_left (by decide)),
        fun q => (hJ.2.2.2.2.2.2.2.2.2.2.2.2.1) (q.resolve_left (by decide)),
        fun q => (hJ.2.2.2.2.2.2.2.2.2.2.2.2.2.1) (q.resolve_left (by decide)),
        fun q => (hJ.2.2.2.2.2.2.2.2.2.2.2.2.2.2.1) (q.resolve_left (by decide)),
        fun q => (hJ.2.2.2.2.2.2.2.2.2.2.2.2.2.2.2.1) (q.resolve_left (by decide)),
        fun q => (hJ.2.2.2.2.2.2.2.2.2.2.2.2.2.2.2.2.1) (q.resolve_left (by decide)),
        fun q => (hJ.2.2.2.2.2.2.2.2.2.2.2.2.2.2.2.2.2.1) (q.resolve_left (by decide)),
        fun _ => by first | exact rfl | exact e7,
        fun _ => rfl,
        fun q => (hJ.2.2.2.2.2.2.2.2.2.2.2.2.2.2.2.2.2.2.2.2.1) (q.resolve_left (by decide)),
        fun q => (hJ.2.2.2.2.2.2.2.2.2.2.2.2.2.2.2.2.2.2.2.2.2.1) (q.resolve_left (by decide)),
        fun q => (hJ.2.2.2.2.2.2.2.2.2.2.2.2.2.2.2.2.2.2.2.2.2.2.1) (q.resolve_left (by decide)),
        fun q => (hJ.2.2.2.2.2.2.2.2.2.2.2.2.2.2.2.2.2.2.2.2.2.2.2.1) (q.resolve_left (by decide)),
        fun q => (hJ.2.2.2.2.2.2.2.2.2.2.2.2.2.2.2.2.2.2.2.2.2.2.2.2.1) (q.resolve_left (by decide)),
        fun q => (hJ.2.2.2.2.2.2.2.2.2.2.2.2.2.2.2.2.2.2.2.2.2.2.2.2.2.1) (q.resolve_left (by decide)),
        fun q => (hJ.2.2.2.2.2.2.2.2.2.2.2.2.2.2.2.2.2.2.2.2.2.2.2.2.2.2.1) (q.resolve_left (by decide)),
        fun q => (hJ.2.2.2.2.2.2.2.2.2.2.2.2.2.2.2.2.2.2.2.2.2.2.2.2.2.2.2) (q.resolve_left (by decide))⟩
    refine StepsOk.cons (i := 9) rfl (fun L x G w1 K Q hn hp hJ hK => ?_) ?_
    · skip
      have p6 : L 6 := hp ⟨6, .data⟩ (by simp) rfl
      have e6 := (hJ.2.2.2.2.2.2.2.2.2.2.2.2.2.2.2.2.2.1) p6
      have p8 : L 8 := hp ⟨8, .data⟩ (by simp) rfl
      have e8 := (hJ.2.2.2.2.2.2.2.2.2.2.2.2.2.2.2.2.2.2.2.1) p8
      simp only [putAll, Act.put, List.setIfInBounds_toArray, List.set_cons_zero, List.set_cons_succ]
      go_simp
      refine (mul_c _ _ _ xx1 xx2 y1 y2).mono ?_
      rintro e w2 ⟨rfl, hb⟩
      have hz := hb.size
      try go_simp
      refine hK _ G _ (by kernel_rfl) ?_
      exact ⟨bt (hJ.1) hb,
        Nat.lt_of_lt_of_le (hJ.2.1) hb.size,
        Blk.keep ((hJ.2.2.1)) hb,
        Nat.lt_of_lt_of_le (hJ.2.2.2.1) hb.size,
        Blk.keep ((hJ.2.2.2.2.1)) hb,
        Nat.lt_of_lt_of_le (hJ.2.2.2.2.2.1) hb.size,
        Blk.keep ((hJ.2.2.2.2.2.2.1)) hb,
        Nat.lt_of_lt_of_le (hJ.2.2.2.2.2.2.2.1) hb.size,
        Blk.keep ((hJ.2.2.2.2.2.2.2.2.1)) hb,
        Nat.lt_of_lt_of_le (hJ.2.2.2.2.2.2.2.2.2.1) hb.size,
        Blk.keep ((hJ.2.2.2.2.2.2.2.2.2.2.1)) hb,
        fun q => (hJ.2.2.2.2.2.2.2.2.2.2.2.1) (q.resolve_left (by decide)),
        fun q => (hJ.2.2.2.2.2.2.2.2.2.2.2.2.1) (q.resolve_left (by decide)),
        fun q => (hJ.2.2.2.2.2.2.2.2.2.2.2.2.2.1) (q.resolve_left (by decide)),
        fun q => (hJ.2.2.2.2.2.2.2.2.2.2.2.2.2.2.1) (q.resolve_left (by decide)),
        fun q => (hJ.2.2.2.2.2.2.2.2.2.2.2.2.2.2.2.1) (q.resolve_left (by decide)),
        fun q => (hJ.2.2.2.2.2.2.2.2.2.2.2.2.2.2.2.2.1) (q.resolve_left (by decide)),
        fun _ => by first | exact rfl | exact e6,
        fun q => (hJ.2.2.2.2.2.2.2.2.2.2.2.2.2.2.2.2.2.2.1) (q.resolve_left (by decide)),
        fun _ => by first | exact rfl | exact e8,
        fun _ => rfl,
        fun q => (hJ.2.2.2.2.2.2.2.2.2.2.2.2.2.2.2.2.2.2.2.2.2.1) (q.resolve_left (by decide)),
        fun q => (hJ.2.2.2.2.2.2.2.2.2.2.2.2.2.2.2.2.2.2.2.2.2.2.1) (q.resolve_left (by decide)),
        fun q => (hJ.2.2.2.2.2.2.2.2.2.2.2.2.2.2.2.2.2.2.2.2.2.2.2.1) (q.resolve_left (by decide)),
        fun q => (hJ.2.2.2.2.2.2.2.2.2.2.2.2.2.2.2.2.2.2.2.2.2.2.2.2.1) (q.resolve_left (by decide)),
        fun q => (hJ.2.2.2.2.2.2.2.2.2.2.2.2.2.2.2.2.2.2.2.2.2.2.2.2.2.1) (q.resolve_left (by decide)),
        fun q => (hJ.2.2.2.2.2.2.2.2.2.2.2.2.2.2.2.2.2.2.2.2.2.2.2.2.2.2.1) (q.resolve_left (by decide)),
        fun q => (hJ.2.2.2.2.2.2.2.2.2.2.2.2.2.2.2.2.2.2.2.2.2.2.2.2.2.2.2) (q.resolve_left (by decide))⟩
    refine StepsOk.cons (i := 10) rfl (fun L x G w1 K Q hn hp hJ hK => ?_) ?_
    · skip
      simp only [putAll, Act.put, List.setIfInBounds_toArray, List.set_cons_zero, List.set_cons_succ]
      go_simp
      refine hK _ G _ (by kernel_rfl) ?_
      exact ⟨(hJ.1),
        (hJ.2.1),
        (hJ.2.2.1),
        (hJ.2.2.2.1),
        (hJ.2.2.2.2.1),
        (hJ.2.2.2.2.2.1),
        (hJ.2.2.2.2.2.2.1),
        (hJ.2.2.2.2.2.2.2.1),
        (hJ.2.2.2.2.2.2.2.2.1),
        (hJ.2.2.2.2.2.2.2.2.2.1),
        (hJ.2.2.2.2.2.2.2.2.2.2.1),
        fun q => (hJ.2.2.2.2.2.2.2.2.2.2.2.1) (q.resolve_left (by decide)),
        fun q => (hJ.2.2.2.2.2.2.2.2.2.2.2.2.1) (q.resolve_left (by decide)),
        fun q => (hJ.2.2.2.2.2.2.2.2.2.2.2.2.2.1) (q.resolve_left (by decide)),
        fun q => (hJ.2.2.2.2.2.2.2.2.2.2.2.2.2.2.1) (q.resolve_left (by decide)),
        fun q => (hJ.2.2.2.2.2.2.2.2.2.2.2.2.2.2.2.1) (q.resolve_left (by decide)),
        fun q => (hJ.2.2.2.2.2.2.2.2.2.2.2.2.2.2.2.2.1) (q.resolve_left (by decide)),
        fun q => (hJ.2.2.2.2.2.2.2.2.2.2.2.2.2.2.2.2.2.1) (q.resolve_left (by decide)),
        fun q => (hJ.2.2.2.2.2.2.2.2.2.2.2.2.2.2.2.2.2.2.1) (q.resolve_left (by decide)),
        fun q => (hJ.2.2.2.2.2.2.2.2.2.2.2.2.2.2.2.2.2.2.2.1) (q.resolve_left (by decide)),
        fun q => (hJ.2.2.2.2.2.2.2.2.2.2.2.2.2.2.2.2.2.2.2.2.1) (q.resolve_left (by decide)),
        fun _ => rfl,
        fun q => (hJ.2.2.2.2.2.2.2.2.2.2.2.2.2.2.2.2.2.2.2.2.2.2.1) (q.resolve_left (by decide)),
        fun q => (hJ.2.2.2.2.2.2.2.2.2.2.2.2.2.2.2.2.2.2.2.2.2.2.2.1) (q.resolve_left (by decide)),
        fun q => (hJ.2.2.2.2.2.2.2.2.2.2.2.2.2.2.2.2.2.2.2.2.2.2.2.2.1) (q.resolve_left (by decide)),
        fun q => (hJ.2.2.2.2.2.2.2.2.2.2.2.2.2.2.2.2.2.2.2.2.2.2.2.2.2.1) (q.resolve_left (by decide)),
        fun q => (hJ.2.2.2.2.2.2.2.2.2.2.2.2.2.2.2.2.2.2.2.2.2.2.2.2.2.2.1) (q.resolve_left (by decide)),
        fun q => (hJ.2.2.2.2.2.2.2.2.2.2.2.2.2.2.2.2.2.2.2.2.2.2.2.2.2.2.2) (q.resolve_left (by decide))⟩
    refine StepsOk.cons (i := 11) rfl (fun L x G w1 K Q hn hp hJ hK => ?_) ?_
    · skip
      have p10 : L 10 := hp ⟨10, .data⟩ (by simp) rfl
      have e10 := (hJ.2.2.2.2.2.2.2.2.2.2.2.2.2.2.2.2.2.2.2.2.2.1) p10
      have hc := Blk.open2 ((hJ.2.2.1))
      have c0 := hc.1
      have c1 := hc.2.1
      have c2 := hc.2.2.1
      have c3 := hc.2.2.2
      clear hc
      simp only [putAll, Act.put, List.setIfInBounds_toArray, List.set_cons_zero, List.set_cons_succ]
      go_simp
      refine hK _ G _ (by kernel_rfl) ?_
      exact ⟨(hJ.1),
        (hJ.2.1),
        (hJ.2.2.1),
        (hJ.2.2.2.1),
        (hJ.2.2.2.2.1),
        (hJ.2.2.2.2.2.1),
        (hJ.2.2.2.2.2.2.1),
        (hJ.2.2.2.2.2.2.2.1),
        (hJ.2.2.2.2.2.2.2.2.1),
        (hJ.2.2.2.2.2.2.2.2.2.1),
        (hJ.2.2.2.2.2.2.2.2.2.2.1),
        fun q => (hJ.2.2.2.2.2.2.2.2.2.2.2.1) (q.resolve_left (by decide)),
        fun q => (hJ.2.2.2.2.2.2.2.2.2.2.2.2.1) (q.resolve_left (by decide)),
        fun q => (hJ.2.2.2.2.2.2.2.2.2.2.2.2.2.1) (q.resolve_left (by decide)),
        fun q => (hJ.2.2.2.2.2.2.2.2.2.2.2.2.2.2.1) (q.resolve_left (by decide)),
        fun q => (hJ.2.2.2.2.2.2.2.2.2.2.2.2.2.2.2.1) (q.resolve_left (by decide)),
        fun q => (hJ.2.2.2.2.2.2.2.2.2.2.2.2.2.2.2.2.1) (q.resolve_left (by decide)),
        fun q => (hJ.2.2.2.2.2.2.2.2.2.2.2.2.2.2.2.2.2.1) (q.resolve_left (by decide)),
        fun q => (hJ.2.2.2.2.2.2.2.2.2.2.2.2.2.2.2.2.2.2.1) (q.resolve_left (by decide)),
        fun q => (hJ.2.2.2.2.2.2.2.2.2.2.2.2.2.2.2.2.2.2.2.1) (q.resolve_left (by decide)),
        fun q => (hJ.2.2.2.2.2.2.2.2.2.2.2.2.2.2.2.2.2.2.2.2.1) (q.resolve_left (by decide)),
        fun _ => by first | exact rfl | exact e10,
        fun _ => rfl,
        fun q => (hJ.2.2.2.2.2.2.2.2.2.2.2.2.2.2.2.2.2.2.2.2.2.2.2.1) (q.resolve_left (by decide)),
        fun q => (hJ.2.2.2.2.2.2.2.2.2.2.2.2.2.2.2.2.2.2.2.2.2.2.2.2.1) (q.resolve_left (by decide)),
        fun q => (hJ.2.2.2.2.2.2.2.2.2.2.2.2.2.2.2.2.2.2.2.2.2.2.2.2.2.1) (q.resolve_left (by decide)),
        fun q => (hJ.2.2.2.2.2.2.2.2.2.2.2.2.2.2.2.2.2.2.2.2.2.2.2.2.2.2.1) (q.resolve_left (by decide)),
        fun q => (hJ.2.2.2.2.2.2.2.2.2.2.2.2.2.2.2.2.2.2.2.2.2.2.2.2.2.2.2) (q.resolve_left (by decide))⟩
    refine StepsOk.cons (i := 12) rfl (fun L x G w1 K Q hn hp hJ hK => ?_) ?_
    · skip
      simp only [putAll, Act.put, List.setIfInBounds_toArray, List.set_cons_zero, List.set_cons_succ]
      go_simp
      refine hK _ G _ (by kernel_rfl) ?_
      exact ⟨(hJ.1),
        (hJ.2.1),
        (hJ.2.2.1),
        (hJ.2.2.2.1),
        (hJ.2.2.2.2.1),
        (hJ.2.2.2.2.2.1),
        (hJ.2.2.2.2.2.2.1),
        (hJ.2.2.2.2.2.2.2.1),
        (hJ.2.2.2.2.2.2.2.2.1),
        (hJ.2.2.2.2.2.2.2.2.2.1),
        (hJ.2.2.2.2.2.2.2.2.2.2.1),
        fun q => (hJ.2.2.2.2.2.2.2.2.2.2.2.1) (q.resolve_left (by decide)),
        fun q => (hJ.2.2.2.2.2.2.2.2.2.2.2.2.1) (q.resolve_left (by decide)),
        fun q => (hJ.2.2.2.2.2.2.2.2.2.2.2.2.2.1) (q.resolve_left (by decide)),
        fun q => (hJ.2.2.2.2.2.2.2.2.2.2.2.2.2.2.1) (q.resolve_left (by decide)),
        fun q => (hJ.2.2.2.2.2.2.2.2.2.2.2.2.2.2.2.1) (q.resolve_left (by decide)),
        fun q => (hJ.2.2.2.2.2.2.2.2.2.2.2.2.2.2.2.2.1) (q.resolve_left (by decide)),
        fun q => (hJ.2.2.2.2.2.2.2.2.2.2.2.2.2.2.2.2.2.1) (q.resolve_left (by decide)),
        fun q => (hJ.2.2.2.2.2.2.2.2.2.2.2.2.2.2.2.2.2.2.1) (q.resolve_left (by decide)),
        fun q => (hJ.2.2.2.2.2.2.2.2.2.2.2.2.2.2.2.2.2.2.2.1) (q.resolve_left (by decide)),
        fun q => (hJ.2.2.2.2.2.2.2.2.2.2.2.2.2.2.2.2.2.2.2.2.1) (q.resolve_left (by decide)),
        fun q => (hJ.2.2.2.2.2.2.2.2.2.2.2.2.2.2.2.2.2.2.2.2.2.1) (q.resolve_left (by decide)),
        fun q => (hJ.2.2.2.2.2.2.2.2.2.2.2.2.2.2.2.2.2.2.2.2.2.2.1) (q.resolve_left (by decide)),
        fun _ => rfl,
        fun q => (hJ.2.2.2.2.2.2.2.2.2.2.2.2.2.2.2.2.2.2.2.2.2.2.2.2.1) (q.resolve_left (by decide)),
        fun q => (hJ.2.2.2.2.2.2.2.2.2.2.2.2.2.2.2.2.2.2.2.2.2.2.2.2.2.1) (q.resolve_left (by decide)),
        fun q => (hJ.2.2.2.2.2.2.2.2.2.2.2.2.2.2.2.2.2.2.2.2.2.2.2.2.2.2.1) (q.resolve_left (by decide)),
        fun q => (hJ.2.2.2.2.2.2.2.2.2.2.2.2.2.2.2.2.2.2.2.2.2.2.2.2.2.2.2) (q.resolve_left (by decide))⟩
    refine StepsOk.cons (i := 13) rfl (fun L x G w1 K Q hn hp hJ hK => ?_) ?_
    · skip
      have p12 : L 12 := hp ⟨12, .data⟩ (by simp) rfl
      have e12 := (hJ.2.2.2.2.2.2.2.2.2.2.2.2.2.2.2.2.2.2.2.2.2.2.2.1) p12
      have hc := Blk.open2 ((hJ.2.2.2.2.1))
      have c0 := hc.1
      have c1 := hc.2.1
      have c2 := hc.2.2.1
      have c3 := hc.2.2.2
      clear hc
      simp only [putAll, Act.put, List.setIfInBounds_toArray, List.set_cons_zero, List.set_cons_succ]
      go_simp
      refine hK _ G _ (by kernel_rfl) ?_
      exact ⟨(hJ.1),
        (hJ.2.1),
        (hJ.2.2.1),
        (hJ.2.2.2.1),
        (hJ.2.2.2.2.1),
        (hJ.2.2.2.2.2.1),
        (hJ.2.2.2.2.2.2.1),
        (hJ.2.2.2.2.2.2.2.1),
        (hJ.2.2.2.2.2.2.2.2.1),
        (hJ.2.2.2.2.2.2.2.2.2.1),
        (hJ.2.2.2.2.2.2.2.2.2.2.1),
        fun q => (hJ.2.2.2.2.2.2.2.2.2.2.2.1) (q.resolve_left (by decide)),
        fun q => (hJ.2.2.2.2.2.2.2.2.2.2.2.2.1) (q.resolve_left (by decide)),
        fun q => (hJ.2.2.2.2.2.2.2.2.2.2.2.2.2.1) (q.resolve_left (by decide)),
        fun q => (hJ.2.2.2.2.2.2.2.2.2.2.2.2.2.2.1) (q.resolve_left (by decide)),
        fun q => (hJ.2.2.2.2.2.2.2.2.2.2.2.2.2.2.2.1) (q.resolve_left (by decide)),
        fun q => (hJ.2.2.2.2.2.2.2.2.2.2.2.2.2.2.2.2.1) (q.resolve_left (by decide)),
        fun q => (hJ.2.2.2.2.2.2.2.2.2.2.2.2.2.2.2.2.2.1) (q.resolve_left (by decide)),
        fun q => (hJ.2.2.2.2.2.2.2.2.2.2.2.2.2.2.2.2.2.2.1) (q.resolve_left (by decide)),
        fun q => (hJ.2.2.2.2.2.2.2.2.2.2.2.2.2.2.2.2.2.2.2.1) (q.resolve_left (by decide)),
        fun q => (hJ.2.2.2.2.2.2.2.2.2.2.2.2.2.2.2.2.2.2.2.2.1) (q.resolve_left (by decide)),
        fun q => (hJ.2.2.2.2.2.2.2.2.2.2.2.2.2.2.2.2.2.2.2.2.2.1) (q.resolve_left (by decide)),
        fun q => (hJ.2.2.2.2.2.2.2.2.2.2.2.2.2.2.2.2.2.2.2.2.2.2.1) (q.resolve_left (by decide)),
        fun _ => by first | exact rfl | exact e12,
        fun _ => rfl,
        fun q => (hJ.2.2.2.2.2.2.2.2.2.2.2.2.2.2.2.2.2.2.2.2.2.2.2.2.2.1) (q.resolve_left (by decide)),
        fun q => (hJ.2.2.2.2.2.2.2.2.2.2.2.2.2.2.2.2.2.2.2.2.2.2.2.2.2.2.1) (q.resolve_left (by decide)),
        fun q => (hJ.2.2.2.2.2.2.2.2.2.2.2.2.2.2.2.2.2.2.2.2.2.2.2.2.2.2.2) (q.resolve_left (by decide))⟩
    refine StepsOk.cons (i := 14) rfl (fun L x G w1 K Q hn hp hJ hK => ?_) ?_
    · skip
      have p11 : L 11 := hp ⟨11, .data⟩ (by simp) rfl
      have e11 := (hJ.2.2.2.2.2.2.2.2.2.2.2.2.2.2.2.2.2.2.2.2.2.2.1) p11
      have p13 : L 13 := hp ⟨13, .data⟩ (by simp) rfl
      have e13 := (hJ.2.2.2.2.2.2.2.2.2.2.2.2.2.2.2.2.2.2.2.2.2.2.2.2.1) p13
      simp only [putAll, Act.put, List.setIfInBounds_toArray, List.set_cons_zero, List.set_cons_succ]
      go_simp
      refine (mul_c _ _ _ xx1 xx2 yy1 yy2).mono ?_
      rintro e w2 ⟨rfl, hb⟩
      have hz := hb.size
      try go_simp
      refine hK _ G _ (by kernel_rfl) ?_
      exact ⟨bt (hJ.1) hb,
        Nat.lt_of_lt_of_le (hJ.2.1) hb.size,
        Blk.keep ((hJ.2.2.1)) hb,
        Nat.lt_of_lt_of_le (hJ.2.2.2.1) hb.size,
        Blk.keep ((hJ.2.2.2.2.1)) hb,
        Nat.lt_of_lt_of_le (hJ.2.2.2.2.2.1) hb.size,
        Blk.keep ((hJ.2.2.2.2.2.2.1)) hb,
        Nat.lt_of_lt_of_le (hJ.2.2.2.2.2.2.2.1) hb.size,
        Blk.keep ((hJ.2.2.2.2.2.2.2.2.1)) hb,
        Nat.lt_of_lt_of_le (hJ.2.2.2.2.2.2.2.2.2.1) hb.size,
        Blk.keep ((hJ.2.2.2.2.2.2.2.2.2.2.1)) hb,
        fun q => (hJ.2.2.2.2.2.2.2.2.2.2.2.1) (q.resolve_left (by decide)),
        fun q => (hJ.2.2.2.2.2.2.2.2.2.2.2.2.1) (q.resolve_left (by decide)),
        fun q => (hJ.2.2.2.2.2.2.2.2.2.2.2.2.2.1) (q.resolve_left (by decide)),
        fun q => (hJ.2.2.2.2.2.2.2.2.2.2.2.2.2.2.1) (q.resolve_left (by decide)),
        fun q => (hJ.2.2.2.2.2.2.2.2.2.2.2.2.2.2.2.1) (q.resolve_left (by decide)),
        fun q => (hJ.2.2.2.2.2.2.2.2.2.2.2.2.2.2.2.2.1) (q.resolve_left (by decide)),
        fun q => (hJ.2.2.2.2.2.2.2.2.2.2.2.2.2.2.2.2.2.1) (q.resolve_left (by decide)),
        fun q => (hJ.2.2.2.2.2.2.2.2.2.2.2.2.2.2.2.2.2.2.1) (q.resolve_left (by decide)),
        fun q => (hJ.2.2.2.2.2.2.2.2.2.2.2.2.2.2.2.2.2.2.2.1) (q.resolve_left (by decide)),
        fun q => (hJ.2.2.2.2.2.2.2.2.2.2.2.2.2.2.2.2.2.2.2.2.1) (q.resolve_left (by decide)),
        fun q => (hJ.2.2.2.2.2.2.2.2.2.2.2.2.2.2.2.2.2.2.2.2.2.1) (q.resolve_left (by decide)),
        fun _ => by first | exact rfl | exact e11,
        fun q => (hJ.2.2.2.2.2.2.2.2.2.2.2.2.2.2.2.2.2.2.2.2.2.2.2.1) (q.resolve_left (by decide)),
        fun _ => by first | exact rfl | exact e13,
        fun _ => rfl,
        fun q => (hJ.2.2.2.2.2.2.2.2.2.2.2.2.2.2.2.2.2.2.2.2.2.2.2.2.2.2.1) (q.resolve_left (by decide)),
        fun q => (hJ.2.2.2.2.2.2.2.2.2.2.2.2.2.2.2.2.2.2.2.2.2.2.2.2.2.2.2) (q.resolve_left (by decide))⟩
    refine StepsOk.cons (i := 15) rfl (fun L x G w1 K Q hn hp hJ hK => ?_) ?_
    · skip
      have p4 : L 4 := hp ⟨4, .data⟩ (by simp) rfl
      have e4 := (hJ.2.2.2.2.2.2.2.2.2.2.2.2.2.2.2.1) p4
      have p9 : L 9 := hp ⟨9, .data⟩ (by simp) rfl
      have e9 := (hJ.2.2.2.2.2.2.2.2.2.2.2.2.2.2.2.2.2.2.2.2.1) p9
      have p14 : L 14 := hp ⟨14, .data⟩ (by simp) rfl
      have e14 := (hJ.2.2.2.2.2.2.2.2.2.2.2.2.2.2.2.2.2.2.2.2.2.2.2.2.2.1) p14
      simp only [putAll, Act.put, List.setIfInBounds_toArray, List.set_cons_zero, List.set_cons_succ]
      go_simp
      refine hK _ G _ (by kernel_rfl) ?_
      exact ⟨(hJ.1),
        (hJ.2.1),
        (hJ.2.2.1),
        (hJ.2.2.2.1),
        (hJ.2.2.2.2.1),
        (hJ.2.2.2.2.2.1),
        (hJ.2.2.2.2.2.2.1),
        (hJ.2.2.2.2.2.2.2.1),
        (hJ.2.2.2.2.2.2.2.2.1),
        (hJ.2.2.2.2.2.2.2.2.2.1),
        (hJ.2.2.2.2.2.2.2.2.2.2.1),
        fun q => (hJ.2.2.2.2.2.2.2.2.2.2.2.1) (q.resolve_left (by decide)),
        fun q => (hJ.2.2.2.2.2.2.2.2.2.2.2.2.1) (q.resolve_left (by decide)),
        fun q => (hJ.2.2.2.2.2.2.2.2.2.2.2.2.2.1) (q.resolve_left (by decide)),
        fun q => (hJ.2.2.2.2.2.2.2.2.2.2.2.2.2.2.1) (q.resolve_left (by decide)),
        fun _ => by first | exact rfl | exact e4,
        fun q => (hJ.2.2.2.2.2.2.2.2.2.2.2.2.2.2.2.2.1) (q.resolve_left (by decide)),
        fun q => (hJ.2.2.2.2.2.2.2.2.2.2.2.2.2.2.2.2.2.1) (q.resolve_left (by decide)),
        fun q => (hJ.2.2.2.2.2.2.2.2.2.2.2.2.2.2.2.2.2.2.1) (q.resolve_left (by decide)),
        fun q => (hJ.2.2.2.2.2.2.2.2.2.2.2.2.2.2.2.2.2.2.2.1) (q.resolve_left (by decide)),
        fun _ => by first | exact rfl | exact e9,
        fun q => (hJ.2.2.2.2.2.2.2.2.2.2.2.2.2.2.2.2.2.2.2.2.2.1) (q.resolve_left (by decide)),
        fun q => (hJ.2.2.2.2.2.2.2.2.2.2.2.2.2.2.2.2.2.2.2.2.2.2.1) (q.resolve_left (by decide)),
        fun q => (hJ.2.2.2.2.2.2.2.2.2.2.2.2.2.2.2.2.2.2.2.2.2.2.2.1) (q.resolve_left (by decide)),
        fun q => (hJ.2.2.2.2.2.2.2.2.2.2.2.2.2.2.2.2.2.2.2.2.2.2.2.2.1) (q.resolve_left (by decide)),
        fun _ => by first | exact rfl | exact e14,
        fun _ => rfl,
        fun q => (hJ.2.2.2.2.2.2.2.2.2.2.2.2.2.2.2.2.2.2.2.2.2.2.2.2.2.2.2) (q.resolve_left (by decide))⟩
    refine StepsOk.cons (i := 16) rfl (fun L x G w1 K Q hn hp hJ hK => ?_) ?_
    · skip
      simp only [putAll, Act.put, List.setIfInBounds_toArray, List.set_cons_zero, List.set_cons_succ]
      go_simp
      refine hK _ G _ (by kernel_rfl) ?_
      exact ⟨(hJ.1),
        (hJ.2.1),
        (hJ.2.2.1),
        (hJ.2.2.2.1),
        (hJ.2.2.2.2.1),
        (hJ.2.2.2.2.2.1),
        (hJ.2.2.2.2.2.2.1),
        (hJ.2.2.2.2.2.2.2.1),
        (hJ.2.2.2.2.2.2.2.2.1),
        (hJ.2.2.2.2.2.2.2.2.2.1),
        (hJ.2.2.2.2.2.2.2.2.2.2.1),
        fun q => (hJ.2.2.2.2.2.2.2.2.2.2.2.1) (q.resolve_left (by decide)),
        fun q => (hJ.2.2.2.2.2.2.2.2.2.2.2.2.1) (q.resolve_left (by decide)),
        fun q => (hJ.2.2.2.2.2.2.2.2.2.2.2.2.2.1) (q.resolve_left (by decide)),
        fun q => (hJ.2.2.2.2.2.2.2.2.2.2.2.2.2.2.1) (q.resolve_left (by decide)),
        fun q => (hJ.2.2.2.2.2.2.2.2.2.2.2.2.2.2.2.1) (q.resolve_left (by decide)),
        fun q => (hJ.2.2.2.2.2.2.2.2.2.2.2.2.2.2.2.2.1) (q.resolve_left (by decide)),
        fun q => (hJ.2.2.2.2.2.2.2.2.2.2.2.2.2.2.2.2.2.1) (q.resolve_left (by decide)),
        fun q => (hJ.2.2.2.2.2.2.2.2.2.2.2.2.2.2.2.2.2.2.1) (q.resolve_left (by decide)),
        fun q => (hJ.2.2.2.2.2.2.2.2.2.2.2.2.2.2.2.2.2.2.2.1) (q.resolve_left (by decide)),
        fun q => (hJ.2.2.2.2.2.2.2.2.2.2.2.2.2.2.2.2.2.2.2.2.1) (q.resolve_left (by decide)),
        fun q => (hJ.2.2.2.2.2.2.2.2.2.2.2.2.2.2.2.2.2.2.2.2.2.1) (q.resolve_left (by decide)),
        fun q => (hJ.2.2.2.2.2.2.2.2.2.2.2.2.2.2.2.2.2.2.2.2.2.2.1) (q.resolve_left (by decide)),
        fun q => (hJ.2.2.2.2.2.2.2.2.2.2.2.2.2.2.2.2.2.2.2.2.2.2.2.1) (q.resolve_left (by decide)),
        fun q => (hJ.2.2.2.2.2.2.2.2.2.2.2.2.2.2.2.2.2.2.2.2.2.2.2.2.1) (q.resolve_left (by decide)),
        fun q => (hJ.2.2.2.2.2.2.2.2.2.2.2.2.2.2.2.2.2.2.2.2.2.2.2.2.2.1) (q.resolve_left (by decide)),
        fun q => (hJ.2.2.2.2.2.2.2.2.2.2.2.2.2.2.2.2.2.2.2.2.2.2.2.2.2.2.1) (q.resolve_left (by decide)),
        fun _ => rfl⟩
    exact StepsOk.nil
  case fin =>
    intro L x G w4 hall hJ
    replace X := (hJ.2.2.1)
    replace Y := (hJ.2.2.2.2.1)
    replace R := (hJ.2.2.2.2.2.2.1)
    replace ML := (hJ.2.2.2.2.2.2.2.2.1)
    replace MH := (hJ.2.2.2.2.2.2.2.2.2.2.1)
    have u0 := hJ.2.2.2.2.2.2.2.2.2.2.2.1 (hall 0 (by decide))
    have u1 := hJ.2.2.2.2.2.2.2.2.2.2.2.2.1 (hall 1 (by decide))
    have u2 := hJ.2.2.2.2.2.2.2.2.2.2.2.2.2.1 (hall 2 (by decide))
    have u3 := hJ.2.2.2.2.2.2.2.2.2.2.2.2.2.2.1 (hall 3 (by decide))
    have u4 := hJ.2.2.2.2.2.2.2.2.2.2.2.2.2.2.2.1 (hall 4 (by decide))
    have u5 := hJ.2.2.2.2.2.2.2.2.2.2.2.2.2.2.2.2.1 (hall 5 (by decide))
    have u6 := hJ.2.2.2.2.2.2.2.2.2.2.2.2.2.2.2.2.2.1 (hall 6 (by decide))
    have u7 := hJ.2.2.2.2.2.2.2.2.2.2.2.2.2.2.2.2.2.2.1 (hall 7 (by decide))
    have u8 := hJ.2.2.2.2.2.2.2.2.2.2.2.2.2.2.2.2.2.2.2.1 (hall 8 (by decide))
    have u9 := hJ.2.2.2.2.2.2.2.2.2.2.2.2.2.2.2.2.2.2.2.2.1 (hall 9 (by decide))
    have u10 := hJ.2.2.2.2.2.2.2.2.2.2.2.2.2.2.2.2.2.2.2.2.2.1 (hall 10 (by decide))
    have u11 := hJ.2.2.2.2.2.2.2.2.2.2.2.2.2.2.2.2.2.2.2.2.2.2.1 (hall 11 (by decide))
    have u12 := hJ.2.2.2.2.2.2.2.2.2.2.2.2.2.2.2.2.2.2.2.2.2.2.2.1 (hall 12 (by decide))
    have u13 := hJ.2.2.2.2.2.2.2.2.2.2.2.2.2.2.2.2.2.2.2.2.2.2.2.2.1 (hall 13 (by decide))
    have u14 := hJ.2.2.2.2.2.2.2.2.2.2.2.2.2.2.2.2.2.2.2.2.2.2.2.2.2.1 (hall 14 (by decide))
    have u15 := hJ.2.2.2.2.2.2.2.2.2.2.2.2.2.2.2.2.2.2.2.2.2.2.2.2.2.2.1 (hall 15 (by decide))
    have u16 := hJ.2.2.2.2.2.2.2.2.2.2.2.2.2.2.2.2.2.2.2.2.2.2.2.2.2.2.2 (hall 16 (by decide))
    replace hB := hJ.1
    simp only [putAll, Act.put, List.setIfInBounds_toArray, List.set_cons_zero, List.set_cons_succ]
    simp only [u0, u1, u2, u3, u4, u5, u6, u7, u8, u9, u10, u11, u12, u13, u14, u15, u16]
    clear hall hJ u0 u1 u2 u3 u4 u5 u6 u7 u8 u9 u10 u11 u12 u13 u14 u15 u16
    go_wp2_with fail
    go_loopw [45] (fun i wr => ∃ k : Nat, k ≤ 3 ∧ i = .int .i64 k ∧ Blk wr (w.heap.size + 1 + 1) 24 #[.int .i64 (0), .int .i64 (0)] ∧ Blk wr (w3.heap.size) 46 #[.int .i64 (Wi.Hq (Iv.mnU (four (l * l') (l * h') (h * l') (h * h')) (k + 1))), .int .u64 (Wi.Lr (Iv.mnU (four (l * l') (l * h') (h * l') (h * h')) (k + 1)))] ∧ Blk wr (w3.heap.size + 1) 46 #[.int .i64 (Wi.Hq (Iv.mxU (four (l * l') (l * h') (h * l') (h * h')) (k + 1))), .int .u64 (Wi.Lr (Iv.mxU (four (l * l') (l * h') (h * l') (h * h')) (k + 1)))] ∧ Below w.heap.size w wr) (fun i _ => 3 - (intOf i).toNat)
    case atStart => exact ⟨0, by omega, rfl, R, by rw [mn_one]; exact ML, by rw [mx_one]; exact MH, hB⟩
    case round =>
      clear X Y R ML MH hB
      obtain ⟨k, hk, rfl, R, ML, MH, hB⟩ := hrel
      generalize wr = w0 at R ML MH hB ⊢
      rcases (show k = 0 ∨ k = 1 ∨ k = 2 ∨ k = 3 by omega) with rfl | rfl | rfl | rfl
      · by_cases c1 : (four (l * l') (l * h') (h * l') (h * h')) 1 < Iv.mnU (four (l * l') (l * h') (h * l') (h * h')) 1 <;> by_cases c2 : Iv.mxU (four (l * l') (l * h') (h * l') (h * h')) 1 < (four (l * l') (l * h') (h * l') (h * h')) 1
        · have z3 := Lib.hid (Iv.mnU_yes c1)
          have z4 := Lib.hid (Iv.mxU_yes c2)
          have z1 : Hid (Wi.cm (l * h') (Iv.mnU (four (l * l') (l * h') (h * l') (h * h')) (0 + 1)) = -1) := Lib.hid (Wi.cm_lt c1)
          have z2 : Hid (Wi.cm (l * h') (Iv.mxU (four (l * l') (l * h') (h * l') (h * h')) (0 + 1)) = 1) := Lib.hid (Wi.cm_gt c2)
          have mw := Wi.wd_self (Iv.mnU_W (by omega) HF.out (0 + 1) (by omega))
          have mx := Wi.wd_self (Iv.mxU_W (by omega) HF.out (0 + 1) (by omega))
          clear c1 c2
          have hz0 := hB.size
          have l0R := R.lt
          have l0ML := ML.lt
          have l0MH := MH.lt
          replace R := R.alloc (.cells #[.int .i64 (Wi.Hq (l * h')), .int .u64 (Wi.Lr (l * h'))] 46)
          replace ML := ML.alloc (.cells #[.int .i64 (Wi.Hq (l * h')), .int .u64 (Wi.Lr (l * h'))] 46)
          replace MH := MH.alloc (.cells #[.int .i64 (Wi.Hq (l * h')), .int .u64 (Wi.Lr (l * h'))] 46)
          replace hB := bal hB (.cells #[.int .i64 (Wi.Hq (l * h')), .int .u64 (Wi.Lr (l * h'))] 46)
          have PP := Blk.new w0 46 #[.int .i64 (Wi.Hq (l * h')), .int .u64 (Wi.Lr (l * h'))]
          obtain ⟨c00, c01, c02, c03⟩ := ML.open2
          obtain ⟨c10, c11, c12, c13⟩ := PP.open2
          go_wp2_with (first | simp only [ix0] | simp only [ix1] | simp only [ix2])
          refine (cmp_c _ _ _ _ _ _ _ (Wi.wd_self m2) mw).mono ?_
          rw [z1.out]
          rintro e w1 ⟨rfl, hb⟩
          clear c00 c01 c02 c03 c10 c11 c12 c13
          replace R := R.keep hb
          replace ML := ML.keep hb
          replace MH := MH.keep hb
          replace PP := PP.keep hb
          replace hB := bt hB hb
          clear hb
          obtain ⟨c00, c01, c02, c03⟩ := ML.open2
          obtain ⟨c10, c11, c12, c13⟩ := PP.open2
          obtain ⟨c20, c21, c22, c23⟩ := MH.open2
          go_wp2_with fail
          clear c00 c01 c02 c03 c10 c11 c12 c13 c20 c21 c22 c23
          replace R := ((R.far (p := ⟨w3.heap.size, 0, none⟩) (by first | (simp; done) | (simp; omega) | omega) (.int .i64 (Wi.Hq (l * h')))).far (p := ⟨w3.heap.size, 1, none⟩) (by first | (simp; done) | (simp; omega) | omega) (.int .u64 (Wi.Lr (l * h'))))
          replace MH := ((MH.far (p := ⟨w3.heap.size, 0, none⟩) (by first | (simp; done) | (simp; omega) | omega) (.int .i64 (Wi.Hq (l * h')))).far (p := ⟨w3.heap.size, 1, none⟩) (by first | (simp; done) | (simp; omega) | omega) (.int .u64 (Wi.Lr (l * h'))))
          replace PP := ((PP.far (p := ⟨w3.heap.size, 0, none⟩) (by first | (simp; done) | (simp; omega) | omega) (.int .i64 (Wi.Hq (l * h')))).far (p := ⟨w3.heap.size, 1, none⟩) (by first | (simp; done) | (simp; omega) | omega) (.int .u64 (Wi.Lr (l * h'))))
          replace hB := (bst (bst hB (p := ⟨w3.heap.size, 0, none⟩) (by first | (simp; done) | (simp; omega) | omega) (.int .i64 (Wi.Hq (l * h')))) (p := ⟨w3.heap.size, 1, none⟩) (by first | (simp; done) | (simp; omega) | omega) (.int .u64 (Wi.Lr (l * h'))))
          replace ML := ((ML.set_ 0 (.int .i64 (Wi.Hq (l * h')))).set_ 1 (.int .u64 (Wi.Lr (l * h'))))
          simp only [List.setIfInBounds_toArray, List.set_cons_zero, List.set_cons_succ] at ML
          obtain ⟨c00, c01, c02, c03⟩ := MH.open2
          obtain ⟨c10, c11, c12, c13⟩ := PP.open2
          refine (cmp_c _ _ _ _ _ _ _ (Wi.wd_self m2) mx).mono ?_
          rw [z2.out]
          rintro e w2 ⟨rfl, hb⟩
          clear c00 c01 c02 c03 c10 c11 c12 c13
          replace R := R.keep hb
          replace ML := ML.keep hb
          replace MH := MH.keep hb
          replace PP := PP.keep hb
          replace hB := bt hB hb
          clear hb
          obtain ⟨c00, c01, c02, c03⟩ := MH.open2
          obtain ⟨c10, c11, c12, c13⟩ := PP.open2
          go_wp2_with fail
          replace R := ((R.far (p := ⟨w3.heap.size + 1, 0, none⟩) (by first | (simp; done) | (simp; omega) | omega) (.int .i64 (Wi.Hq (l * h')))).far (p := ⟨w3.heap.size + 1, 1, none⟩) (by first | (simp; done) | (simp; omega) | omega) (.int .u64 (Wi.Lr (l * h'))))
          replace ML := ((ML.far (p := ⟨w3.heap.size + 1, 0, none⟩) (by first | (simp; done) | (simp; omega) | omega) (.int .i64 (Wi.Hq (l * h')))).far (p := ⟨w3.heap.size + 1, 1, none⟩) (by first | (simp; done) | (simp; omega) | omega) (.int .u64 (Wi.Lr (l * h'))))
          replace PP := ((PP.far (p := ⟨w3.heap.size + 1, 0, none⟩) (by first | (simp; done) | (simp; omega) | omega) (.int .i64 (Wi.Hq (l * h')))).far (p := ⟨w3.heap.size + 1, 1, none⟩) (by first | (simp; done) | (simp; omega) | omega) (.int .u64 (Wi.Lr (l * h'))))
          replace hB := (bst (bst hB (p := ⟨w3.heap.size + 1, 0, none⟩) (by first | (simp; done) | (simp; omega) | omega) (.int .i64 (Wi.Hq (l * h')))) (p := ⟨w3.heap.size + 1, 1, none⟩) (by first | (simp; done) | (simp; omega) | omega) (.int .u64 (Wi.Lr (l * h'))))
          replace MH := ((MH.set_ 0 (.int .i64 (Wi.Hq (l * h')))).set_ 1 (.int .u64 (Wi.Lr (l * h'))))
          simp only [List.setIfInBounds_toArray, List.set_cons_zero, List.set_cons_succ] at MH
          go_roundw
          case rel => exact ⟨1, by omega, by go_num, R, by rw [z3.out]; exact ML, by rw [z4.out]; exact MH, hB⟩
          case measure => first | (simp [intOf]; done) | (simp [intOf]; omega)
        · have z3 := Lib.hid (Iv.mnU_yes c1)
          have z4 := Lib.hid (Iv.mxU_no c2)
          have z1 : Hid (Wi.cm (l * h') (Iv.mnU (four (l * l') (l * h') (h * l') (h * h')) (0 + 1)) = -1) := Lib.hid (Wi.cm_lt c1)
          obtain ⟨y, zz, dy⟩ := Iv.cm_ng c2
          have z2 : Hid (Wi.cm (l * h') (Iv.mxU (four (l * l') (l * h') (h * l') (h * h')) (0 + 1)) = y) := Lib.hid zz
          clear zz
          have mw := Wi.wd_self (Iv.mnU_W (by omega) HF.out (0 + 1) (by omega))
          have mx := Wi.wd_self (Iv.mxU_W (by omega) HF.out (0 + 1) (by omega))
          clear c1 c2
          have hz0 := hB.size
          have l0R := R.lt
          have l0ML := ML.lt
          have l0MH := MH.lt
          replace R := R.alloc (.cells #[.int .i64 (Wi.Hq (l * h')), .int .u64 (Wi.Lr (l * h'))] 46)
          replace ML := ML.alloc (.cells #[.int .i64 (Wi.Hq (l * h')), .int .u64 (Wi.Lr (l * h'))] 46)
          replace MH := MH.alloc (.cells #[.int .i64 (Wi.Hq (l * h')), .int .u64 (Wi.Lr (l * h'))] 46)
          replace hB := bal hB (.cells #[.int .i64 (Wi.Hq (l * h')), .int .u64 (Wi.Lr (l * h'))] 46)
          have PP := Blk.new w0 46 #[.int .i64 (Wi.Hq (l * h')), .int .u64 (Wi.Lr (l * h'))]
          obtain ⟨c00, c01, c02, c03⟩ := ML.open2
          obtain ⟨c10, c11, c12, c13⟩ := PP.open2
          go_wp2_with (first | simp only [ix0] | simp only [ix1] | simp only [ix2])
          refine (cmp_c _ _ _ _ _ _ _ (Wi.wd_self m2) mw).mono ?_
          rw [z1.out]
          rintro e w1 ⟨rfl, hb⟩
          clear c00 c01 c02 c03 c10 c11 c12 c13
          replace R := R.keep hb
          replace ML := ML.keep hb
          replace MH := MH.keep hb
          replace PP := PP.keep hb
          replace hB := bt hB hb
          clear hb
          obtain ⟨c00, c01, c02, c03⟩ := ML.open2
          obtain ⟨c10, c11, c12, c13⟩ := PP.open2
          obtain ⟨c20, c21, c22, c23⟩ := MH.open2
          go_wp2_with fail
          clear c00 c01 c02 c03 c10 c11 c12 c13 c20 c21 c22 c23
          replace R := ((R.far (p := ⟨w3.heap.size, 0, none⟩) (by first | (simp; done) | (simp; omega) | omega) (.int .i64 (Wi.Hq (l * h')))).far (p := ⟨w3.heap.size, 1, none⟩) (by first | (simp; done) | (simp; omega) | omega) (.int .u64 (Wi.Lr (l * h'))))
          replace MH := ((MH.far (p := ⟨w3.heap.size, 0, none⟩) (by first | (simp; done) | (simp; omega) | omega) (.int .i64 (Wi.Hq (l * h')))).far (p := ⟨w3.heap.size, 1, none⟩) (by first | (simp; done) | (simp; omega) | omega) (.int .u64 (Wi.Lr (l * h'))))
          replace PP := ((PP.far (p := ⟨w3.heap.size, 0, none⟩) (by first | (simp; done) | (simp; omega) | omega) (.int .i64 (Wi.Hq (l * h')))).far (p := ⟨w3.heap.size, 1, none⟩) (by first | (simp; done) | (simp; omega) | omega) (.int .u64 (Wi.Lr (l * h'))))
          replace hB := (bst (bst hB (p := ⟨w3.heap.size, 0, none⟩) (by first | (simp; done) | (simp; omega) | omega) (.int .i64 (Wi.Hq (l * h')))) (p := ⟨w3.heap.size, 1, none⟩) (by first | (simp; done) | (simp; omega) | omega) (.int .u64 (Wi.Lr (l * h'))))
          replace ML := ((ML.set_ 0 (.int .i64 (Wi.Hq (l * h')))).set_ 1 (.int .u64 (Wi.Lr (l * h'))))
          simp only [List.setIfInBounds_toArray, List.set_cons_zero, List.set_cons_succ] at ML
          obtain ⟨c00, c01, c02, c03⟩ := MH.open2
          obtain ⟨c10, c11, c12, c13⟩ := PP.open2
          refine (cmp_c _ _ _ _ _ _ _ (Wi.wd_self m2) mx).mono ?_
          rw [z2.out]
          rintro e w2 ⟨rfl, hb⟩
          clear c00 c01 c02 c03 c10 c11 c12 c13
          replace R := R.keep hb
          replace ML := ML.keep hb
          replace MH := MH.keep hb
          replace PP := PP.keep hb
          replace hB := bt hB hb
          clear hb
          go_wp2_with fail
          go_roundw
          case rel => exact ⟨1, by omega, by go_num, R, by rw [z3.out]; exact ML, by rw [z4.out]; exact MH, hB⟩
          case measure => first | (simp [intOf]; done) | (simp [intOf]; omega)
        · have z3 := Lib.hid (Iv.mnU_no c1)
          have z4 := Lib.hid (Iv.mxU_yes c2)
          obtain ⟨z, zz, dz, _⟩ := Iv.cm_nl c1
          have z1 : Hid (Wi.cm (l * h') (Iv.mnU (four (l * l') (l * h') (h * l') (h * h')) (0 + 1)) = z) := Lib.hid zz
          clear zz
          have z2 : Hid (Wi.cm (l * h') (Iv.mxU (four (l * l') (l * h') (h * l') (h * h')) (0 + 1)) = 1) := Lib.hid (Wi.cm_gt c2)
          have mw := Wi.wd_self (Iv.mnU_W (by omega) HF.out (0 + 1) (by omega))
          have mx := Wi.wd_self (Iv.mxU_W (by omega) HF.out (0 + 1) (by omega))
          clear c1 c2
          have hz0 := hB.size
          have l0R := R.lt
          have l0ML := ML.lt
          have l0MH := MH.lt
          replace R := R.alloc (.cells #[.int .i64 (Wi.Hq (l * h')), .int .u64 (Wi.Lr (l * h'))] 46)
          replace ML := ML.alloc (.cells #[.int .i64 (Wi.Hq (l * h')), .int .u64 (Wi.Lr (l * h'))] 46)
          replace MH := MH.alloc (.cells #[.int .i64 (Wi.Hq (l * h')), .int .u64 (Wi.Lr (l * h'))] 46)
          replace hB := bal hB (.cells #[.int .i64 (Wi.Hq (l * h')), .int .u64 (Wi.Lr (l * h'))] 46)
          have PP := Blk.new w0 46 #[.int .i64 (Wi.Hq (l * h')), .int .u64 (Wi.Lr (l * h'))]
          obtain ⟨c00, c01, c02, c03⟩ := ML.open2
          obtain ⟨c10, c11, c12, c13⟩ := PP.open2
          go_wp2_with (first | simp only [ix0] | simp only [ix1] | simp only [ix2])
          refine (cmp_c _ _ _ _ _ _ _ (Wi.wd_self m2) mw).mono ?_
          rw [z1.out]
          rintro e w1 ⟨rfl, hb⟩
          clear c00 c01 c02 c03 c10 c11 c12 c13
          replace R := R.keep hb
          replace ML := ML.keep hb
          replace MH := MH.keep hb
          replace PP := PP.keep hb
          replace hB := bt hB hb
          clear hb
          obtain ⟨c00, c01, c02, c03⟩ := MH.open2
          obtain ⟨c10, c11, c12, c13⟩ := PP.open2
          go_wp2_with fail
          refine (cmp_c _ _ _ _ _ _ _ (Wi.wd_self m2) mx).mono ?_
          rw [z2.out]
          rintro e w2 ⟨rfl, hb⟩
          clear c00 c01 c02 c03 c10 c11 c12 c13
          replace R := R.keep hb
          replace ML := ML.keep hb
          replace MH := MH.keep hb
          replace PP := PP.keep hb
          replace hB := bt hB hb
          clear hb
          obtain ⟨c00, c01, c02, c03⟩ := MH.open2
          obtain ⟨c10, c11, c12, c13⟩ := PP.open2
          go_wp2_with fail
          replace R := ((R.far (p := ⟨w3.heap.size + 1, 0, none⟩) (by first | (simp; done) | (simp; omega) | omega) (.int .i64 (Wi.Hq (l * h')))).far (p := ⟨w3.heap.size + 1, 1, none⟩) (by first | (simp; done) | (simp; omega) | omega) (.int .u64 (Wi.Lr (l * h'))))
          replace ML := ((ML.far (p := ⟨w3.heap.size + 1, 0, none⟩) (by first | (simp; done) | (simp; omega) | omega) (.int .i64 (Wi.Hq (l * h')))).far (p := ⟨w3.heap.size + 1, 1, none⟩) (by first | (simp; done) | (simp; omega) | omega) (.int .u64 (Wi.Lr (l * h'))))
          replace PP := ((PP.far (p := ⟨w3.heap.size + 1, 0, none⟩) (by first | (simp; done) | (simp; omega) | omega) (.int .i64 (Wi.Hq (l * h')))).far (p := ⟨w3.heap.size + 1, 1, none⟩) (by first | (simp; done) | (simp; omega) | omega) (.int .u64 (Wi.Lr (l * h'))))
          replace hB := (bst (bst hB (p := ⟨w3.heap.size + 1, 0, none⟩) (by first | (simp; done) | (simp; omega) | omega) (.int .i64 (Wi.Hq (l * h')))) (p := ⟨w3.heap.size + 1, 1, none⟩) (by first | (simp; done) | (simp; omega) | omega) (.int .u64 (Wi.Lr (l * h'))))
          replace MH := ((MH.set_ 0 (.int .i64 (Wi.Hq (l * h')))).set_ 1 (.int .u64 (Wi.Lr (l * h'))))
          simp only [List.setIfInBounds_toArray, List.set_cons_zero, List.set_cons_succ] at MH
          go_roundw
          case rel => exact ⟨1, by omega, by go_num, R, by rw [z3.out]; exact ML, by rw [z4.out]; exact MH, hB⟩
          case measure => first | (simp [intOf]; done) | (simp [intOf]; omega)
        · have z3 := Lib.hid (Iv.mnU_no c1)
          have z4 := Lib.hid (Iv.mxU_no c2)
          obtain ⟨z, zz, dz, _⟩ := Iv.cm_nl c1
          have z1 : Hid (Wi.cm (l * h') (Iv.mnU (four (l * l') (l * h') (h * l') (h * h')) (0 + 1)) = z) := Lib.hid zz
          clear zz
          obtain ⟨y, zz, dy⟩ := Iv.cm_ng c2
          have z2 : Hid (Wi.cm (l * h') (Iv.mxU (four (l * l') (l * h') (h * l') (h * h')) (0 + 1)) = y) := Lib.hid zz
          clear zz
          have mw := Wi.wd_self (Iv.mnU_W (by omega) HF.out (0 + 1) (by omega))
          have mx := Wi.wd_self (Iv.mxU_W (by omega) HF.out (0 + 1) (by omega))
          clear c1 c2
          have hz0 := hB.size
          have l0R := R.lt
          have l0ML := ML.lt
          have l0MH := MH.lt
          replace R := R.alloc (.cells #[.int .i64 (Wi.Hq (l * h')), .int .u64 (Wi.Lr (l * h'))] 46)
          replace ML := ML.alloc (.cells #[.int .i64 (Wi.Hq (l * h')), .int .u64 (Wi.Lr (l * h'))] 46)
          replace MH := MH.alloc (.cells #[.int .i64 (Wi.Hq (l * h')), .int .u64 (Wi.Lr (l * h'))] 46)
          replace hB := bal hB (.cells #[.int .i64 (Wi.Hq (l * h')), .int .u64 (Wi.Lr (l * h'))] 46)
          have PP := Blk.new w0 46 #[.int .i64 (Wi.Hq (l * h')), .int .u64 (Wi.Lr (l * h'))]
          obtain ⟨c00, c01, c02, c03⟩ := ML.open2
          obtain ⟨c10, c11, c12, c13⟩ := PP.open2
          go_wp2_with (first | simp only [ix0] | simp only [ix1] | simp only [ix2])
          refine (cmp_c _ _ _ _ _ _ _ (Wi.wd_self m2) mw).mono ?_
          rw [z1.out]
          rintro e w1 ⟨rfl, hb⟩
          clear c00 c01 c02 c03 c10 c11 c12 c13
          replace R := R.keep hb
          replace ML := ML.keep hb
          replace MH := MH.keep hb
          replace PP := PP.keep hb
          replace hB := bt hB hb
          clear hb
          obtain ⟨c00, c01, c02, c03⟩ := MH.open2
          obtain ⟨c10, c11, c12, c13⟩ := PP.open2
          go_wp2_with fail
          refine (cmp_c _ _ _ _ _ _ _ (Wi.wd_self m2) mx).mono ?_
          rw [z2.out]
          rintro e w2 ⟨rfl, hb⟩
          clear c00 c01 c02 c03 c10 c11 c12 c13
          replace R := R.keep hb
          replace ML := ML.keep hb
          replace MH := MH.keep hb
          replace PP := PP.keep hb
          replace hB := bt hB hb
          clear hb
          go_wp2_with fail
          go_roundw
          case rel => exact ⟨1, by omega, by go_num, R, by rw [z3.out]; exact ML, by rw [z4.out]; exact MH, hB⟩
          case measure => first | (simp [intOf]; done) | (simp [intOf]; omega)
      · by_cases c1 : (four (l * l') (l * h') (h * l') (h * h')) 2 < Iv.mnU (four (l * l') (l * h') (h * l') (h * h')) 2 <;> by_cases c2 : Iv.mxU (four (l * l') (l * h') (h * l') (h * h')) 2 < (four (l * l') (l * h') (h * l') (h * h')) 2
        · have z3 := Lib.hid (Iv.mnU_yes c1)
          have z4 := Lib.hid (Iv.mxU_yes c2)
          have z1 : Hid (Wi.cm (h * l') (Iv.mnU (four (l * l') (l * h') (h * l') (h * h')) (1 + 1)) = -1) := Lib.hid (Wi.cm_lt c1)
          have z2 : Hid (Wi.cm (h * l') (Iv.mxU (four (l * l') (l * h') (h * l') (h * h')) (1 + 1)) = 1) := Lib.hid (Wi.cm_gt c2)
          have mw := Wi.wd_self (Iv.mnU_W (by omega) HF.out (1 + 1) (by omega))
          have mx := Wi.wd_self (Iv.mxU_W (by omega) HF.out (1 + 1) (by omega))
          clear c1 c2
          have hz0 := hB.size
          have l0R := R.lt
          have l0ML := ML.lt
          have l0MH := MH.lt
          replace R := R.alloc (.cells #[.int .i64 (Wi.Hq (h * l')), .int .u64 (Wi.Lr (h * l'))] 46)
          replace ML := ML.alloc (.cells #[.int .i64 (Wi.Hq (h * l')), .int .u64 (Wi.Lr (h * l'))] 46)
          replace MH := MH.alloc (.cells #[.int .i64 (Wi.Hq (h * l')), .int .u64 (Wi.Lr (h * l'))] 46)
          replace hB := bal hB (.cells #[.int .i64 (Wi.Hq (h * l')), .int .u64 (Wi.Lr (h * l'))] 46)
          have PP := Blk.new w0 46 #[.int .i64 (Wi.Hq (h * l')), .int .u64 (Wi.Lr (h * l'))]
          obtain ⟨c00, c01, c02, c03⟩ := ML.open2
          obtain ⟨c10, c11, c12, c13⟩ := PP.open2
          go_wp2_with (first | simp only [ix0] | simp only [ix1] | simp only [ix2])
          refine (cmp_c _ _ _ _ _ _ _ (Wi.wd_self m3) mw).mono ?_
          rw [z1.out]
          rintro e w1 ⟨rfl, hb⟩
          clear c00 c01 c02 c03 c10 c11 c12 c13
          replace R := R.keep hb
          replace ML := ML.keep hb
          replace MH := MH.keep hb
          replace PP := PP.keep hb
          replace hB := bt hB hb
          clear hb
          obtain ⟨c00, c01, c02, c03⟩ := ML.open2
          obtain ⟨c10, c11, c12, c13⟩ := PP.open2
          obtain ⟨c20, c21, c22, c23⟩ := MH.open2
          go_wp2_with fail
          clear c00 c01 c02 c03 c10 c11 c12 c13 c20 c21 c22 c23
          replace R := ((R.far (p := ⟨w3.heap.size, 0, none⟩) (by first | (simp; done) | (simp; omega) | omega) (.int .i64 (Wi.Hq (h * l')))).far (p := ⟨w3.heap.size, 1, none⟩) (by first | (simp; done) | (simp; omega) | omega) (.int .u64 (Wi.Lr (h * l'))))
          replace MH := ((MH.far (p := ⟨w3.heap.size, 0, none⟩) (by first | (simp; done) | (simp; omega) | omega) (.int .i64 (Wi.Hq (h * l')))).far (p := ⟨w3.heap.size, 1, none⟩) (by first | (simp; done) | (simp; omega) | omega) (.int .u64 (Wi.Lr (h * l'))))
          replace PP := ((PP.far (p := ⟨w3.heap.size, 0, none⟩) (by first | (simp; done) | (simp; omega) | omega) (.int .i64 (Wi.Hq (h * l')))).far (p := ⟨w3.heap.size, 1, none⟩) (by first | (simp; done) | (simp; omega) | omega) (.int .u64 (Wi.Lr (h * l'))))
          replace hB := (bst (bst hB (p := ⟨w3.heap.size, 0, none⟩) (by first | (simp; done) | (simp; omega) | omega) (.int .i64 (Wi.Hq (h * l')))) (p := ⟨w3.heap.size, 1, none⟩) (by first | (simp; done) | (simp; omega) | omega) (.int .u64 (Wi.Lr (h * l'))))
          replace ML := ((ML.set_ 0 (.int .i64 (Wi.Hq (h * l')))).set_ 1 (.int .u64 (Wi.Lr (h * l'))))
          simp only [List.setIfInBounds_toArray, List.set_cons_zero, List.set_cons_succ] at ML
          obtain ⟨c00, c01, c02, c03⟩ := MH.open2
          obtain ⟨c10, c11, c12, c13⟩ := PP.open2
          refine (cmp_c _ _ _ _ _ _ _ (Wi.wd_self m3) mx).mono ?_
          rw [z2.out]
          rintro e w2 ⟨rfl, hb⟩
          clear c00 c01 c02 c03 c10 c11 c12 c13
          replace R := R.keep hb
          replace ML := ML.keep hb
          replace MH := MH.keep hb
          replace PP := PP.keep hb
          replace hB := bt hB hb
          clear hb
          obtain ⟨c00, c01, c02, c03⟩ := MH.open2
          obtain ⟨c10, c11, c12, c13⟩ := PP.open2
          go_wp2_with fail
          replace R := ((R.far (p := ⟨w3.heap.size + 1, 0, none⟩) (by first | (simp; done) | (simp; omega) | omega) (.int .i64 (Wi.Hq (h * l')))).far (p := ⟨w3.heap.size + 1, 1, none⟩) (by first | (simp; done) | (simp; omega) | omega) (.int .u64 (Wi.Lr (h * l'))))
          replace ML := ((ML.far (p := ⟨w3.heap.size + 1, 0, none⟩) (by first | (simp; done) | (simp; omega) | omega) (.int .i64 (Wi.Hq (h * l')))).far (p := ⟨w3.heap.size + 1, 1, none⟩) (by first | (simp; done) | (simp; omega) | omega) (.int .u64 (Wi.Lr (h * l'))))
          replace PP := ((PP.far (p := ⟨w3.heap.size + 1, 0, none⟩) (by first | (simp; done) | (simp; omega) | omega) (.int .i64 (Wi.Hq (h * l')))).far (p := ⟨w3.heap.size + 1, 1, none⟩) (by first | (simp; done) | (simp; omega) | omega) (.int .u64 (Wi.Lr (h * l'))))
          replace hB := (bst (bst hB (p := ⟨w3.heap.size + 1, 0, none⟩) (by first | (simp; done) | (simp; omega) | omega) (.int .i64 (Wi.Hq (h * l')))) (p := ⟨w3.heap.size + 1, 1, none⟩) (by first | (simp; done) | (simp; omega) | omega) (.int .u64 (Wi.Lr (h * l'))))
          replace MH := ((MH.set_ 0 (.int .i64 (Wi.Hq (h * l')))).set_ 1 (.int .u64 (Wi.Lr (h * l'))))
          simp only [List.setIfInBounds_toArray, List.set_cons_zero, List.set_cons_succ] at MH
          go_roundw
          case rel => exact ⟨2, by omega, by go_num, R, by rw [z3.out]; exact ML, by rw [z4.out]; exact MH, hB⟩
          case measure => first | (simp [intOf]; done) | (simp [intOf]; omega)
        · have z3 := Lib.hid (Iv.mnU_yes c1)
          have z4 := Lib.hid (Iv.mxU_no c2)
          have z1 : Hid (Wi.cm (h * l') (Iv.mnU (four (l * l') (l * h') (h * l') (h * h')) (1 + 1)) = -1) := Lib.hid (Wi.cm_lt c1)
          obtain ⟨y, zz, dy⟩ := Iv.cm_ng c2
          have z2 : Hid (Wi.cm (h * l') (Iv.mxU (four (l * l') (l * h') (h * l') (h * h')) (1 + 1)) = y) := Lib.hid zz
          clear zz
          have mw := Wi.wd_self (Iv.mnU_W (by omega) HF.out (1 + 1) (by omega))
          have mx := Wi.wd_self (Iv.mxU_W (by omega) HF.out (1 + 1) (by omega))
          clear c1 c2
          have hz0 := hB.size
          have l0R := R.lt
          have l0ML := ML.lt
          have l0MH := MH.lt
          replace R := R.alloc (.cells #[.int .i64 (Wi.Hq (h * l')), .int .u64 (Wi.Lr (h * l'))] 46)
          replace ML := ML.alloc (.cells #[.int .i64 (Wi.Hq (h * l')), .int .u64 (Wi.Lr (h * l'))] 46)
          replace MH := MH.alloc (.cells #[.int .i64 (Wi.Hq (h * l')), .int .u64 (Wi.Lr (h * l'))] 46)
          replace hB := bal hB (.cells #[.int .i64 (Wi.Hq (h * l')), .int .u64 (Wi.Lr (h * l'))] 46)
          have PP := Blk.new w0 46 #[.int .i64 (Wi.Hq (h * l')), .int .u64 (Wi.Lr (h * l'))]
          obtain ⟨c00, c01, c02, c03⟩ := ML.open2
          obtain ⟨c10, c11, c12, c13⟩ := PP.open2
          go_wp2_with (first | simp only [ix0] | simp only [ix1] | simp only [ix2])
          refine (cmp_c _ _ _ _ _ _ _ (Wi.wd_self m3) mw).mono ?_
          rw [z1.out]
          rintro e w1 ⟨rfl, hb⟩
          clear c00 c01 c02 c03 c10 c11 c12 c13
          replace R := R.keep hb
          replace ML := ML.keep hb
          replace MH := MH.keep hb
          replace PP := PP.keep hb
          replace hB := bt hB hb
          clear hb
          obtain ⟨c00, c01, c02, c03⟩ := ML.open2
          obtain ⟨c10, c11, c12, c13⟩ := PP.open2
          obtain ⟨c20, c21, c22, c23⟩ := MH.open2
          go_wp2_with fail
          clear c00 c01 c02 c03 c10 c11 c12 c13 c20 c21 c22 c23
          replace R := ((R.far (p := ⟨w3.heap.size, 0, none⟩) (by first | (simp; done) | (simp; omega) | omega) (.int .i64 (Wi.Hq (h * l')))).far (p := ⟨w3.heap.size, 1, none⟩) (by first | (simp; done) | (simp; omega) | omega) (.int .u64 (Wi.Lr (h * l'))))
          replace MH := ((MH.far (p := ⟨w3.heap.size, 0, none⟩) (by first | (simp; done) | (simp; omega) | omega) (.int .i64 (Wi.Hq (h * l')))).far (p := ⟨w3.heap.size, 1, none⟩) (by first | (simp; done) | (simp; omega) | omega) (.int .u64 (Wi.Lr (h * l'))))
          replace PP := ((PP.far (p := ⟨w3.heap.size, 0, none⟩) (by first | (simp; done) | (simp; omega) | omega) (.int .i64 (Wi.Hq (h * l')))).far (p := ⟨w3.heap.size, 1, none⟩) (by first | (simp; done) | (simp; omega) | omega) (.int .u64 (Wi.Lr (h * l'))))
          replace hB := (bst (bst hB (p := ⟨w3.heap.size, 0, none⟩) (by first | (simp; done) | (simp; omega) | omega) (.int .i64 (Wi.Hq (h * l')))) (p := ⟨w3.heap.size, 1, none⟩) (by first | (simp; done) | (simp; omega) | omega) (.int .u64 (Wi.Lr (h * l'))))
          replace ML := ((ML.set_ 0 (.int .i64 (Wi.Hq (h * l')))).set_ 1 (.int .u64 (Wi.Lr (h * l'))))
          simp only [List.setIfInBounds_toArray, List.set_cons_zero, List.set_cons_succ] at ML
          obtain ⟨c00, c01, c02, c03⟩ := MH.open2
          obtain ⟨c10, c11, c12, c13⟩ := PP.open2
          refine (cmp_c _ _ _ _ _ _ _ (Wi.wd_self m3) mx).mono ?_
          rw [z2.out]
          rintro e w2 ⟨rfl, hb⟩
          clear c00 c01 c02 c03 c10 c11 c12 c13
          replace R := R.keep hb
          replace ML := ML.keep hb
          replace MH := MH.keep hb
          replace PP := PP.keep hb
          replace hB := bt hB hb
          clear hb
          go_wp2_with fail
          go_roundw
          case rel => exact ⟨2, by omega, by go_num, R, by rw [z3.out]; exact ML, by rw [z4.out]; exact MH, hB⟩
          case measure => first | (simp [intOf]; done) | (simp [intOf]; omega)
        · have z3 := Lib.hid (Iv.mnU_no c1)
          have z4 := Lib.hid (Iv.mxU_yes c2)
          obtain ⟨z, zz, dz, _⟩ := Iv.cm_nl c1
          have z1 : Hid (Wi.cm (h * l') (Iv.mnU (four (l * l') (l * h') (h * l') (h * h')) (1 + 1)) = z) := Lib.hid zz
          clear zz
          have z2 : Hid (Wi.cm (h * l') (Iv.mxU (four (l * l') (l * h') (h * l') (h * h')) (1 + 1)) = 1) := Lib.hid (Wi.cm_gt c2)
          have mw := Wi.wd_self (Iv.mnU_W (by omega) HF.out (1 + 1) (by omega))
          have mx := Wi.wd_self (Iv.mxU_W (by omega) HF.out (1 + 1) (by omega))
          clear c1 c2
          have hz0 := hB.size
          have l0R := R.lt
          have l0ML := ML.lt
          have l0MH := MH.lt
          replace R := R.alloc (.cells #[.int .i64 (Wi.Hq (h * l')), .int .u64 (Wi.Lr (h * l'))] 46)
          replace ML := ML.alloc (.cells #[.int .i64 (Wi.Hq (h * l')), .int .u64 (Wi.Lr (h * l'))] 46)
          replace MH := MH.alloc (.cells #[.int .i64 (Wi.Hq (h * l')), .int .u64 (Wi.Lr (h * l'))] 46)
          replace hB := bal hB (.cells #[.int .i64 (Wi.Hq (h * l')), .int .u64 (Wi.Lr (h * l'))] 46)
          have PP := Blk.new w0 46 #[.int .i64 (Wi.Hq (h * l')), .int .u64 (Wi.Lr (h * l'))]
          obtain ⟨c00, c01, c02, c03⟩ := ML.open2
          obtain ⟨c10, c11, c12, c13⟩ := PP.open2
          go_wp2_with (first | simp only [ix0] | simp only [ix1] | simp only [ix2])
          refine (cmp_c _ _ _ _ _ _ _ (Wi.wd_self m3) mw).mono ?_
          rw [z1.out]
          rintro e w1 ⟨rfl, hb⟩
          clear c00 c01 c02 c03 c10 c11 c12 c13
          replace R := R.keep hb
          replace ML := ML.keep hb
          replace MH := MH.keep hb
          replace PP := PP.keep hb
          replace hB := bt hB hb
          clear hb
          obtain ⟨c00, c01, c02, c03⟩ := MH.open2
          obtain ⟨c10, c11, c12, c13⟩ := PP.open2
          go_wp2_with fail
          refine (cmp_c _ _ _ _ _ _ _ (Wi.wd_self m3) mx).mono ?_
          rw [z2.out]
          rintro e w2 ⟨rfl, hb⟩
          clear c00 c01 c02 c03 c10 c11 c12 c13
          replace R := R.keep hb
          replace ML := ML.keep hb
          replace MH := MH.keep hb
          replace PP := PP.keep hb
          replace hB := bt hB hb
          clear hb
          obtain ⟨c00, c01, c02, c03⟩ := MH.open2
          obtain ⟨c10, c11, c12, c13⟩ := PP.open2
          go_wp2_with fail
          replace R := ((R.far (p := ⟨w3.heap.size + 1, 0, none⟩) (by first | (simp; done) | (simp; omega) | omega) (.int .i64 (Wi.Hq (h * l')))).far (p := ⟨w3.heap.size + 1, 1, none⟩) (by first | (simp; done) | (simp; omega) | omega) (.int .u64 (Wi.Lr (h * l'))))
          replace ML := ((ML.far (p := ⟨w3.heap.size + 1, 0, none⟩) (by first | (simp; done) | (simp; omega) | omega) (.int .i64 (Wi.Hq (h * l')))).far (p := ⟨w3.heap.size + 1, 1, none⟩) (by first | (simp; done) | (simp; omega) | omega) (.int .u64 (Wi.Lr (h * l'))))
          replace PP := ((PP.far (p := ⟨w3.heap.size + 1, 0, none⟩) (by first | (simp; done) | (simp; omega) | omega) (.int .i64 (Wi.Hq (h * l')))).far (p := ⟨w3.heap.size + 1, 1, none⟩) (by first | (simp; done) | (simp; omega) | omega) (.int .u64 (Wi.Lr (h * l'))))
          replace hB := (bst (bst hB (p := ⟨w3.heap.size + 1, 0, none⟩) (by first | (simp; done) | (simp; omega) | omega) (.int .i64 (Wi.Hq (h * l')))) (p := ⟨w3.heap.size + 1, 1, none⟩) (by first | (simp; done) | (simp; omega) | omega) (.int .u64 (Wi.Lr (h * l'))))
          replace MH := ((MH.set_ 0 (.int .i64 (Wi.Hq (h * l')))).set_ 1 (.int .u64 (Wi.Lr (h * l'))))
          simp only [List.setIfInBounds_toArray, List.set_cons_zero, List.set_cons_succ] at MH
          go_roundw
          case rel => exact ⟨2, by omega, by go_num, R, by rw [z3.out]; exact ML, by rw [z4.out]; exact MH, hB⟩
          case measure => first | (simp [intOf]; done) | (simp [intOf]; omega)
        · have z3 := Lib.hid (Iv.mnU_no c1)
          have z4 := Lib.hid (Iv.mxU_no c2)
          obtain ⟨z, zz, dz, _⟩ := Iv.cm_nl c1
          have z1 : Hid (Wi.cm (h * l') (Iv.mnU (four (l * l') (l * h') (h * l') (h * h')) (1 + 1)) = z) := Lib.hid zz
          clear zz
          obtain ⟨y, zz, dy⟩ := Iv.cm_ng c2
          have z2 : Hid (Wi.cm (h * l') (Iv.mxU (four (l * l') (l * h') (h * l') (h * h')) (1 + 1)) = y) := Lib.hid zz
          clear zz
          have mw := Wi.wd_self (Iv.mnU_W (by omega) HF.out (1 + 1) (by omega))
          have mx := Wi.wd_self (Iv.mxU_W (by omega) HF.out (1 + 1) (by omega))
          clear c1 c2
          have hz0 := hB.size
          have l0R := R.lt
          have l0ML := ML.lt
          have l0MH := MH.lt
          replace R := R.alloc (.cells #[.int .i64 (Wi.Hq (h * l')), .int .u64 (Wi.Lr (h * l'))] 46)
          replace ML := ML.alloc (.cells #[.int .i64 (Wi.Hq (h * l')), .int .u64 (Wi.Lr (h * l'))] 46)
          replace MH := MH.alloc (.cells #[.int .i64 (Wi.Hq (h * l')), .int .u64 (Wi.Lr (h * l'))] 46)
          replace hB := bal hB (.cells #[.int .i64 (Wi.Hq (h * l')), .int .u64 (Wi.Lr (h * l'))] 46)
          have PP := Blk.new w0 46 #[.int .i64 (Wi.Hq (h * l')), .int .u64 (Wi.Lr (h * l'))]
          obtain ⟨c00, c01, c02, c03⟩ := ML.open2
          obtain ⟨c10, c11, c12, c13⟩ := PP.open2
          go_wp2_with (first | simp only [ix0] | simp only [ix1] | simp only [ix2])
          refine (cmp_c _ _ _ _ _ _ _ (Wi.wd_self m3) mw).mono ?_
          rw [z1.out]
          rintro e w1 ⟨rfl, hb⟩
          clear c00 c01 c02 c03 c10 c11 c12 c13
          replace R := R.keep hb
          replace ML := ML.keep hb
          replace MH := MH.keep hb
          replace PP := PP.keep hb
          replace hB := bt hB hb
          clear hb
          obtain ⟨c00, c01, c02, c03⟩ := MH.open2
          obtain ⟨c10, c11, c12, c13⟩ := PP.open2
          go_wp2_with fail
          refine (cmp_c _ _ _ _ _ _ _ (Wi.wd_self m3) mx).mono ?_
          rw [z2.out]
          rintro e w2 ⟨rfl, hb⟩
          clear c00 c01 c02 c03 c10 c11 c12 c13
          replace R := R.keep hb
          replace ML := ML.keep hb
          replace MH := MH.keep hb
          replace PP := PP.keep hb
          replace hB := bt hB hb
          clear hb
          go_wp2_with fail
          go_roundw
          case rel => exact ⟨2, by omega, by go_num, R, by rw [z3.out]; exact ML, by rw [z4.out]; exact MH, hB⟩
          case measure => first | (simp [intOf]; done) | (simp [intOf]; omega)
      · by_cases c1 : (four (l * l') (l * h') (h * l') (h * h')) 3 < Iv.mnU (four (l * l') (l * h') (h * l') (h * h')) 3 <;> by_cases c2 : Iv.mxU (four (l * l') (l * h') (h * l') (h * h')) 3 < (four (l * l') (l * h') (h * l') (h * h')) 3
        · have z3 := Lib.hid (Iv.mnU_yes c1)
          have z4 := Lib.hid (Iv.mxU_yes c2)
          have z1 : Hid (Wi.cm (h * h') (Iv.mnU (four (l * l') (l * h') (h * l') (h * h')) (2 + 1)) = -1) := Lib.hid (Wi.cm_lt c1)
          have z2 : Hid (Wi.cm (h * h') (Iv.mxU (four (l * l') (l * h') (h * l') (h * h')) (2 + 1)) = 1) := Lib.hid (Wi.cm_gt c2)
          have mw := Wi.wd_self (Iv.mnU_W (by omega) HF.out (2 + 1) (by omega))
          have mx := Wi.wd_self (Iv.mxU_W (by omega) HF.out (2 + 1) (by omega))
          clear c1 c2
          have hz0 := hB.size
          have l0R := R.lt
          have l0ML := ML.lt
          have l0MH := MH.lt
          replace R := R.alloc (.cells #[.int .i64 (Wi.Hq (h * h')), .int .u64 (Wi.Lr (h * h'))] 46)
          replace ML := ML.alloc (.cells #[.int .i64 (Wi.Hq (h * h')), .int .u64 (Wi.Lr (h * h'))] 46)
          replace MH := MH.alloc (.cells #[.int .i64 (Wi.Hq (h * h')), .int .u64 (Wi.Lr (h * h'))] 46)
          replace hB := bal hB (.cells #[.int .i64 (Wi.Hq (h * h')), .int .u64 (Wi.Lr (h * h'))] 46)
          have PP := Blk.new w0 46 #[.int .i64 (Wi.Hq (h * h')), .int .u64 (Wi.Lr (h * h'))]
          obtain ⟨c00, c01, c02, c03⟩ := ML.open2
          obtain ⟨c10, c11, c12, c13⟩ := PP.open2
          go_wp2_with (first | simp only [ix0] | simp only [ix1] | simp only [ix2])
          refine (cmp_c _ _ _ _ _ _ _ (Wi.wd_self m4) mw).mono ?_
          rw [z1.out]
          rintro e w1 ⟨rfl, hb⟩
          clear c00 c01 c02 c03 c10 c11 c12 c13
          replace R := R.keep hb
          replace ML := ML.keep hb
          replace MH := MH.keep hb
          replace PP := PP.keep hb
          replace hB := bt hB hb
          clear hb
          obtain ⟨c00, c01, c02, c03⟩ := ML.open2
          obtain ⟨c10, c11, c12, c13⟩ := PP.open2
          obtain ⟨c20, c21, c22, c23⟩ := MH.open2
          go_wp2_with fail
          clear c00 c01 c02 c03 c10 c11 c12 c13 c20 c21 c22 c23
          replace R := ((R.far (p := ⟨w3.heap.size, 0, none⟩) (by first | (simp; done) | (simp; omega) | omega) (.int .i64 (Wi.Hq (h * h')))).far (p := ⟨w3.heap.size, 1, none⟩) (by first | (simp; done) | (simp; omega) | omega) (.int .u64 (Wi.Lr (h * h'))))
          replace MH := ((MH.far (p := ⟨w3.heap.size, 0, none⟩) (by first | (simp; done) | (simp; omega) | omega) (.int .i64 (Wi.Hq (h * h')))).far (p := ⟨w3.heap.size, 1, none⟩) (by first | (simp; done) | (simp; omega) | omega) (.int .u64 (Wi.Lr (h * h'))))
          replace PP := ((PP.far (p := ⟨w3.heap.size, 0, none⟩) (by first | (simp; done) | (simp; omega) | omega) (.int .i64 (Wi.Hq (h * h')))).far (p := ⟨w3.heap.size, 1, none⟩) (by first | (simp; done) | (simp; omega) | omega) (.int .u64 (Wi.Lr (h * h'))))
          replace hB := (bst (bst hB (p := ⟨w3.heap.size, 0, none⟩) (by first | (simp; done) | (simp; omega) | omega) (.int .i64 (Wi.Hq (h * h')))) (p := ⟨w3.heap.size, 1, none⟩) (by first | (simp; done) | (simp; omega) | omega) (.int .u64 (Wi.Lr (h * h'))))
          replace ML := ((ML.set_ 0 (.int .i64 (Wi.Hq (h * h')))).set_ 1 (.int .u64 (Wi.Lr (h * h'))))
          simp only [List.setIfInBounds_toArray, List.set_cons_zero, List.set_cons_succ] at ML
          obtain ⟨c00, c01, c02, c03⟩ := MH.open2
          obtain ⟨c10, c11, c12, c13⟩ := PP.open2
          refine (cmp_c _ _ _ _ _ _ _ (Wi.wd_self m4) mx).mono ?_
          rw [z2.out]
          rintro e w2 ⟨rfl, hb⟩
          clear c00 c01 c02 c03 c10 c11 c12 c13
          replace R := R.keep hb
          replace ML := ML.keep hb
          replace MH := MH.keep hb
          replace PP := PP.keep hb
          replace hB := bt hB hb
          clear hb
          obtain ⟨c00, c01, c02, c03⟩ := MH.open2
          obtain ⟨c10, c11, c12, c13⟩ := PP.open2
          go_wp2_with fail
          replace R := ((R.far (p := ⟨w3.heap.size + 1, 0, none⟩) (by first | (simp; done) | (simp; omega) | omega) (.int .i64 (Wi.Hq (h * h')))).far (p := ⟨w3.heap.size + 1, 1, none⟩) (by first | (simp; done) | (simp; omega) | omega) (.int .u64 (Wi.Lr (h * h'))))
          replace ML := ((ML.far (p := ⟨w3.heap.size + 1, 0, none⟩) (by first | (simp; done) | (simp; omega) | omega) (.int .i64 (Wi.Hq (h * h')))).far (p := ⟨w3.heap.size + 1, 1, none⟩) (by first | (simp; done) | (simp; omega) | omega) (.int .u64 (Wi.Lr (h * h'))))
          replace PP := ((PP.far (p := ⟨w3.heap.size + 1, 0, none⟩) (by first | (simp; done) | (simp; omega) | omega) (.int .i64 (Wi.Hq (h * h')))).far (p := ⟨w3.heap.size + 1, 1, none⟩) (by first | (simp; done) | (simp; omega) | omega) (.int .u64 (Wi.Lr (h * h'))))
          replace hB := (bst (bst hB (p := ⟨w3.heap.size + 1, 0, none⟩) (by first | (simp; done) | (simp; omega) | omega) (.int .i64 (Wi.Hq (h * h')))) (p := ⟨w3.heap.size + 1, 1, none⟩) (by first | (simp; done) | (simp; omega) | omega) (.int .u64 (Wi.Lr (h * h'))))
          replace MH := ((MH.set_ 0 (.int .i64 (Wi.Hq (h * h')))).set_ 1 (.int .u64 (Wi.Lr (h * h'))))
          simp only [List.setIfInBounds_toArray, List.set_cons_zero, List.set_cons_succ] at MH
          go_roundw
          case rel => exact ⟨3, by omega, by go_num, R, by rw [z3.out]; exact ML, by rw [z4.out]; exact MH, hB⟩
          case measure => first | (simp [intOf]; done) | (simp [intOf]; omega)
        · have z3 := Lib.hid (Iv.mnU_yes c1)
          have z4 := Lib.hid (Iv.mxU_no c2)
          have z1 : Hid (Wi.cm (h * h') (Iv.mnU (four (l * l') (l * h') (h * l') (h * h')) (2 + 1)) = -1) := Lib.hid (Wi.cm_lt c1)
          obtain ⟨y, zz, dy⟩ := Iv.cm_ng c2
          have z2 : Hid (Wi.cm (h * h') (Iv.mxU (four (l * l') (l * h') (h * l') (h * h')) (2 + 1)) = y) := Lib.hid zz
          clear zz
          have mw := Wi.wd_self (Iv.mnU_W (by omega) HF.out (2 + 1) (by omega))
          have mx := Wi.wd_self (Iv.mxU_W (by omega) HF.out (2 + 1) (by omega))
          clear c1 c2
          have hz0 := hB.size
          have l0R := R.lt
          have l0ML := ML.lt
          have l0MH := MH.lt
          replace R := R.alloc (.cells #[.int .i64 (Wi.Hq (h * h')), .int .u64 (Wi.Lr (h * h'))] 46)
          replace ML := ML.alloc (.cells #[.int .i64 (Wi.Hq (h * h')), .int .u64 (Wi.Lr (h * h'))] 46)
          replace MH := MH.alloc (.cells #[.int .i64 (Wi.Hq (h * h')), .int .u64 (Wi.Lr (h * h'))] 46)
          replace hB := bal hB (.cells #[.int .i64 (Wi.Hq (h * h')), .int .u64 (Wi.Lr (h * h'))] 46)
          have PP := Blk.new w0 46 #[.int .i64 (Wi.Hq (h * h')), .int .u64 (Wi.Lr (h * h'))]
          obtain ⟨c00, c01, c02, c03⟩ := ML.open2
          obtain ⟨c10, c11, c12, c13⟩ := PP.open2
          go_wp2_with (first | simp only [ix0] | simp only [ix1] | simp only [ix2])
          refine (cmp_c _ _ _ _ _ _ _ (Wi.wd_self m4) mw).mono ?_
          rw [z1.out]
          rintro e w1 ⟨rfl, hb⟩
          clear c00 c01 c02 c03 c10 c11 c12 c13
          replace R := R.keep hb
          replace ML := ML.keep hb
          replace MH := MH.keep hb
          replace PP := PP.keep hb
          replace hB := bt hB hb
          clear hb
          obtain ⟨c00, c01, c02, c03⟩ := ML.open2
          obtain ⟨c10, c11, c12, c13⟩ := PP.open2
          obtain ⟨c20, c21, c22, c23⟩ := MH.open2
          go_wp2_with fail
          clear c00 c01 c02 c03 c10 c11 c12 c13 c20 c21 c22 c23
          replace R := ((R.far (p := ⟨w3.heap.size, 0, none⟩) (by first | (simp; done) | (simp; omega) | omega) (.int .i64 (Wi.Hq (h * h')))).far (p := ⟨w3.heap.size, 1, none⟩) (by first | (simp; done) | (simp; omega) | omega) (.int .u64 (Wi.Lr (h * h'))))
          replace MH := ((MH.far (p := ⟨w3.heap.size, 0, none⟩) (by first | (simp; done) | (simp; omega) | omega) (.int .i64 (Wi.Hq (h * h')))).far (p := ⟨w3.heap.size, 1, none⟩) (by first | (simp; done) | (simp; omega) | omega) (.int .u64 (Wi.Lr (h * h'))))
          replace PP := ((PP.far (p := ⟨w3.heap.size, 0, none⟩) (by first | (simp; done) | (simp; omega) | omega) (.int .i64 (Wi.Hq (h * h')))).far (p := ⟨w3.heap.size, 1, none⟩) (by first | (simp; done) | (simp; omega) | omega) (.int .u64 (Wi.Lr (h * h'))))
          replace hB := (bst (bst hB (p := ⟨w3.heap.size, 0, none⟩) (by first | (simp; done) | (simp; omega) | omega) (.int .i64 (Wi.Hq (h * h')))) (p := ⟨w3.heap.size, 1, none⟩) (by first | (simp; done) | (simp; omega) | omega) (.int .u64 (Wi.Lr (h * h'))))
          replace ML := ((ML.set_ 0 (.int .i64 (Wi.Hq (h * h')))).set_ 1 (.int .u64 (Wi.Lr (h * h'))))
          simp only [List.setIfInBounds_toArray, List.set_cons_zero, List.set_cons_succ] at ML
          obtain ⟨c00, c01, c02, c03⟩ := MH.open2
          obtain ⟨c10, c11, c12, c13⟩ := PP.open2
          refine (cmp_c _ _ _ _ _ _ _ (Wi.wd_self m4) mx).mono ?_
          rw [z2.out]
          rintro e w2 ⟨rfl, hb⟩
          clear c00 c01 c02 c03 c10 c11 c12 c13
          replace R := R.keep hb
          replace ML := ML.keep hb
          replace MH := MH.keep hb
          replace PP := PP.keep hb
          replace hB := bt hB hb
          clear hb
          go_wp2_with fail
          go_roundw
          case rel => exact ⟨3, by omega, by go_num, R, by rw [z3.out]; exact ML, by rw [z4.out]; exact MH, hB⟩
          case measure => first | (simp [intOf]; done) | (simp [intOf]; omega)
        · have z3 := Lib.hid (Iv.mnU_no c1)
          have z4 := Lib.hid (Iv.mxU_yes c2)
          obtain ⟨z, zz, dz, _⟩ := Iv.cm_nl c1
          have z1 : Hid (Wi.cm (h * h') (Iv.mnU (four (l * l') (l * h') (h * l') (h * h')) (2 + 1)) = z) := Lib.hid zz
          clear zz
          have z2 : Hid (Wi.cm (h * h') (Iv.mxU (four (l * l') (l * h') (h * l') (h * h')) (2 + 1)) = 1) := Lib.hid (Wi.cm_gt c2)
          have mw := Wi.wd_self (Iv.mnU_W (by omega) HF.out (2 + 1) (by omega))
          have mx := Wi.wd_self (Iv.mxU_W (by omega) HF.out (2 + 1) (by omega))
          clear c1 c2
          have hz0 := hB.size
          have l0R := R.lt
          have l0ML := ML.lt
          have l0MH := MH.lt
          replace R := R.alloc (.cells #[.int .i64 (Wi.Hq (h * h')), .int .u64 (Wi.Lr (h * h'))] 46)
          replace ML := ML.alloc (.cells #[.int .i64 (Wi.Hq (h * h')), .int .u64 (Wi.Lr (h * h'))] 46)
          replace MH := MH.alloc (.cells #[.int .i64 (Wi.Hq (h * h')), .int .u64 (Wi.Lr (h * h'))] 46)
          replace hB := bal hB (.cells #[.int .i64 (Wi.Hq (h * h')), .int .u64 (Wi.Lr (h * h'))] 46)
          have PP := Blk.new w0 46 #[.int .i64 (Wi.Hq (h * h')), .int .u64 (Wi.Lr (h * h'))]
          obtain ⟨c00, c01, c02, c03⟩ := ML.open2
          obtain ⟨c10, c11, c12, c13⟩ := PP.open2
          go_wp2_with (first | simp only [ix0] | simp only [ix1] | simp only [ix2])
          refine (cmp_c _ _ _ _ _ _ _ (Wi.wd_self m4) mw).mono ?_
          rw [z1.out]
          rintro e w1 ⟨rfl, hb⟩
          clear c00 c01 c02 c03 c10 c11 c12 c13
          replace R := R.keep hb
          replace ML := ML.keep hb
          replace MH := MH.keep hb
          replace PP := PP.keep hb
          replace hB := bt hB hb
          clear hb
          obtain ⟨c00, c01, c02, c03⟩ := MH.open2
          obtain ⟨c10, c11, c12, c13⟩ := PP.open2
          go_wp2_with fail
          refine (cmp_c _ _ _ _ _ _ _ (Wi.wd_self m4) mx).mono ?_
          rw [z2.out]
          rintro e w2 ⟨rfl, hb⟩
          clear c00 c01 c02 c03 c10 c11 c12 c13
          replace R := R.keep hb
          replace ML := ML.keep hb
          replace MH := MH.keep hb
          replace PP := PP.keep hb
          replace hB := bt hB hb
          clear hb
          obtain ⟨c00, c01, c02, c03⟩ := MH.open2
          obtain ⟨c10, c11, c12, c13⟩ := PP.open2
          go_wp2_with fail
          replace R := ((R.far (p := ⟨w3.heap.size + 1, 0, none⟩) (by first | (simp; done) | (simp; omega) | omega) (.int .i64 (Wi.Hq (h * h')))).far (p := ⟨w3.heap.size + 1, 1, none⟩) (by first | (simp; done) | (simp; omega) | omega) (.int .u64 (Wi.Lr (h * h'))))
          replace ML := ((ML.far (p := ⟨w3.heap.size + 1, 0, none⟩) (by first | (simp; done) | (simp; omega) | omega) (.int .i64 (Wi.Hq (h * h')))).far (p := ⟨w3.heap.size + 1, 1, none⟩) (by first | (simp; done) | (simp; omega) | omega) (.int .u64 (Wi.Lr (h * h'))))
          replace PP := ((PP.far (p := ⟨w3.heap.size + 1, 0, none⟩) (by first | (simp; done) | (simp; omega) | omega) (.int .i64 (Wi.Hq (h * h')))).far (p := ⟨w3.heap.size + 1, 1, none⟩) (by first | (simp; done) | (simp; omega) | omega) (.int .u64 (Wi.Lr (h * h'))))
          replace hB := (bst (bst hB (p := ⟨w3.heap.size + 1, 0, none⟩) (by first | (simp; done) | (simp; omega) | omega) (.int .i64 (Wi.Hq (h * h')))) (p := ⟨w3.heap.size + 1, 1, none⟩) (by first | (simp; done) | (simp; omega) | omega) (.int .u64 (Wi.Lr (h * h'))))
          replace MH := ((MH.set_ 0 (.int .i64 (Wi.Hq (h * h')))).set_ 1 (.int .u64 (Wi.Lr (h * h'))))
          simp only [List.setIfInBounds_toArray, List.set_cons_zero, List.set_cons_succ] at MH
          go_roundw
          case rel => exact ⟨3, by omega, by go_num, R, by rw [z3.out]; exact ML, by rw [z4.out]; exact MH, hB⟩
          case measure => first | (simp [intOf]; done) | (simp [intOf]; omega)
        · have z3 := Lib.hid (Iv.mnU_no c1)
          have z4 := Lib.hid (Iv.mxU_no c2)
          obtain ⟨z, zz, dz, _⟩ := Iv.cm_nl c1
          have z1 : Hid (Wi.cm (h * h') (Iv.mnU (four (l * l') (l * h') (h * l') (h * h')) (2 + 1)) = z) := Lib.hid zz
          clear zz
          obtain ⟨y, zz, dy⟩ := Iv.cm_ng c2
          have z2 : Hid (Wi.cm (h * h') (Iv.mxU (four (l * l') (l * h') (h * l') (h * h')) (2 + 1)) = y) := Lib.hid zz
          clear zz
          have mw := Wi.wd_self (Iv.mnU_W (by omega) HF.out (2 + 1) (by omega))
          have mx := Wi.wd_self (Iv.mxU_W (by omega) HF.out (2 + 1) (by omega))
          clear c1 c2
          have hz0 := hB.size
          have l0R := R.lt
          have l0ML := ML.lt
          have l0MH := MH.lt
          replace R := R.alloc (.cells #[.int .i64 (Wi.Hq (h * h')), .int .u64 (Wi.Lr (h * h'))] 46)
          replace ML := ML.alloc (.cells #[.int .i64 (Wi.Hq (h * h')), .int .u64 (Wi.Lr (h * h'))] 46)
          replace MH := MH.alloc (.cells #[.int .i64 (Wi.Hq (h * h')), .int .u64 (Wi.Lr (h * h'))] 46)
          replace hB := bal hB (.cells #[.int .i64 (Wi.Hq (h * h')), .int .u64 (Wi.Lr (h * h'))] 46)
          have PP := Blk.new w0 46 #[.int .i64 (Wi.Hq (h * h')), .int .u64 (Wi.Lr (h * h'))]
          obtain ⟨c00, c01, c02, c03⟩ := ML.open2
          obtain ⟨c10, c11, c12, c13⟩ := PP.open2
          go_wp2_with (first | simp only [ix0] | simp only [ix1] | simp only [ix2])
          refine (cmp_c _ _ _ _ _ _ _ (Wi.wd_self m4) mw).mono ?_
          rw [z1.out]
          rintro e w1 ⟨rfl, hb⟩
          clear c00 c01 c02 c03 c10 c11 c12 c13
          replace R := R.keep hb
          replace ML := ML.keep hb
          replace MH := MH.keep hb
          replace PP := PP.keep hb
          replace hB := bt hB hb
          clear hb
          obtain ⟨c00, c01, c02, c03⟩ := MH.open2
          obtain ⟨c10, c11, c12, c13⟩ := PP.open2
          go_wp2_with fail
          refine (cmp_c _ _ _ _ _ _ _ (Wi.wd_self m4) mx).mono ?_
          rw [z2.out]
          rintro e w2 ⟨rfl, hb⟩
          clear c00 c01 c02 c03 c10 c11 c12 c13
          replace R := R.keep hb
          replace ML := ML.keep hb
          replace MH := MH.keep hb
          replace PP := PP.keep hb
          replace hB := bt hB hb
          clear hb
          go_wp2_with fail
          go_roundw
          case rel => exact ⟨3, by omega, by go_num, R, by rw [z3.out]; exact ML, by rw [z4.out]; exact MH, hB⟩
          case measure => first | (simp [intOf]; done) | (simp [intOf]; omega)
      · by_cases q1 : Wi.in64 (Iv.mnU (four (l * l') (l * h') (h * l') (h * h')) 4)
        rotate_left
        · simp only [Nat.reduceAdd] at ML MH
          have mw := Wi.wd_self (Iv.mnU_W (by omega) HF.out 4 (by omega))
          have mx := Wi.wd_self (Iv.mxU_W (by omega) HF.out 4 (by omega))
          have k1 := Lib.hid (Wi.ib_no q1)
          have E := Lib.hid (Iv.rs_no (l := (Iv.mnU (four (l * l') (l * h') (h * l') (h * h')) 4)) (h := (Iv.mxU (four (l * l') (l * h') (h * l') (h * h')) 4)) (fun z => q1 (by unfold Iv.Vd at z; unfold Wi.in64; omega)))
          clear q1
          obtain ⟨kb, k2⟩ : ∃ kb, Hid (Wi.ib (Iv.mxU (four (l * l') (l * h') (h * l') (h * h')) 4) = kb) := ⟨_, Lib.hid rfl⟩
          obtain ⟨c00, c01, c02, c03⟩ := ML.open2
          go_wp2_with fail
          refine (int_c _ _ _ _ mw).mono ?_
          rw [k1.out]
          rintro e w1 ⟨rfl, hb⟩
          clear c00 c01 c02 c03
          replace R := R.keep hb
          replace ML := ML.keep hb
          replace MH := MH.keep hb
          replace hB := bt hB hb
          clear hb
          obtain ⟨c00, c01, c02, c03⟩ := MH.open2
          go_wp2_with fail
          refine (int_c _ _ _ _ mx).mono ?_
          rw [k2.out]
          rintro e w2 ⟨rfl, hb⟩
          clear c00 c01 c02 c03
          replace R := R.keep hb
          replace ML := ML.keep hb
          replace MH := MH.keep hb
          replace hB := bt hB hb
          clear hb
          obtain ⟨r00, r01, r02, r03⟩ := R.open2
          go_wp2_with fail
          refine bodyPost_ret (by simp [results, Try.results14, go_sem, r00, r01, r02, r03]; try rfl) rfl ?_
          exact ⟨by rw [E.out] <;> rfl, by repeat (first | exact Below.refl _ _ | (with_reducible assumption) | (with_reducible apply bal) | (with_reducible apply bdr) | (with_reducible apply bdnl) | (with_reducible refine bst ?_ (by first | (simp; done) | (simp; omega) | omega) _) | (with_reducible refine bt ?_ (by with_reducible assumption)))⟩
        by_cases q2 : Wi.in64 (Iv.mxU (four (l * l') (l * h') (h * l') (h * h')) 4)
        rotate_left
        · simp only [Nat.reduceAdd] at ML MH
          have mw := Wi.wd_self (Iv.mnU_W (by omega) HF.out 4 (by omega))
          have mx := Wi.wd_self (Iv.mxU_W (by omega) HF.out 4 (by omega))
          have k1 := Lib.hid (Wi.ib_yes q1)
          have k2 := Lib.hid (Wi.ib_no q2)
          have E := Lib.hid (Iv.rs_no (l := (Iv.mnU (four (l * l') (l * h') (h * l') (h * h')) 4)) (h := (Iv.mxU (four (l * l') (l * h') (h * l') (h * h')) 4)) (fun z => q2 (by unfold Iv.Vd at z; unfold Wi.in64; omega)))
          clear q1 q2
          obtain ⟨c00, c01, c02, c03⟩ := ML.open2
          go_wp2_with fail
          refine (int_c _ _ _ _ mw).mono ?_
          rw [k1.out]
          rintro e w1 ⟨rfl, hb⟩
          clear c00 c01 c02 c03
          replace R := R.keep hb
          replace ML := ML.keep hb
          replace MH := MH.keep hb
          replace hB := bt hB hb
          clear hb
          obtain ⟨c00, c01, c02, c03⟩ := MH.open2
          go_wp2_with fail
          refine (int_c _ _ _ _ mx).mono ?_
          rw [k2.out]
          rintro e w2 ⟨rfl, hb⟩
          clear c00 c01 c02 c03
          replace R := R.keep hb
          replace ML := ML.keep hb
          replace MH := MH.keep hb
          replace hB := bt hB hb
          clear hb
          obtain ⟨r00, r01, r02, r03⟩ := R.open2
          go_wp2_with fail
          refine bodyPost_ret (by simp [results, Try.results14, go_sem, r00, r01, r02, r03]; try rfl) rfl ?_
          exact ⟨by rw [E.out] <;> rfl, by repeat (first | exact Below.refl _ _ | (with_reducible assumption) | (with_reducible apply bal) | (with_reducible apply bdr) | (with_reducible apply bdnl) | (with_reducible refine bst ?_ (by first | (simp; done) | (simp; omega) | omega) _) | (with_reducible refine bt ?_ (by with_reducible assumption)))⟩
        · simp only [Nat.reduceAdd] at ML MH
          have mw := Wi.wd_self (Iv.mnU_W (by omega) HF.out 4 (by omega))
          have mx := Wi.wd_self (Iv.mxU_W (by omega) HF.out 4 (by omega))
          have k1 := Lib.hid (Wi.ib_yes q1)
          have k2 := Lib.hid (Wi.ib_yes q2)
          have k3 := Lib.hid (Wi.iv_yes q1)
          have k4 := Lib.hid (Wi.iv_yes q2)
          clear q1 q2
          obtain ⟨c00, c01, c02, c03⟩ := ML.open2
          go_wp2_with fail
          refine (int_c _ _ _ _ mw).mono ?_
          rw [k1.out, k3.out]
          rintro e w1 ⟨rfl, hb⟩
          clear c00 c01 c02 c03
          replace R := R.keep hb
          replace ML := ML.keep hb
          replace MH := MH.keep hb
          replace hB := bt hB hb
          clear hb
          obtain ⟨c00, c01, c02, c03⟩ := MH.open2
          go_wp2_with fail
          refine (int_c _ _ _ _ mx).mono ?_
          rw [k2.out, k4.out]
          rintro e w2 ⟨rfl, hb⟩
          clear c00 c01 c02 c03
          replace R := R.keep hb
          replace ML := ML.keep hb
          replace MH := MH.keep hb
          replace hB := bt hB hb
          clear hb
          obtain ⟨c00, c01, c02, c03⟩ := R.open2
          go_wp2_with fail
          refine (result_c _ _ _).mono ?_
          rintro e w3 ⟨rfl, hb⟩
          clear c00 c01 c02 c03
          replace R := R.keep hb
          replace ML := ML.keep hb
          replace MH := MH.keep hb
          replace hB := bt hB hb
          clear hb
          obtain ⟨r00, r01, r02, r03⟩ := R.open2
          go_wp2_with fail
          refine bodyPost_ret (by simp [results, Try.results14, go_sem, r00, r01, r02, r03]; try rfl) rfl ?_
          exact ⟨rfl, by repeat (first | exact Below.refl _ _ | (with_reducible assumption) | (with_reducible apply bal) | (with_reducible apply bdr) | (with_reducible apply bdnl) | (with_reducible refine bst ?_ (by first | (simp; done) | (simp; omega) | omega) _) | (with_reducible refine bt ?_ (by with_reducible assumption)))⟩
end Go.Proofs.Ytgkbjkgafiojjaa
