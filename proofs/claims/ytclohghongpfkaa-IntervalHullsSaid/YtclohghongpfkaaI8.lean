/-
  Contracts: the reference's differences, widened.
-/
import Derived.Test.YtclohghongpfkaaI7
namespace Go.Proofs.Ytclohghongpfkaa
set_option linter.unusedVariables false
set_option linter.unusedSimpArgs false
open Go.RowKit

theorem sub_add {l h l' h' : Int} (v2 : Iv.Vd l' h') : Iv.add l h (-h') (-l') = Iv.sub l h l' h' := by
  have v3 : Iv.Vd (-h') (-l') := by unfold Iv.Vd at *; omega
  unfold Iv.add Iv.sub
  rw [show l + -h' = l - h' from by omega, show h + -l' = h - l' from by omega]
  by_cases q : Iv.Vd l h
  · rw [if_pos ⟨q, v3⟩, if_pos ⟨q, v2⟩]
  · rw [if_neg (fun z => q z.1), if_neg (fun z => q z.1)]

set_option maxRecDepth 100000 in
set_option maxHeartbeats 4000000 in
theorem rsub_ci (l h l' h' : Int) (w : World) : Calls Try.prog 46 #[.agg #[.int .i64 l, .int .i64 h], .agg #[.int .i64 l', .int .i64 h']] w fun e w' =>
    e = .returned (.tuple #[.agg #[.int .i64 (Iv.sub l h l' h').lo, .int .i64 (Iv.sub l h l' h').hi], .int .i64 (Iv.sub l h l' h').er]) ∧ Below w.heap.size w w' := by
  by_cases v2 : Iv.Vd l' h'
  rotate_left
  · rw [show Iv.sub l h l' h' = Iv.bad 1 from if_neg (fun q => v2 q.2)]
    have E := Lib.hid (show Iv.neg l' h' = Iv.bad 1 from if_neg v2)
    clear v2
    go_enter Try.func46, Try.ntmps46
    have X := Blk.new w 23 #[.int .i64 (l), .int .i64 (h)]
    have hB := ba w (.cells #[.int .i64 (l), .int .i64 (h)] 23)
    have Y := Blk.new1 w (.cells #[.int .i64 (l), .int .i64 (h)] 23) 23 #[.int .i64 (l'), .int .i64 (h')]
    replace X := X.alloc (.cells #[.int .i64 (l'), .int .i64 (h')] 23)
    replace hB := bal hB (.cells #[.int .i64 (l'), .int .i64 (h')] 23)
    have R := Blk.new2 w (.cells #[.int .i64 (l), .int .i64 (h)] 23) (.cells #[.int .i64 (l'), .int .i64 (h')] 23) 23 #[.int .i64 (0), .int .i64 (0)]
    replace X := X.alloc (.cells #[.int .i64 (0), .int .i64 (0)] 23)
    replace Y := Y.alloc (.cells #[.int .i64 (0), .int .i64 (0)] 23)
    replace hB := bal hB (.cells #[.int .i64 (0), .int .i64 (0)] 23)
    obtain ⟨c00, c01, c02, c03⟩ := Y.open2
    obtain ⟨c10, c11, c12, c13⟩ := R.open2
    go_wp2_with fail
    refine (rneg_ci _ _ _).mono ?_
    rw [E.out]
    rintro e w1 ⟨rfl, hb⟩
    clear c00 c01 c02 c03 c10 c11 c12 c13
    replace X := X.keep hb
    replace Y := Y.keep hb
    replace R := R.keep hb
    replace hB := bt hB hb
    clear hb
    obtain ⟨r00, r01, r02, r03⟩ := R.open2
    go_wp2_with fail
    refine bodyPost_ret (by simp [results, Try.results46, go_sem, r00, r01, r02, r03]; try rfl) rfl ?_
    exact ⟨rfl, by repeat (first | exact Below.refl _ _ | (with_reducible assumption) | (with_reducible apply bal) | (with_reducible apply bdr) | (with_reducible apply bdnl) | (with_reducible refine bst ?_ (by first | (simp; done) | (simp; omega) | omega) _) | (with_reducible refine bt ?_ (by with_reducible assumption)))⟩
  have E := Lib.hid (show Iv.neg l' h' = ⟨-h', -l', 0⟩ from if_pos v2)
  have E2 := Lib.hid (sub_add (l := l) (h := h) v2)
  clear v2
  go_enter Try.func46, Try.ntmps46
  have X := Blk.new w 23 #[.int .i64 (l), .int .i64 (h)]
  have hB := ba w (.cells #[.int .i64 (l), .int .i64 (h)] 23)
  have Y := Blk.new1 w (.cells #[.int .i64 (l), .int .i64 (h)] 23) 23 #[.int .i64 (l'), .int .i64 (h')]
  replace X := X.alloc (.cells #[.int .i64 (l'), .int .i64 (h')] 23)
  replace hB := bal hB (.cells #[.int .i64 (l'), .int .i64 (h')] 23)
  have R := Blk.new2 w (.cells #[.int .i64 (l), .int .i64 (h)] 23) (.cells #[.int .i64 (l'), .int .i64 (h')] 23) 23 #[.int .i64 (0), .int .i64 (0)]
  replace X := X.alloc (.cells #[.int .i64 (0), .int .i64 (0)] 23)
  replace Y := Y.alloc (.cells #[.int .i64 (0), .int .i64 (0)] 23)
  replace hB := bal hB (.cells #[.int .i64 (0), .int .i64 (0)] 23)
  obtain ⟨c00, c01, c02, c03⟩ := Y.open2
  obtain ⟨c10, c11, c12, c13⟩ := R.open2
  go_wp2_with fail
  refine (rneg_ci _ _ _).mono ?_
  rw [E.out]
  rintro e w1 ⟨rfl, hb⟩
  clear c00 c01 c02 c03 c10 c11 c12 c13
  replace X := X.keep hb
  replace Y := Y.keep hb
  replace R := R.keep hb
  replace hB := bt hB hb
  clear hb
  obtain ⟨c00, c01, c02, c03⟩ := X.open2
  obtain ⟨c10, c11, c12, c13⟩ := R.open2
  go_wp2_with fail
  have hz1 := hB.size
  have l1X := X.lt
  have l1Y := Y.lt
  have l1R := R.lt
  replace X := X.alloc (.cells #[.int .i64 (-h'), .int .i64 (-l')] 23)
  replace Y := Y.alloc (.cells #[.int .i64 (-h'), .int .i64 (-l')] 23)
  replace R := R.alloc (.cells #[.int .i64 (-h'), .int .i64 (-l')] 23)
  replace hB := bal hB (.cells #[.int .i64 (-h'), .int .i64 (-l')] 23)
  have Z := Blk.new w1 23 #[.int .i64 (-h'), .int .i64 (-l')]
  refine (radd_ci _ _ _ _ _).mono ?_
  rw [E2.out]
  rintro e w2 ⟨rfl, hb⟩
  clear c00 c01 c02 c03 c10 c11 c12 c13
  replace X := X.keep hb
  replace Y := Y.keep hb
  replace R := R.keep hb
  replace Z := Z.keep hb
  replace hB := bt hB hb
  clear hb
  obtain ⟨r00, r01, r02, r03⟩ := R.open2
  go_wp2_with fail
  refine bodyPost_ret (by simp [results, Try.results46, go_sem, r00, r01, r02, r03]; try rfl) rfl ?_
  exact ⟨rfl, by repeat (first | exact Below.refl _ _ | (with_reducible assumption) | (with_reducible apply bal) | (with_reducible apply bdr) | (with_reducible apply bdnl) | (with_reducible refine bst ?_ (by first | (simp; done) | (simp; omega) | omega) _) | (with_reducible refine bt ?_ (by with_reducible assumption)))⟩
set_option maxRecDepth 100000 in
set_option maxHeartbeats 4000000 in
theorem rwiden_ci (l h k : Int) (w : World) (y1 : -9223372036854775808 ≤ k) (y2 : k ≤ 9223372036854775807) : Calls Try.prog 42 #[.agg #[.int .i64 l, .int .i64 h], .int .i64 k] w fun e w' =>
    e = .returned (.tuple #[.agg #[.int .i64 (Iv.widen l h k).lo, .int .i64 (Iv.widen l h k).hi], .int .i64 (Iv.widen l h k).er]) ∧ Below w.heap.size w w' := by
  unfold Iv.widen
  by_cases v : Iv.Vd l h
  rotate_left
  · rw [if_neg (fun q => v q.1)]
    have e1 := Lib.hid (Iv.vb_no v)
    clear v
    go_enter Try.func42, Try.ntmps42
    have X := Blk.new w 23 #[.int .i64 (l), .int .i64 (h)]
    have hB := ba w (.cells #[.int .i64 (l), .int .i64 (h)] 23)
    have R := Blk.new1 w (.cells #[.int .i64 (l), .int .i64 (h)] 23) 23 #[.int .i64 (0), .int .i64 (0)]
    replace X := X.alloc (.cells #[.int .i64 (0), .int .i64 (0)] 23)
    replace hB := bal hB (.cells #[.int .i64 (0), .int .i64 (0)] 23)
    obtain ⟨c00, c01, c02, c03⟩ := X.open2
    go_wp2_with fail
    refine (rvalid_c _ _ _).mono ?_
    rw [e1.out]
    rintro e w1 ⟨rfl, hb⟩
    clear c00 c01 c02 c03
    replace X := X.keep hb
    replace R := R.keep hb
    replace hB := bt hB hb
    clear hb
    obtain ⟨r00, r01, r02, r03⟩ := R.open2
    go_wp2_with fail
    refine bodyPost_ret (by simp [results, Try.results42, go_sem, r00, r01, r02, r03]; try rfl) rfl ?_
    exact ⟨rfl, by repeat (first | exact Below.refl _ _ | (with_reducible assumption) | (with_reducible apply bal) | (with_reducible apply bdr) | (with_reducible apply bdnl) | (with_reducible refine bst ?_ (by first | (simp; done) | (simp; omega) | omega) _) | (with_reducible refine bt ?_ (by with_reducible assumption)))⟩
  by_cases k0 : 0 ≤ k
  rotate_left
  · rw [if_neg (fun q => k0 q.2)]
    have e1 := Lib.hid (Iv.vb_yes v)
    have k1 : k < 0 := by omega
    clear v k0
    go_enter Try.func42, Try.ntmps42
    have X := Blk.new w 23 #[.int .i64 (l), .int .i64 (h)]
    have hB := ba w (.cells #[.int .i64 (l), .int .i64 (h)] 23)
    have R := Blk.new1 w (.cells #[.int .i64 (l), .int .i64 (h)] 23) 23 #[.int .i64 (0), .int .i64 (0)]
    replace X := X.alloc (.cells #[.int .i64 (0), .int .i64 (0)] 23)
    replace hB := bal hB (.cells #[.int .i64 (0), .int .i64 (0)] 23)
    obtain ⟨c00, c01, c02, c03⟩ := X.open2
    go_wp2_with fail
    refine (rvalid_c _ _ _).mono ?_
    rw [e1.out]
    rintro e w1 ⟨rfl, hb⟩
    clear c00 c01 c02 c03
    replace X := X.keep hb
    replace R := R.keep hb
    replace hB := bt hB hb
    clear hb
    obtain ⟨r00, r01, r02, r03⟩ := R.open2
    go_wp2_with fail
    refine bodyPost_ret (by simp [results, Try.results42, go_sem, r00, r01, r02, r03]; try rfl) rfl ?_
    exact ⟨rfl, by repeat (first | exact Below.refl _ _ | (with_reducible assumption) | (with_reducible apply bal) | (with_reducible apply bdr) | (with_reducible apply bdnl) | (with_reducible refine bst ?_ (by first | (simp; done) | (simp; omega) | omega) _) | (with_reducible refine bt ?_ (by with_reducible assumption)))⟩
  rw [if_pos ⟨v, k0⟩]
  have e1 := Lib.hid (Iv.vb_yes v)
  have k1 : ¬ k < 0 := by omega
  have E := Lib.hid (rs_two (a := l - k) (b := h + k) (by unfold Iv.Vd at *; omega))
  have x1 : -9223372036854775808 ≤ l := by unfold Iv.Vd at *; omega
  have x2 : l ≤ 9223372036854775807 := by unfold Iv.Vd at *; omega
  have xx1 : -9223372036854775808 ≤ h := by unfold Iv.Vd at *; omega
  have xx2 : h ≤ 9223372036854775807 := by unfold Iv.Vd at *; omega
  have o1 := Wi.wd_self (show Wi.inW (l) from by unfold Iv.Vd at *; unfold Wi.inW; omega)
  have o2 := Wi.wd_self (show Wi.inW (k) from by unfold Iv.Vd at *; unfold Wi.inW; omega)
  have o3 := Wi.wd_self (show Wi.inW (h) from by unfold Iv.Vd at *; unfold Wi.inW; omega)
  have o5 := Wi.wd_self (show Wi.inW (l - k) from by unfold Iv.Vd at *; unfold Wi.inW; omega)
  have o6 := Wi.wd_self (show Wi.inW (h + k) from by unfold Iv.Vd at *; unfold Wi.inW; omega)
  have ra := Lib.hid (Wi.rv_yes (v := l - k) (by unfold Iv.Vd at *; unfold Wi.inW; omega))
  have ka := Lib.hid (Wi.okb_yes (v := l - k) (by unfold Iv.Vd at *; unfold Wi.inW; omega))
  have rb := Lib.hid (Wi.rv_yes (v := h + k) (by unfold Iv.Vd at *; unfold Wi.inW; omega))
  have kb := Lib.hid (Wi.okb_yes (v := h + k) (by unfold Iv.Vd at *; unfold Wi.inW; omega))
  clear v k0
  go_enter Try.func42, Try.ntmps42
  have X := Blk.new w 23 #[.int .i64 (l), .int .i64 (h)]
  have hB := ba w (.cells #[.int .i64 (l), .int .i64 (h)] 23)
  have R := Blk.new1 w (.cells #[.int .i64 (l), .int .i64 (h)] 23) 23 #[.int .i64 (0), .int .i64 (0)]
  replace X := X.alloc (.cells #[.int .i64 (0), .int .i64 (0)] 23)
  replace hB := bal hB (.cells #[.int .i64 (0), .int .i64 (0)] 23)
  obtain ⟨c00, c01, c02, c03⟩ := X.open2
  go_wp2_with fail
  refine (rvalid_c _ _ _).mono ?_
  rw [e1.out]
  rintro e w1 ⟨rfl, hb⟩
  clear c00 c01 c02 c03
  replace X := X.keep hb
  replace R := R.keep hb
  replace hB := bt hB hb
  clear hb
  obtain ⟨c00, c01, c02, c03⟩ := X.open2
  go_wp2_with fail
  refine (rof_c _ _ x1 x2).mono ?_
  rintro e w2 ⟨rfl, hb⟩
  clear c00 c01 c02 c03
  replace X := X.keep hb
  replace R := R.keep hb
  replace hB := bt hB hb
  clear hb
  go_wp2_with fail
  refine (rof_c _ _ y1 y2).mono ?_
  rintro e w3 ⟨rfl, hb⟩
  replace X := X.keep hb
  replace R := R.keep hb
  replace hB := bt hB hb
  clear hb
  go_wp2_with fail
  refine (rsub_c _ _ _ _ _ _ _ o1 o2).mono ?_
  rw [ra.out, ka.out]
  rintro e w4 ⟨rfl, hb⟩
  replace X := X.keep hb
  replace R := R.keep hb
  replace hB := bt hB hb
  clear hb
  have hz4 := hB.size
  have l4X := X.lt
  have l4R := R.lt
  replace X := X.alloc (.cells #[.int .i64 (Wi.Hq (l - k)), .int .u64 (Wi.Lr (l - k))] 40)
  replace R := R.alloc (.cells #[.int .i64 (Wi.Hq (l - k)), .int .u64 (Wi.Lr (l - k))] 40)
  replace hB := bal hB (.cells #[.int .i64 (Wi.Hq (l - k)), .int .u64 (Wi.Lr (l - k))] 40)
  have ML := Blk.new w4 40 #[.int .i64 (Wi.Hq (l - k)), .int .u64 (Wi.Lr (l - k))]
  obtain ⟨c00, c01, c02, c03⟩ := X.open2
  obtain ⟨c10, c11, c12, c13⟩ := ML.open2
  go_wp2_with fail
  refine (rof_c _ _ xx1 xx2).mono ?_
  rintro e w5 ⟨rfl, hb⟩
  clear c00 c01 c02 c03 c10 c11 c12 c13
  replace X := X.keep hb
  replace R := R.keep hb
  replace ML := ML.keep hb
  replace hB := bt hB hb
  clear hb
  go_wp2_with fail
  refine (rof_c _ _ y1 y2).mono ?_
  rintro e w6 ⟨rfl, hb⟩
  replace X := X.keep hb
  replace R := R.keep hb
  replace ML := ML.keep hb
  replace hB := bt hB hb
  clear hb
  go_wp2_with fail
  refine (radd_c _ _ _ _ _ _ _ o3 o2).mono ?_
  rw [rb.out, kb.out]
  rintro e w7 ⟨rfl, hb⟩
  replace X := X.keep hb
  replace R := R.keep hb
  replace ML := ML.keep hb
  replace hB := bt hB hb
  clear hb
  have hz7 := hB.size
  have l7X := X.lt
  have l7R := R.lt
  have l7ML := ML.lt
  replace X := X.alloc (.cells #[.int .i64 (Wi.Hq (h + k)), .int .u64 (Wi.Lr (h + k))] 40)
  replace R := R.alloc (.cells #[.int .i64 (Wi.Hq (h + k)), .int .u64 (Wi.Lr (h + k))] 40)
  replace ML := ML.alloc (.cells #[.int .i64 (Wi.Hq (h + k)), .int .u64 (Wi.Lr (h + k))] 40)
  replace hB := bal hB (.cells #[.int .i64 (Wi.Hq (h + k)), .int .u64 (Wi.Lr (h + k))] 40)
  have MH := Blk.new w7 40 #[.int .i64 (Wi.Hq (h + k)), .int .u64 (Wi.Lr (h + k))]
  obtain ⟨c00, c01, c02, c03⟩ := ML.open2
  obtain ⟨c10, c11, c12, c13⟩ := MH.open2
  obtain ⟨c20, c21, c22, c23⟩ := R.open2
  go_wp2_with fail
  replace X := X.alloc (.cells #[.int .i64 (Wi.Hq (l - k)), .int .u64 (Wi.Lr (l - k)), .int .i64 (Wi.Hq (h + k)), .int .u64 (Wi.Lr (h + k))] 40)
  replace R := R.alloc (.cells #[.int .i64 (Wi.Hq (l - k)), .int .u64 (Wi.Lr (l - k)), .int .i64 (Wi.Hq (h + k)), .int .u64 (Wi.Lr (h + k))] 40)
  replace ML := ML.alloc (.cells #[.int .i64 (Wi.Hq (l - k)), .int .u64 (Wi.Lr (l - k)), .int .i64 (Wi.Hq (h + k)), .int .u64 (Wi.Lr (h + k))] 40)
  replace MH := MH.alloc (.cells #[.int .i64 (Wi.Hq (l - k)), .int .u64 (Wi.Lr (l - k)), .int .i64 (Wi.Hq (h + k)), .int .u64 (Wi.Lr (h + k))] 40)
  replace hB := bal hB (.cells #[.int .i64 (Wi.Hq (l - k)), .int .u64 (Wi.Lr (l - k)), .int .i64 (Wi.Hq (h + k)), .int .u64 (Wi.Lr (h + k))] 40)
  have SL := Blk.new1 w7 (.cells #[.int .i64 (Wi.Hq (h + k)), .int .u64 (Wi.Lr (h + k))] 40) 40 #[.int .i64 (Wi.Hq (l - k)), .int .u64 (Wi.Lr (l - k)), .int .i64 (Wi.Hq (h + k)), .int .u64 (Wi.Lr (h + k))]
  refine (rexact_c _ 2 2 (two (l - k) (h + k)) _ (rd2W SL) (by decide) (two_W o5.hv o6.hv)).mono ?_
  rw [E.out]
  rintro e w8 ⟨rfl, hb⟩
  clear c00 c01 c02 c03 c10 c11 c12 c13 c20 c21 c22 c23
  replace X := X.keep hb
  replace R := R.keep hb
  replace ML := ML.keep hb
  replace MH := MH.keep hb
  replace SL := SL.keep hb
  replace hB := bt hB hb
  clear hb
  obtain ⟨r00, r01, r02, r03⟩ := R.open2
  go_wp2_with fail
  refine bodyPost_ret (by simp [results, Try.results42, go_sem, r00, r01, r02, r03]; try rfl) rfl ?_
  exact ⟨rfl, by repeat (first | exact Below.refl _ _ | (with_reducible assumption) | (with_reducible apply bal) | (with_reducible apply bdr) | (with_reducible apply bdnl) | (with_reducible refine bst ?_ (by first | (simp; done) | (simp; omega) | omega) _) | (with_reducible refine bt ?_ (by with_reducible assumption)))⟩
end Go.Proofs.Ytclohghongpfkaa
