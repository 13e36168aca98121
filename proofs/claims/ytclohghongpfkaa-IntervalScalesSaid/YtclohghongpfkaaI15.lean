/-
  Contracts: square roots of intervals; what the laws share.
-/
import Derived.Test.YtclohghongpfkaaI14
import Derived.Test.YtclohghongpfkaaI13
import Derived.Test.YtclohghongpfkaaI12
import Derived.Test.YtclohghongpfkaaI11
import Derived.Test.YtclohghongpfkaaI5
import Derived.Test.YtclohghongpfkaaI4
namespace Go.Proofs.Ytclohghongpfkaa
set_option linter.unusedVariables false
set_option linter.unusedSimpArgs false
open Go.RowKit

theorem sqUp_bd {l h : Int} (v : Iv.Vd l h) (h0 : 0 ≤ l) : Iv.Vd (Iv.sq l) (Iv.sqUp h) := by
  unfold Iv.Vd at *
  have a := sq_spec h0
  have b := sq_mono h0 v.1
  have c := sq_lt_of (n := h) (b := 2147483649) (by omega) (by omega) (by omega)
  unfold Iv.sqUp
  split <;> omega
theorem aw1 : (Iv.mul (-2) 3 (-5) 4).lo = -15 ∧ (Iv.mul (-2) 3 (-5) 4).hi = 12 ∧ (Iv.mul (-2) 3 (-5) 4).er = 0 := ⟨by kernel_rfl, by kernel_rfl, by kernel_rfl⟩
theorem aw2 : (Iv.quo 1 2 3 4).lo = 0 ∧ (Iv.quo 1 2 3 4).hi = 1 ∧ (Iv.quo 1 2 3 4).er = 0 := ⟨by kernel_rfl, by kernel_rfl, by kernel_rfl⟩
theorem aw3 : (Iv.scale 7 10 1 3).lo = 2 ∧ (Iv.scale 7 10 1 3).hi = 4 ∧ (Iv.scale 7 10 1 3).er = 0 := ⟨by kernel_rfl, by kernel_rfl, by kernel_rfl⟩
theorem aw4 : (Iv.scale 7 10 (-1) 3).lo = -4 ∧ (Iv.scale 7 10 (-1) 3).hi = -2 ∧ (Iv.scale 7 10 (-1) 3).er = 0 := ⟨by kernel_rfl, by kernel_rfl, by kernel_rfl⟩
theorem aw5 : (Iv.sqrt 8 9).lo = 2 ∧ (Iv.sqrt 8 9).hi = 3 ∧ (Iv.sqrt 8 9).er = 0 := by
  have e1 : Iv.sq 8 = 2 := sq_of (by omega) (by omega) (by omega) (by omega)
  have e2 : Iv.sq 9 = 3 := sq_of (by omega) (by omega) (by omega) (by omega)
  have e3 : Iv.sqUp 9 = 3 := by unfold Iv.sqUp; rw [e2]; rfl
  have e4 : Iv.sqrt 8 9 = ⟨2, 3, 0⟩ := by unfold Iv.sqrt; rw [if_pos ⟨by unfold Iv.Vd; omega, by omega⟩, e1, e3]
  rw [e4]; exact ⟨rfl, rfl, rfl⟩
theorem aw6 : (Iv.abs (-2) 1).lo = 0 ∧ (Iv.abs (-2) 1).hi = 2 ∧ (Iv.abs (-2) 1).er = 0 := ⟨by kernel_rfl, by kernel_rfl, by kernel_rfl⟩
theorem aw7 : (Iv.meet 0 1 2 3).lo = 0 ∧ (Iv.meet 0 1 2 3).hi = 0 ∧ (Iv.meet 0 1 2 3).er = 6 := ⟨by kernel_rfl, by kernel_rfl, by kernel_rfl⟩

set_option maxRecDepth 100000 in
set_option maxHeartbeats 4000000 in
theorem sqrt_ci (l h : Int) (w : World) : Calls Try.prog 21 #[.agg #[.int .i64 l, .int .i64 h]] w fun e w' =>
    e = .returned (.tuple #[.agg #[.int .i64 (Iv.sqrt l h).lo, .int .i64 (Iv.sqrt l h).hi], .int .i64 (Iv.sqrt l h).er]) ∧ Below w.heap.size w w' := by
  unfold Iv.sqrt
  by_cases v : Iv.Vd l h
  rotate_left
  · rw [if_neg (fun q => v q.1)]
    have e1 := Lib.hid (Iv.vb_no v)
    clear v
    go_enter Try.func21, Try.ntmps21
    have X := Blk.new w 23 #[.int .i64 (l), .int .i64 (h)]
    have hB := ba w (.cells #[.int .i64 (l), .int .i64 (h)] 23)
    have R := Blk.new1 w (.cells #[.int .i64 (l), .int .i64 (h)] 23) 23 #[.int .i64 (0), .int .i64 (0)]
    replace X := X.alloc (.cells #[.int .i64 (0), .int .i64 (0)] 23)
    replace hB := bal hB (.cells #[.int .i64 (0), .int .i64 (0)] 23)
    obtain ⟨c00, c01, c02, c03⟩ := X.open2
    go_wp2_with fail
    refine (valid_c _ _ _).mono ?_
    rw [e1.out]
    rintro e w1 ⟨rfl, hb⟩
    clear c00 c01 c02 c03
    replace X := X.keep hb
    replace R := R.keep hb
    replace hB := bt hB hb
    clear hb
    obtain ⟨r00, r01, r02, r03⟩ := R.open2
    go_wp2_with fail
    refine bodyPost_ret (by simp [results, Try.results21, go_sem, r00, r01, r02, r03]; try rfl) rfl ?_
    exact ⟨rfl, by repeat (first | exact Below.refl _ _ | (with_reducible assumption) | (with_reducible apply bal) | (with_reducible apply bdr) | (with_reducible apply bdnl) | (with_reducible refine bst ?_ (by first | (simp; done) | (simp; omega) | omega) _) | (with_reducible refine bt ?_ (by with_reducible assumption)))⟩
  by_cases k0 : 0 ≤ l
  rotate_left
  · rw [if_neg (fun q => k0 q.2)]
    have e1 := Lib.hid (Iv.vb_yes v)
    have k1 : l < 0 := by omega
    clear v k0
    go_enter Try.func21, Try.ntmps21
    have X := Blk.new w 23 #[.int .i64 (l), .int .i64 (h)]
    have hB := ba w (.cells #[.int .i64 (l), .int .i64 (h)] 23)
    have R := Blk.new1 w (.cells #[.int .i64 (l), .int .i64 (h)] 23) 23 #[.int .i64 (0), .int .i64 (0)]
    replace X := X.alloc (.cells #[.int .i64 (0), .int .i64 (0)] 23)
    replace hB := bal hB (.cells #[.int .i64 (0), .int .i64 (0)] 23)
    obtain ⟨c00, c01, c02, c03⟩ := X.open2
    go_wp2_with fail
    refine (valid_c _ _ _).mono ?_
    rw [e1.out]
    rintro e w1 ⟨rfl, hb⟩
    clear c00 c01 c02 c03
    replace X := X.keep hb
    replace R := R.keep hb
    replace hB := bt hB hb
    clear hb
    obtain ⟨c00, c01, c02, c03⟩ := X.open2
    obtain ⟨r00, r01, r02, r03⟩ := R.open2
    go_wp2_with fail
    refine bodyPost_ret (by simp [results, Try.results21, go_sem, r00, r01, r02, r03]; try rfl) rfl ?_
    exact ⟨rfl, by repeat (first | exact Below.refl _ _ | (with_reducible assumption) | (with_reducible apply bal) | (with_reducible apply bdr) | (with_reducible apply bdnl) | (with_reducible refine bst ?_ (by first | (simp; done) | (simp; omega) | omega) _) | (with_reducible refine bt ?_ (by with_reducible assumption)))⟩
  rw [if_pos ⟨v, k0⟩]
  have e1 := Lib.hid (Iv.vb_yes v)
  have k1 : ¬ l < 0 := by omega
  have y1 : l ≤ 4611686018427387904 := by unfold Iv.Vd at v; omega
  have y2 : h ≤ 4611686018427387904 := by unfold Iv.Vd at v; omega
  have y3 : -9223372036854775808 ≤ l := by unfold Iv.Vd at v; omega
  have y4 : -9223372036854775808 ≤ h := by unfold Iv.Vd at v; omega
  have E := Lib.hid (Iv.rs_yes (sqUp_bd v k0))
  clear v k0
  go_enter Try.func21, Try.ntmps21
  have X := Blk.new w 23 #[.int .i64 (l), .int .i64 (h)]
  have hB := ba w (.cells #[.int .i64 (l), .int .i64 (h)] 23)
  have R := Blk.new1 w (.cells #[.int .i64 (l), .int .i64 (h)] 23) 23 #[.int .i64 (0), .int .i64 (0)]
  replace X := X.alloc (.cells #[.int .i64 (0), .int .i64 (0)] 23)
  replace hB := bal hB (.cells #[.int .i64 (0), .int .i64 (0)] 23)
  obtain ⟨c00, c01, c02, c03⟩ := X.open2
  go_wp2_with fail
  refine (valid_c _ _ _).mono ?_
  rw [e1.out]
  rintro e w1 ⟨rfl, hb⟩
  clear c00 c01 c02 c03
  replace X := X.keep hb
  replace R := R.keep hb
  replace hB := bt hB hb
  clear hb
  obtain ⟨c00, c01, c02, c03⟩ := X.open2
  go_wp2_with fail
  refine wp_region_inv (fun L x G wx => Below w.heap.size w wx
        ∧ w.heap.size < wx.heap.size
        ∧ Blk wx (w.heap.size) 23 #[.int .i64 (l), .int .i64 (h)]
        ∧ w.heap.size + 1 < wx.heap.size
        ∧ (¬ L 9 → Blk wx (w.heap.size + 1) 23 #[.int .i64 (0), .int .i64 (0)])
        ∧ (L 9 → Blk wx (w.heap.size + 1) 23 #[.int .i64 ((Iv.Rs.mk (Iv.sq l) (Iv.sqUp h) 0).lo), .int .i64 ((Iv.Rs.mk (Iv.sq l) (Iv.sqUp h) 0).hi)])
        ∧ (L 0 → x 13 = .pointer (some ⟨w.heap.size, 0, none⟩))
        ∧ (L 1 → x 14 = .int .i64 (l))
        ∧ (L 2 → x 15 = .int .i64 (Iv.sq l))
        ∧ (L 3 → x 16 = .pointer (some ⟨w.heap.size, 1, none⟩))
        ∧ (L 4 → x 17 = .int .i64 (h))
        ∧ (L 5 → x 18 = .int .i64 (Iv.sqUp h))
        ∧ (L 6 → x 19 = .tuple #[.agg #[.int .i64 ((Iv.Rs.mk (Iv.sq l) (Iv.sqUp h) 0).lo), .int .i64 ((Iv.Rs.mk (Iv.sq l) (Iv.sqUp h) 0).hi)], .int .i64 ((Iv.Rs.mk (Iv.sq l) (Iv.sqUp h) 0).er)])
        ∧ (L 7 → x 20 = .agg #[.int .i64 ((Iv.Rs.mk (Iv.sq l) (Iv.sqUp h) 0).lo), .int .i64 ((Iv.Rs.mk (Iv.sq l) (Iv.sqUp h) 0).hi)])
        ∧ (L 8 → x 21 = .int .i64 ((Iv.Rs.mk (Iv.sq l) (Iv.sqUp h) 0).er))
        ∧ (L 10 → x 3 = .int .i64 ((Iv.Rs.mk (Iv.sq l) (Iv.sqUp h) 0).er))) [13, 14, 15, 16, 17, 18, 19, 20, 21, 3] 11 (by kernel_rfl) (by kernel_rfl) (by kernel_rfl) ?h0 ?st ?fin
  case h0 =>
    exact ⟨bdr hB, Blk.lt X.drew, X.drew, Blk.lt R.drew, (fun _ => R.drew), fun q => q.elim, fun q => q.elim, fun q => q.elim, fun q => q.elim, fun q => q.elim, fun q => q.elim, fun q => q.elim, fun q => q.elim, fun q => q.elim, fun q => q.elim, fun q => q.elim⟩
  case st =>
    refine StepsOk.cons (i := 0) rfl (fun L x G w1 K Q hn hp hJ hK => ?_) ?_
    · skip
      simp only [putAll, Act.put, List.setIfInBounds_toArray, List.set_cons_zero, List.set_cons_succ]
      go_simp
      refine hK _ G _ (by kernel_rfl) ?_
      exact ⟨(hJ.1),
        (hJ.2.1),
        (hJ.2.2.1),
        (hJ.2.2.2.1),
        fun n => (hJ.2.2.2.2.1) (fun m => n (.inr m)),
        fun q => (hJ.2.2.2.2.2.1) (q.resolve_left (by decide)),
        fun _ => rfl,
        fun q => (hJ.2.2.2.2.2.2.2.1) (q.resolve_left (by decide)),
        fun q => (hJ.2.2.2.2.2.2.2.2.1) (q.resolve_left (by decide)),
        fun q => (hJ.2.2.2.2.2.2.2.2.2.1) (q.resolve_left (by decide)),
        fun q => (hJ.2.2.2.2.2.2.2.2.2.2.1) (q.resolve_left (by decide)),
        fun q => (hJ.2.2.2.2.2.2.2.2.2.2.2.1) (q.resolve_left (by decide)),
        fun q => (hJ.2.2.2.2.2.2.2.2.2.2.2.2.1) (q.resolve_left (by decide)),
        fun q => (hJ.2.2.2.2.2.2.2.2.2.2.2.2.2.1) (q.resolve_left (by decide)),
        fun q => (hJ.2.2.2.2.2.2.2.2.2.2.2.2.2.2.1) (q.resolve_left (by decide)),
        fun q => (hJ.2.2.2.2.2.2.2.2.2.2.2.2.2.2.2) (q.resolve_left (by decide))⟩
    refine StepsOk.cons (i := 1) rfl (fun L x G w1 K Q hn hp hJ hK => ?_) ?_
    · skip
      have p0 : L 0 := hp ⟨0, .data⟩ (by simp) rfl
      have e0 := (hJ.2.2.2.2.2.2.1) p0
      have hc := Blk.open2 ((hJ.2.2.1))
      have c0 := hc.1
      have c1 := hc.2.1
      have c2 := hc.2.2.1
      have c3 := hc.2.2.2
      clear hc
      simp only [putAll, Act.put, List.setIfInBounds_toArray, List.set_cons_zero, List.set_cons_succ]
      go_simp
      refine hK _ G _ (by kernel_rfl) ?_
      exact ⟨(hJ.1),
        (hJ.2.1),
        (hJ.2.2.1),
        (hJ.2.2.2.1),
        fun n => (hJ.2.2.2.2.1) (fun m => n (.inr m)),
        fun q => (hJ.2.2.2.2.2.1) (q.resolve_left (by decide)),
        fun _ => by first | exact rfl | exact e0,
        fun _ => rfl,
        fun q => (hJ.2.2.2.2.2.2.2.2.1) (q.resolve_left (by decide)),
        fun q => (hJ.2.2.2.2.2.2.2.2.2.1) (q.resolve_left (by decide)),
        fun q => (hJ.2.2.2.2.2.2.2.2.2.2.1) (q.resolve_left (by decide)),
        fun q => (hJ.2.2.2.2.2.2.2.2.2.2.2.1) (q.resolve_left (by decide)),
        fun q => (hJ.2.2.2.2.2.2.2.2.2.2.2.2.1) (q.resolve_left (by decide)),
        fun q => (hJ.2.2.2.2.2.2.2.2.2.2.2.2.2.1) (q.resolve_left (by decide)),
        fun q => (hJ.2.2.2.2.2.2.2.2.2.2.2.2.2.2.1) (q.resolve_left (by decide)),
        fun q => (hJ.2.2.2.2.2.2.2.2.2.2.2.2.2.2.2) (q.resolve_left (by decide))⟩
    refine StepsOk.cons (i := 2) rfl (fun L x G w1 K Q hn hp hJ hK => ?_) ?_
    · skip
      have p1 : L 1 := hp ⟨1, .data⟩ (by simp) rfl
      have e1 := (hJ.2.2.2.2.2.2.2.1) p1
      simp only [putAll, Act.put, List.setIfInBounds_toArray, List.set_cons_zero, List.set_cons_succ]
      go_simp
      refine (fsqrt_c _ _ y1).mono ?_
      rintro e w2 ⟨rfl, hb⟩
      have hz := hb.size
      try go_simp
      refine hK _ G _ (by kernel_rfl) ?_
      exact ⟨bt (hJ.1) hb,
        Nat.lt_of_lt_of_le (hJ.2.1) hb.size,
        Blk.keep ((hJ.2.2.1)) hb,
        Nat.lt_of_lt_of_le (hJ.2.2.2.1) hb.size,
        fun n => Blk.keep ((hJ.2.2.2.2.1) (fun m => n (.inr m))) hb,
        fun q => Blk.keep ((hJ.2.2.2.2.2.1) (q.resolve_left (by decide))) hb,
        fun q => (hJ.2.2.2.2.2.2.1) (q.resolve_left (by decide)),
        fun _ => by first | exact rfl | exact e1,
        fun _ => rfl,
        fun q => (hJ.2.2.2.2.2.2.2.2.2.1) (q.resolve_left (by decide)),
        fun q => (hJ.2.2.2.2.2.2.2.2.2.2.1) (q.resolve_left (by decide)),
        fun q => (hJ.2.2.2.2.2.2.2.2.2.2.2.1) (q.resolve_left (by decide)),
        fun q => (hJ.2.2.2.2.2.2.2.2.2.2.2.2.1) (q.resolve_left (by decide)),
        fun q => (hJ.2.2.2.2.2.2.2.2.2.2.2.2.2.1) (q.resolve_left (by decide)),
        fun q => (hJ.2.2.2.2.2.2.2.2.2.2.2.2.2.2.1) (q.resolve_left (by decide)),
        fun q => (hJ.2.2.2.2.2.2.2.2.2.2.2.2.2.2.2) (q.resolve_left (by decide))⟩
    refine StepsOk.cons (i := 3) rfl (fun L x G w1 K Q hn hp hJ hK => ?_) ?_
    · skip
      simp only [putAll, Act.put, List.setIfInBounds_toArray, List.set_cons_zero, List.set_cons_succ]
      go_simp
      refine hK _ G _ (by kernel_rfl) ?_
      exact ⟨(hJ.1),
        (hJ.2.1),
        (hJ.2.2.1),
        (hJ.2.2.2.1),
        fun n => (hJ.2.2.2.2.1) (fun m => n (.inr m)),
        fun q => (hJ.2.2.2.2.2.1) (q.resolve_left (by decide)),
        fun q => (hJ.2.2.2.2.2.2.1) (q.resolve_left (by decide)),
        fun q => (hJ.2.2.2.2.2.2.2.1) (q.resolve_left (by decide)),
        fun q => (hJ.2.2.2.2.2.2.2.2.1) (q.resolve_left (by decide)),
        fun _ => rfl,
        fun q => (hJ.2.2.2.2.2.2.2.2.2.2.1) (q.resolve_left (by decide)),
        fun q => (hJ.2.2.2.2.2.2.2.2.2.2.2.1) (q.resolve_left (by decide)),
        fun q => (hJ.2.2.2.2.2.2.2.2.2.2.2.2.1) (q.resolve_left (by decide)),
        fun q => (hJ.2.2.2.2.2.2.2.2.2.2.2.2.2.1) (q.resolve_left (by decide)),
        fun q => (hJ.2.2.2.2.2.2.2.2.2.2.2.2.2.2.1) (q.resolve_left (by decide)),
        fun q => (hJ.2.2.2.2.2.2.2.2.2.2.2.2.2.2.2) (q.resolve_left (by decide))⟩
    refine StepsOk.cons (i := 4) rfl (fun L x G w1 K Q hn hp hJ hK => ?_) ?_
    · skip
      have p3 : L 3 := hp ⟨3, .data⟩ (by simp) rfl
      have e3 := (hJ.2.2.2.2.2.2.2.2.2.1) p3
      have hc := Blk.open2 ((hJ.2.2.1))
      have c0 := hc.1
      have c1 := hc.2.1
      have c2 := hc.2.2.1
      have c3 := hc.2.2.2
      clear hc
      simp only [putAll, Act.put, List.setIfInBounds_toArray, List.set_cons_zero, List.set_cons_succ]
      go_simp
      refine hK _ G _ (by kernel_rfl) ?_
      exact ⟨(hJ.1),
        (hJ.2.1),
        (hJ.2.2.1),
        (hJ.2.2.2.1),
        fun n => (hJ.2.2.2.2.1) (fun m => n (.inr m)),
        fun q => (hJ.2.2.2.2.2.1) (q.resolve_left (by decide)),
        fun q => (hJ.2.2.2.2.2.2.1) (q.resolve_left (by decide)),
        fun q => (hJ.2.2.2.2.2.2.2.1) (q.resolve_left (by decide)),
        fun q => (hJ.2.2.2.2.2.2.2.2.1) (q.resolve_left (by decide)),
        fun _ => by first | exact rfl | exact e3,
        fun _ => rfl,
        fun q => (hJ.2.2.2.2.2.2.2.2.2.2.2.1) (q.resolve_left (by decide)),
        fun q => (hJ.2.2.2.2.2.2.2.2.2.2.2.2.1) (q.resolve_left (by decide)),
        fun q => (hJ.2.2.2.2.2.2.2.2.2.2.2.2.2.1) (q.resolve_left (by decide)),
        fun q => (hJ.2.2.2.2.2.2.2.2.2.2.2.2.2.2.1) (q.resolve_left (by decide)),
        fun q => (hJ.2.2.2.2.2.2.2.2.2.2.2.2.2.2.2) (q.resolve_left (by decide))⟩
    refine StepsOk.cons (i := 5) rfl (fun L x G w1 K Q hn hp hJ hK => ?_) ?_
    · skip
      have p4 : L 4 := hp ⟨4, .data⟩ (by simp) rfl
      have e4 := (hJ.2.2.2.2.2.2.2.2.2.2.1) p4
      simp only [putAll, Act.put, List.setIfInBounds_toArray, List.set_cons_zero, List.set_cons_succ]
      go_simp
      refine (fsqrtup_c _ _ y2).mono ?_
      rintro e w2 ⟨rfl, hb⟩
      have hz := hb.size
      try go_simp
      refine hK _ G _ (by kernel_rfl) ?_
      exact ⟨bt (hJ.1) hb,
        Nat.lt_of_lt_of_le (hJ.2.1) hb.size,
        Blk.keep ((hJ.2.2.1)) hb,
        Nat.lt_of_lt_of_le (hJ.2.2.2.1) hb.size,
        fun n => Blk.keep ((hJ.2.2.2.2.1) (fun m => n (.inr m))) hb,
        fun q => Blk.keep ((hJ.2.2.2.2.2.1) (q.resolve_left (by decide))) hb,
        fun q => (hJ.2.2.2.2.2.2.1) (q.resolve_left (by decide)),
        fun q => (hJ.2.2.2.2.2.2.2.1) (q.resolve_left (by decide)),
        fun q => (hJ.2.2.2.2.2.2.2.2.1) (q.resolve_left (by decide)),
        fun q => (hJ.2.2.2.2.2.2.2.2.2.1) (q.resolve_left (by decide)),
        fun _ => by first | exact rfl | exact e4,
        fun _ => rfl,
        fun q => (hJ.2.2.2.2.2.2.2.2.2.2.2.2.1) (q.resolve_left (by decide)),
        fun q => (hJ.2.2.2.2.2.2.2.2.2.2.2.2.2.1) (q.resolve_left (by decide)),
        fun q => (hJ.2.2.2.2.2.2.2.2.2.2.2.2.2.2.1) (q.resolve_left (by decide)),
        fun q => (hJ.2.2.2.2.2.2.2.2.2.2.2.2.2.2.2) (q.resolve_left (by decide))⟩
    refine StepsOk.cons (i := 6) rfl (fun L x G w1 K Q hn hp hJ hK => ?_) ?_
    · skip
      have p2 : L 2 := hp ⟨2, .data⟩ (by simp) rfl
      have e2 := (hJ.2.2.2.2.2.2.2.2.1) p2
      have p5 : L 5 := hp ⟨5, .data⟩ (by simp) rfl
      have e5 := (hJ.2.2.2.2.2.2.2.2.2.2.2.1) p5
      simp only [putAll, Act.put, List.setIfInBounds_toArray, List.set_cons_zero, List.set_cons_succ]
      go_simp
      refine (result_c _ _ _).mono ?_
      rw [E.out]
      rintro e w2 ⟨rfl, hb⟩
      have hz := hb.size
      try go_simp
      refine hK _ G _ (by kernel_rfl) ?_
      exact ⟨bt (hJ.1) hb,
        Nat.lt_of_lt_of_le (hJ.2.1) hb.size,
        Blk.keep ((hJ.2.2.1)) hb,
        Nat.lt_of_lt_of_le (hJ.2.2.2.1) hb.size,
        fun n => Blk.keep ((hJ.2.2.2.2.1) (fun m => n (.inr m))) hb,
        fun q => Blk.keep ((hJ.2.2.2.2.2.1) (q.resolve_left (by decide))) hb,
        fun q => (hJ.2.2.2.2.2.2.1) (q.resolve_left (by decide)),
        fun q => (hJ.2.2.2.2.2.2.2.1) (q.resolve_left (by decide)),
        fun _ => by first | exact rfl | exact e2,
        fun q => (hJ.2.2.2.2.2.2.2.2.2.1) (q.resolve_left (by decide)),
        fun q => (hJ.2.2.2.2.2.2.2.2.2.2.1) (q.resolve_left (by decide)),
        fun _ => by first | exact rfl | exact e5,
        fun _ => rfl,
        fun q => (hJ.2.2.2.2.2.2.2.2.2.2.2.2.2.1) (q.resolve_left (by decide)),
        fun q => (hJ.2.2.2.2.2.2.2.2.2.2.2.2.2.2.1) (q.resolve_left (by decide)),
        fun q => (hJ.2.2.2.2.2.2.2.2.2.2.2.2.2.2.2) (q.resolve_left (by decide))⟩
    refine StepsOk.cons (i := 7) rfl (fun L x G w1 K Q hn hp hJ hK => ?_) ?_
    · skip
      have p6 : L 6 := hp ⟨6, .data⟩ (by simp) rfl
      have e6 := (hJ.2.2.2.2.2.2.2.2.2.2.2.2.1) p6
      simp only [putAll, Act.put, List.setIfInBounds_toArray, List.set_cons_zero, List.set_cons_succ]
      go_simp
      refine hK _ G _ (by kernel_rfl) ?_
      exact ⟨(hJ.1),
        (hJ.2.1),
        (hJ.2.2.1),
        (hJ.2.2.2.1),
        fun n => (hJ.2.2.2.2.1) (fun m => n (.inr m)),
        fun q => (hJ.2.2.2.2.2.1) (q.resolve_left (by decide)),
        fun q => (hJ.2.2.2.2.2.2.1) (q.resolve_left (by decide)),
        fun q => (hJ.2.2.2.2.2.2.2.1) (q.resolve_left (by decide)),
        fun q => (hJ.2.2.2.2.2.2.2.2.1) (q.resolve_left (by decide)),
        fun q => (hJ.2.2.2.2.2.2.2.2.2.1) (q.resolve_left (by decide)),
        fun q => (hJ.2.2.2.2.2.2.2.2.2.2.1) (q.resolve_left (by decide)),
        fun q => (hJ.2.2.2.2.2.2.2.2.2.2.2.1) (q.resolve_left (by decide)),
        fun _ => by first | exact rfl | exact e6,
        fun _ => rfl,
        fun q => (hJ.2.2.2.2.2.2.2.2.2.2.2.2.2.2.1) (q.resolve_left (by decide)),
        fun q => (hJ.2.2.2.2.2.2.2.2.2.2.2.2.2.2.2) (q.resolve_left (by decide))⟩
    refine StepsOk.cons (i := 8) rfl (fun L x G w1 K Q hn hp hJ hK => ?_) ?_
    · skip
      have p6 : L 6 := hp ⟨6, .data⟩ (by simp) rfl
      have e6 := (hJ.2.2.2.2.2.2.2.2.2.2.2.2.1) p6
      simp only [putAll, Act.put, List.setIfInBounds_toArray, List.set_cons_zero, List.set_cons_succ]
      go_simp
      refine hK _ G _ (by kernel_rfl) ?_
      exact ⟨(hJ.1),
        (hJ.2.1),
        (hJ.2.2.1),
        (hJ.2.2.2.1),
        fun n => (hJ.2.2.2.2.1) (fun m => n (.inr m)),
        fun q => (hJ.2.2.2.2.2.1) (q.resolve_left (by decide)),
        fun q => (hJ.2.2.2.2.2.2.1) (q.resolve_left (by decide)),
        fun q => (hJ.2.2.2.2.2.2.2.1) (q.resolve_left (by decide)),
        fun q => (hJ.2.2.2.2.2.2.2.2.1) (q.resolve_left (by decide)),
        fun q => (hJ.2.2.2.2.2.2.2.2.2.1) (q.resolve_left (by decide)),
        fun q => (hJ.2.2.2.2.2.2.2.2.2.2.1) (q.resolve_left (by decide)),
        fun q => (hJ.2.2.2.2.2.2.2.2.2.2.2.1) (q.resolve_left (by decide)),
        fun _ => by first | exact rfl | exact e6,
        fun q => (hJ.2.2.2.2.2.2.2.2.2.2.2.2.2.1) (q.resolve_left (by decide)),
        fun _ => rfl,
        fun q => (hJ.2.2.2.2.2.2.2.2.2.2.2.2.2.2.2) (q.resolve_left (by decide))⟩
    refine StepsOk.cons (i := 9) rfl (fun L x G w1 K Q hn hp hJ hK => ?_) ?_
    · skip
      have p7 : L 7 := hp ⟨7, .data⟩ (by simp) rfl
      have e7 := (hJ.2.2.2.2.2.2.2.2.2.2.2.2.2.1) p7
      have hc := Blk.open2 (((hJ.2.2.2.2.1) hn))
      have c0 := hc.1
      have c1 := hc.2.1
      have c2 := hc.2.2.1
      have c3 := hc.2.2.2
      clear hc
      simp only [putAll, Act.put, List.setIfInBounds_toArray, List.set_cons_zero, List.set_cons_succ]
      go_simp
      refine hK _ G _ (by kernel_rfl) ?_
      exact ⟨bst (bst ((hJ.1)) (p := ⟨w.heap.size + 1, 0, none⟩) (by first | (simp; done) | (simp; omega) | omega) (.int .i64 ((Iv.Rs.mk (Iv.sq l) (Iv.sqUp h) 0).lo))) (p := ⟨w.heap.size + 1, 1, none⟩) (by first | (simp; done) | (simp; omega) | omega) (.int .i64 ((Iv.Rs.mk (Iv.sq l) (Iv.sqUp h) 0).hi)),
        by simpa using (hJ.2.1),
        Blk.far (Blk.far ((hJ.2.2.1)) (p := ⟨w.heap.size + 1, 0, none⟩) (by first | (simp; done) | (simp; omega) | omega) (.int .i64 ((Iv.Rs.mk (Iv.sq l) (Iv.sqUp h) 0).lo))) (p := ⟨w.heap.size + 1, 1, none⟩) (by first | (simp; done) | (simp; omega) | omega) (.int .i64 ((Iv.Rs.mk (Iv.sq l) (Iv.sqUp h) 0).hi)),
        by simpa using (hJ.2.2.2.1),
        fun n => absurd (.inl rfl) n,
        fun _ => by simpa using Blk.set_ (Blk.set_ (((hJ.2.2.2.2.1) hn)) 0 (.int .i64 ((Iv.Rs.mk (Iv.sq l) (Iv.sqUp h) 0).lo))) 1 (.int .i64 ((Iv.Rs.mk (Iv.sq l) (Iv.sqUp h) 0).hi)),
        fun q => (hJ.2.2.2.2.2.2.1) (q.resolve_left (by decide)),
        fun q => (hJ.2.2.2.2.2.2.2.1) (q.resolve_left (by decide)),
        fun q => (hJ.2.2.2.2.2.2.2.2.1) (q.resolve_left (by decide)),
        fun q => (hJ.2.2.2.2.2.2.2.2.2.1) (q.resolve_left (by decide)),
        fun q => (hJ.2.2.2.2.2.2.2.2.2.2.1) (q.resolve_left (by decide)),
        fun q => (hJ.2.2.2.2.2.2.2.2.2.2.2.1) (q.resolve_left (by decide)),
        fun q => (hJ.2.2.2.2.2.2.2.2.2.2.2.2.1) (q.resolve_left (by decide)),
        fun _ => by first | exact rfl | exact e7,
        fun q => (hJ.2.2.2.2.2.2.2.2.2.2.2.2.2.2.1) (q.resolve_left (by decide)),
        fun q => (hJ.2.2.2.2.2.2.2.2.2.2.2.2.2.2.2) (q.resolve_left (by decide))⟩
    refine StepsOk.cons (i := 10) rfl (fun L x G w1 K Q hn hp hJ hK => ?_) ?_
    · skip
      have p8 : L 8 := hp ⟨8, .data⟩ (by simp) rfl
      have e8 := (hJ.2.2.2.2.2.2.2.2.2.2.2.2.2.2.1) p8
      simp only [putAll, Act.put, List.setIfInBounds_toArray, List.set_cons_zero, List.set_cons_succ]
      go_simp
      refine hK _ G _ (by kernel_rfl) ?_
      exact ⟨(hJ.1),
        (hJ.2.1),
        (hJ.2.2.1),
        (hJ.2.2.2.1),
        fun n => (hJ.2.2.2.2.1) (fun m => n (.inr m)),
        fun q => (hJ.2.2.2.2.2.1) (q.resolve_left (by decide)),
        fun q => (hJ.2.2.2.2.2.2.1) (q.resolve_left (by decide)),
        fun q => (hJ.2.2.2.2.2.2.2.1) (q.resolve_left (by decide)),
        fun q => (hJ.2.2.2.2.2.2.2.2.1) (q.resolve_left (by decide)),
        fun q => (hJ.2.2.2.2.2.2.2.2.2.1) (q.resolve_left (by decide)),
        fun q => (hJ.2.2.2.2.2.2.2.2.2.2.1) (q.resolve_left (by decide)),
        fun q => (hJ.2.2.2.2.2.2.2.2.2.2.2.1) (q.resolve_left (by decide)),
        fun q => (hJ.2.2.2.2.2.2.2.2.2.2.2.2.1) (q.resolve_left (by decide)),
        fun q => (hJ.2.2.2.2.2.2.2.2.2.2.2.2.2.1) (q.resolve_left (by decide)),
        fun _ => by first | exact rfl | exact e8,
        fun _ => rfl⟩
    exact StepsOk.nil
  case fin =>
    intro L x G w2 hall hJ
    replace X := (hJ.2.2.1)
    replace R := (hJ.2.2.2.2.2.1) (hall 9 (by decide))
    have u0 := hJ.2.2.2.2.2.2.1 (hall 0 (by decide))
    have u1 := hJ.2.2.2.2.2.2.2.1 (hall 1 (by decide))
    have u2 := hJ.2.2.2.2.2.2.2.2.1 (hall 2 (by decide))
    have u3 := hJ.2.2.2.2.2.2.2.2.2.1 (hall 3 (by decide))
    have u4 := hJ.2.2.2.2.2.2.2.2.2.2.1 (hall 4 (by decide))
    have u5 := hJ.2.2.2.2.2.2.2.2.2.2.2.1 (hall 5 (by decide))
    have u6 := hJ.2.2.2.2.2.2.2.2.2.2.2.2.1 (hall 6 (by decide))
    have u7 := hJ.2.2.2.2.2.2.2.2.2.2.2.2.2.1 (hall 7 (by decide))
    have u8 := hJ.2.2.2.2.2.2.2.2.2.2.2.2.2.2.1 (hall 8 (by decide))
    have u10 := hJ.2.2.2.2.2.2.2.2.2.2.2.2.2.2.2 (hall 10 (by decide))
    replace hB := hJ.1
    simp only [putAll, Act.put, List.setIfInBounds_toArray, List.set_cons_zero, List.set_cons_succ]
    simp only [u0, u1, u2, u3, u4, u5, u6, u7, u8, u10]
    clear hall hJ u0 u1 u2 u3 u4 u5 u6 u7 u8 u10
    obtain ⟨r00, r01, r02, r03⟩ := R.open2
    go_wp2_with fail
    refine bodyPost_ret (by simp [results, Try.results21, go_sem, r00, r01, r02, r03]; try rfl) rfl ?_
    exact ⟨rfl, by repeat (first | exact Below.refl _ _ | (with_reducible assumption) | (with_reducible apply bal) | (with_reducible apply bdr) | (with_reducible apply bdnl) | (with_reducible refine bst ?_ (by first | (simp; done) | (simp; omega) | omega) _) | (with_reducible refine bt ?_ (by with_reducible assumption)))⟩
set_option maxRecDepth 100000 in
set_option maxHeartbeats 4000000 in
theorem rsqrt_ci (l h : Int) (w : World) : Calls Try.prog 22 #[.agg #[.int .i64 l, .int .i64 h]] w fun e w' =>
    e = .returned (.tuple #[.agg #[.int .i64 (Iv.sqrt l h).lo, .int .i64 (Iv.sqrt l h).hi], .int .i64 (Iv.sqrt l h).er]) ∧ Below w.heap.size w w' := by
  unfold Iv.sqrt
  by_cases v : Iv.Vd l h
  rotate_left
  · rw [if_neg (fun q => v q.1)]
    have e1 := Lib.hid (Iv.vb_no v)
    clear v
    go_enter Try.func22, Try.ntmps22
    have X := Blk.new w 23 #[.int .i64 (l), .int .i64 (h)]
    have hB := ba w (.cells #[.int .i64 (l), .int .i64 (h)] 23)
    have R := Blk.new1 w (.cells #[.int .i64 (l), .int .i64 (h)] 23) 23 #[.int .i64 (0), .int .i64 (0)]
    replace X := X.alloc (.cells #[.int .i64 (0), .int .i64 (0)] 23)
    replace hB := bal hB (.cells #[.int .i64 (0), .int .i64 (0)] 23)
    obtain ⟨c00, c01, c02, c03⟩ := X.open2
    go_wp2_with fail
    refine (rvalid_c _ _ _).mono ?_
    rw [e1.out]
    rintro e w1 ⟨rfl, hb⟩
    clear c00 c01 c02 c03
    replace X := X.keep hb
    replace R := R.keep hb
    replace hB := bt hB hb
    clear hb
    obtain ⟨r00, r01, r02, r03⟩ := R.open2
    go_wp2_with fail
    refine bodyPost_ret (by simp [results, Try.results22, go_sem, r00, r01, r02, r03]; try rfl) rfl ?_
    exact ⟨rfl, by repeat (first | exact Below.refl _ _ | (with_reducible assumption) | (with_reducible apply bal) | (with_reducible apply bdr) | (with_reducible apply bdnl) | (with_reducible refine bst ?_ (by first | (simp; done) | (simp; omega) | omega) _) | (with_reducible refine bt ?_ (by with_reducible assumption)))⟩
  by_cases k0 : 0 ≤ l
  rotate_left
  · rw [if_neg (fun q => k0 q.2)]
    have e1 := Lib.hid (Iv.vb_yes v)
    have k1 : l < 0 := by omega
    clear v k0
    go_enter Try.func22, Try.ntmps22
    have X := Blk.new w 23 #[.int .i64 (l), .int .i64 (h)]
    have hB := ba w (.cells #[.int .i64 (l), .int .i64 (h)] 23)
    have R := Blk.new1 w (.cells #[.int .i64 (l), .int .i64 (h)] 23) 23 #[.int .i64 (0), .int .i64 (0)]
    replace X := X.alloc (.cells #[.int .i64 (0), .int .i64 (0)] 23)
    replace hB := bal hB (.cells #[.int .i64 (0), .int .i64 (0)] 23)
    obtain ⟨c00, c01, c02, c03⟩ := X.open2
    go_wp2_with fail
    refine (rvalid_c _ _ _).mono ?_
    rw [e1.out]
    rintro e w1 ⟨rfl, hb⟩
    clear c00 c01 c02 c03
    replace X := X.keep hb
    replace R := R.keep hb
    replace hB := bt hB hb
    clear hb
    obtain ⟨c00, c01, c02, c03⟩ := X.open2
    obtain ⟨r00, r01, r02, r03⟩ := R.open2
    go_wp2_with fail
    refine bodyPost_ret (by simp [results, Try.results22, go_sem, r00, r01, r02, r03]; try rfl) rfl ?_
    exact ⟨rfl, by repeat (first | exact Below.refl _ _ | (with_reducible assumption) | (with_reducible apply bal) | (with_reducible apply bdr) | (with_reducible apply bdnl) | (with_reducible refine bst ?_ (by first | (simp; done) | (simp; omega) | omega) _) | (with_reducible refine bt ?_ (by with_reducible assumption)))⟩
  rw [if_pos ⟨v, k0⟩]
  have e1 := Lib.hid (Iv.vb_yes v)
  have k1 : ¬ l < 0 := by omega
  have y1 : l ≤ 4611686018427387904 := by unfold Iv.Vd at v; omega
  have y2 : h ≤ 4611686018427387904 := by unfold Iv.Vd at v; omega
  have y3 : -9223372036854775808 ≤ l := by unfold Iv.Vd at v; omega
  have y4 : -9223372036854775808 ≤ h := by unfold Iv.Vd at v; omega
  have E := Lib.hid (Iv.rs_yes (sqUp_bd v k0))
  clear v k0
  go_enter Try.func22, Try.ntmps22
  have X := Blk.new w 23 #[.int .i64 (l), .int .i64 (h)]
  have hB := ba w (.cells #[.int .i64 (l), .int .i64 (h)] 23)
  have R := Blk.new1 w (.cells #[.int .i64 (l), .int .i64 (h)] 23) 23 #[.int .i64 (0), .int .i64 (0)]
  replace X := X.alloc (.cells #[.int .i64 (0), .int .i64 (0)] 23)
  replace hB := bal hB (.cells #[.int .i64 (0), .int .i64 (0)] 23)
  obtain ⟨c00, c01, c02, c03⟩ := X.open2
  go_wp2_with fail
  refine (rvalid_c _ _ _).mono ?_
  rw [e1.out]
  rintro e w1 ⟨rfl, hb⟩
  clear c00 c01 c02 c03
  replace X := X.keep hb
  replace R := R.keep hb
  replace hB := bt hB hb
  clear hb
  obtain ⟨c00, c01, c02, c03⟩ := X.open2
  go_wp2_with fail
  refine wp_region_inv (fun L x G wx => Below w.heap.size w wx
        ∧ w.heap.size < wx.heap.size
        ∧ Blk wx (w.heap.size) 23 #[.int .i64 (l), .int .i64 (h)]
        ∧ w.heap.size + 1 < wx.heap.size
        ∧ (¬ L 7 → Blk wx (w.heap.size + 1) 23 #[.int .i64 (0), .int .i64 (0)])
        ∧ (L 7 → Blk wx (w.heap.size + 1) 23 #[.int .i64 (Iv.sq l), .int .i64 (Iv.sqUp h)])
        ∧ (L 0 → x 13 = .pointer (some ⟨w.heap.size, 0, none⟩))
        ∧ (L 1 → x 14 = .int .i64 (l))
        ∧ (L 2 → x 15 = .int .i64 (Iv.sq l))
        ∧ (L 3 → x 16 = .pointer (some ⟨w.heap.size, 1, none⟩))
        ∧ (L 4 → x 17 = .int .i64 (h))
        ∧ (L 5 → x 18 = .int .i64 (Iv.sqUp h))
        ∧ (L 6 → x 19 = .agg #[.int .i64 (Iv.sq l), .int .i64 (Iv.sqUp h)])
        ∧ (L 8 → x 3 = .int .i64 (0))) [13, 14, 15, 16, 17, 18, 19, 3] 9 (by kernel_rfl) (by kernel_rfl) (by kernel_rfl) ?h0 ?st ?fin
  case h0 =>
    exact ⟨bdr hB, Blk.lt X.drew, X.drew, Blk.lt R.drew, (fun _ => R.drew), fun q => q.elim, fun q => q.elim, fun q => q.elim, fun q => q.elim, fun q => q.elim, fun q => q.elim, fun q => q.elim, fun q => q.elim, fun q => q.elim⟩
  case st =>
    refine StepsOk.cons (i := 0) rfl (fun L x G w1 K Q hn hp hJ hK => ?_) ?_
    · skip
      simp only [putAll, Act.put, List.setIfInBounds_toArray, List.set_cons_zero, List.set_cons_succ]
      go_simp
      refine hK _ G _ (by kernel_rfl) ?_
      exact ⟨(hJ.1),
        (hJ.2.1),
        (hJ.2.2.1),
        (hJ.2.2.2.1),
        fun n => (hJ.2.2.2.2.1) (fun m => n (.inr m)),
        fun q => (hJ.2.2.2.2.2.1) (q.resolve_left (by decide)),
        fun _ => rfl,
        fun q => (hJ.2.2.2.2.2.2.2.1) (q.resolve_left (by decide)),
        fun q => (hJ.2.2.2.2.2.2.2.2.1) (q.resolve_left (by decide)),
        fun q => (hJ.2.2.2.2.2.2.2.2.2.1) (q.resolve_left (by decide)),
        fun q => (hJ.2.2.2.2.2.2.2.2.2.2.1) (q.resolve_left (by decide)),
        fun q => (hJ.2.2.2.2.2.2.2.2.2.2.2.1) (q.resolve_left (by decide)),
        fun q => (hJ.2.2.2.2.2.2.2.2.2.2.2.2.1) (q.resolve_left (by decide)),
        fun q => (hJ.2.2.2.2.2.2.2.2.2.2.2.2.2) (q.resolve_left (by decide))⟩
    refine StepsOk.cons (i := 1) rfl (fun L x G w1 K Q hn hp hJ hK => ?_) ?_
    · skip
      have p0 : L 0 := hp ⟨0, .data⟩ (by simp) rfl
      have e0 := (hJ.2.2.2.2.2.2.1) p0
      have hc := Blk.open2 ((hJ.2.2.1))
      have c0 := hc.1
      have c1 := hc.2.1
      have c2 := hc.2.2.1
      have c3 := hc.2.2.2
      clear hc
      simp only [putAll, Act.put, List.setIfInBounds_toArray, List.set_cons_zero, List.set_cons_succ]
      go_simp
      refine hK _ G _ (by kernel_rfl) ?_
      exact ⟨(hJ.1),
        (hJ.2.1),
        (hJ.2.2.1),
        (hJ.2.2.2.1),
        fun n => (hJ.2.2.2.2.1) (fun m => n (.inr m)),
        fun q => (hJ.2.2.2.2.2.1) (q.resolve_left (by decide)),
        fun _ => by first | exact rfl | exact e0,
        fun _ => rfl,
        fun q => (hJ.2.2.2.2.2.2.2.2.1) (q.resolve_left (by decide)),
        fun q => (hJ.2.2.2.2.2.2.2.2.2.1) (q.resolve_left (by decide)),
        fun q => (hJ.2.2.2.2.2.2.2.2.2.2.1) (q.resolve_left (by decide)),
        fun q => (hJ.2.2.2.2.2.2.2.2.2.2.2.1) (q.resolve_left (by decide)),
        fun q => (hJ.2.2.2.2.2.2.2.2.2.2.2.2.1) (q.resolve_left (by decide)),
        fun q => (hJ.2.2.2.2.2.2.2.2.2.2.2.2.2) (q.resolve_left (by decide))⟩
    refine StepsOk.cons (i := 2) rfl (fun L x G w1 K Q hn hp hJ hK => ?_) ?_
    · skip
      have p1 : L 1 := hp ⟨1, .data⟩ (by simp) rfl
      have e1 := (hJ.2.2.2.2.2.2.2.1) p1
      simp only [putAll, Act.put, List.setIfInBounds_toArray, List.set_cons_zero, List.set_cons_succ]
      go_simp
      refine (rsqrt1_c _ _ y3 y1).mono ?_
      rintro e w2 ⟨rfl, hb⟩
      have hz := hb.size
      try go_simp
      refine hK _ G _ (by kernel_rfl) ?_
      exact ⟨bt (hJ.1) hb,
        Nat.lt_of_lt_of_le (hJ.2.1) hb.size,
        Blk.keep ((hJ.2.2.1)) hb,
        Nat.lt_of_lt_of_le (hJ.2.2.2.1) hb.size,
        fun n => Blk.keep ((hJ.2.2.2.2.1) (fun m => n (.inr m))) hb,
        fun q => Blk.keep ((hJ.2.2.2.2.2.1) (q.resolve_left (by decide))) hb,
        fun q => (hJ.2.2.2.2.2.2.1) (q.resolve_left (by decide)),
        fun _ => by first | exact rfl | exact e1,
        fun _ => rfl,
        fun q => (hJ.2.2.2.2.2.2.2.2.2.1) (q.resolve_left (by decide)),
        fun q => (hJ.2.2.2.2.2.2.2.2.2.2.1) (q.resolve_left (by decide)),
        fun q => (hJ.2.2.2.2.2.2.2.2.2.2.2.1) (q.resolve_left (by decide)),
        fun q => (hJ.2.2.2.2.2.2.2.2.2.2.2.2.1) (q.resolve_left (by decide)),
        fun q => (hJ.2.2.2.2.2.2.2.2.2.2.2.2.2) (q.resolve_left (by decide))⟩
    refine StepsOk.cons (i := 3) rfl (fun L x G w1 K Q hn hp hJ hK => ?_) ?_
    · skip
      simp only [putAll, Act.put, List.setIfInBounds_toArray, List.set_cons_zero, List.set_cons_succ]
      go_simp
      refine hK _ G _ (by kernel_rfl) ?_
      exact ⟨(hJ.1),
        (hJ.2.1),
        (hJ.2.2.1),
        (hJ.2.2.2.1),
        fun n => (hJ.2.2.2.2.1) (fun m => n (.inr m)),
        fun q => (hJ.2.2.2.2.2.1) (q.resolve_left (by decide)),
        fun q => (hJ.2.2.2.2.2.2.1) (q.resolve_left (by decide)),
        fun q => (hJ.2.2.2.2.2.2.2.1) (q.resolve_left (by decide)),
        fun q => (hJ.2.2.2.2.2.2.2.2.1) (q.resolve_left (by decide)),
        fun _ => rfl,
        fun q => (hJ.2.2.2.2.2.2.2.2.2.2.1) (q.resolve_left (by decide)),
        fun q => (hJ.2.2.2.2.2.2.2.2.2.2.2.1) (q.resolve_left (by decide)),
        fun q => (hJ.2.2.2.2.2.2.2.2.2.2.2.2.1) (q.resolve_left (by decide)),
        fun q => (hJ.2.2.2.2.2.2.2.2.2.2.2.2.2) (q.resolve_left (by decide))⟩
    refine StepsOk.cons (i := 4) rfl (fun L x G w1 K Q hn hp hJ hK => ?_) ?_
    · skip
      have p3 : L 3 := hp ⟨3, .data⟩ (by simp) rfl
      have e3 := (hJ.2.2.2.2.2.2.2.2.2.1) p3
      have hc := Blk.open2 ((hJ.2.2.1))
      have c0 := hc.1
      have c1 := hc.2.1
      have c2 := hc.2.2.1
      have c3 := hc.2.2.2
      clear hc
      simp only [putAll, Act.put, List.setIfInBounds_toArray, List.set_cons_zero, List.set_cons_succ]
      go_simp
      refine hK _ G _ (by kernel_rfl) ?_
      exact ⟨(hJ.1),
        (hJ.2.1),
        (hJ.2.2.1),
        (hJ.2.2.2.1),
        fun n => (hJ.2.2.2.2.1) (fun m => n (.inr m)),
        fun q => (hJ.2.2.2.2.2.1) (q.resolve_left (by decide)),
        fun q => (hJ.2.2.2.2.2.2.1) (q.resolve_left (by decide)),
        fun q => (hJ.2.2.2.2.2.2.2.1) (q.resolve_left (by decide)),
        fun q => (hJ.2.2.2.2.2.2.2.2.1) (q.resolve_left (by decide)),
        fun _ => by first | exact rfl | exact e3,
        fun _ => rfl,
        fun q => (hJ.2.2.2.2.2.2.2.2.2.2.2.1) (q.resolve_left (by decide)),
        fun q => (hJ.2.2.2.2.2.2.2.2.2.2.2.2.1) (q.resolve_left (by decide)),
        fun q => (hJ.2.2.2.2.2.2.2.2.2.2.2.2.2) (q.resolve_left (by decide))⟩
    refine StepsOk.cons (i := 5) rfl (fun L x G w1 K Q hn hp hJ hK => ?_) ?_
    · skip
      have p4 : L 4 := hp ⟨4, .data⟩ (by simp) rfl
      have e4 := (hJ.2.2.2.2.2.2.2.2.2.2.1) p4
      simp only [putAll, Act.put, List.setIfInBounds_toArray, List.set_cons_zero, List.set_cons_succ]
      go_simp
      refine (rsqrtup1_c _ _ y4 y2).mono ?_
      rintro e w2 ⟨rfl, hb⟩
      have hz := hb.size
      try go_simp
      refine hK _ G _ (by kernel_rfl) ?_
      exact ⟨bt (hJ.1) hb,
        Nat.lt_of_lt_of_le (hJ.2.1) hb.size,
        Blk.keep ((hJ.2.2.1)) hb,
        Nat.lt_of_lt_of_le (hJ.2.2.2.1) hb.size,
        fun n => Blk.keep ((hJ.2.2.2.2.1) (fun m => n (.inr m))) hb,
        fun q => Blk.keep ((hJ.2.2.2.2.2.1) (q.resolve_left (by decide))) hb,
        fun q => (hJ.2.2.2.2.2.2.1) (q.resolve_left (by decide)),
        fun q => (hJ.2.2.2.2.2.2.2.1) (q.resolve_left (by decide)),
        fun q => (hJ.2.2.2.2.2.2.2.2.1) (q.resolve_left (by decide)),
        fun q => (hJ.2.2.2.2.2.2.2.2.2.1) (q.resolve_left (by decide)),
        fun _ => by first | exact rfl | exact e4,
        fun _ => rfl,
        fun q => (hJ.2.2.2.2.2.2.2.2.2.2.2.2.1) (q.resolve_left (by decide)),
        fun q => (hJ.2.2.2.2.2.2.2.2.2.2.2.2.2) (q.resolve_left (by decide))⟩
    refine StepsOk.cons (i := 6) rfl (fun L x G w1 K Q hn hp hJ hK => ?_) ?_
    · skip
      have p2 : L 2 := hp ⟨2, .data⟩ (by simp) rfl
      have e2 := (hJ.2.2.2.2.2.2.2.2.1) p2
      have p5 : L 5 := hp ⟨5, .data⟩ (by simp) rfl
      have e5 := (hJ.2.2.2.2.2.2.2.2.2.2.2.1) p5
      simp only [putAll, Act.put, List.setIfInBounds_toArray, List.set_cons_zero, List.set_cons_succ]
      go_simp
      refine hK _ G _ (by kernel_rfl) ?_
      exact ⟨(hJ.1),
        (hJ.2.1),
        (hJ.2.2.1),
        (hJ.2.2.2.1),
        fun n => (hJ.2.2.2.2.1) (fun m => n (.inr m)),
        fun q => (hJ.2.2.2.2.2.1) (q.resolve_left (by decide)),
        fun q => (hJ.2.2.2.2.2.2.1) (q.resolve_left (by decide)),
        fun q => (hJ.2.2.2.2.2.2.2.1) (q.resolve_left (by decide)),
        fun _ => by first | exact rfl | exact e2,
        fun q => (hJ.2.2.2.2.2.2.2.2.2.1) (q.resolve_left (by decide)),
        fun q => (hJ.2.2.2.2.2.2.2.2.2.2.1) (q.resolve_left (by decide)),
        fun _ => by first | exact rfl | exact e5,
        fun _ => rfl,
        fun q => (hJ.2.2.2.2.2.2.2.2.2.2.2.2.2) (q.resolve_left (by decide))⟩
    refine StepsOk.cons (i := 7) rfl (fun L x G w1 K Q hn hp hJ hK => ?_) ?_
    · skip
      have p6 : L 6 := hp ⟨6, .data⟩ (by simp) rfl
      have e6 := (hJ.2.2.2.2.2.2.2.2.2.2.2.2.1) p6
      have hc := Blk.open2 (((hJ.2.2.2.2.1) hn))
      have c0 := hc.1
      have c1 := hc.2.1
      have c2 := hc.2.2.1
      have c3 := hc.2.2.2
      clear hc
      simp only [putAll, Act.put, List.setIfInBounds_toArray, List.set_cons_zero, List.set_cons_succ]
      go_simp
      refine hK _ G _ (by kernel_rfl) ?_
      exact ⟨bst (bst ((hJ.1)) (p := ⟨w.heap.size + 1, 0, none⟩) (by first | (simp; done) | (simp; omega) | omega) (.int .i64 (Iv.sq l))) (p := ⟨w.heap.size + 1, 1, none⟩) (by first | (simp; done) | (simp; omega) | omega) (.int .i64 (Iv.sqUp h)),
        by simpa using (hJ.2.1),
        Blk.far (Blk.far ((hJ.2.2.1)) (p := ⟨w.heap.size + 1, 0, none⟩) (by first | (simp; done) | (simp; omega) | omega) (.int .i64 (Iv.sq l))) (p := ⟨w.heap.size + 1, 1, none⟩) (by first | (simp; done) | (simp; omega) | omega) (.int .i64 (Iv.sqUp h)),
        by simpa using (hJ.2.2.2.1),
        fun n => absurd (.inl rfl) n,
        fun _ => by simpa using Blk.set_ (Blk.set_ (((hJ.2.2.2.2.1) hn)) 0 (.int .i64 (Iv.sq l))) 1 (.int .i64 (Iv.sqUp h)),
        fun q => (hJ.2.2.2.2.2.2.1) (q.resolve_left (by decide)),
        fun q => (hJ.2.2.2.2.2.2.2.1) (q.resolve_left (by decide)),
        fun q => (hJ.2.2.2.2.2.2.2.2.1) (q.resolve_left (by decide)),
        fun q => (hJ.2.2.2.2.2.2.2.2.2.1) (q.resolve_left (by decide)),
        fun q => (hJ.2.2.2.2.2.2.2.2.2.2.1) (q.resolve_left (by decide)),
        fun q => (hJ.2.2.2.2.2.2.2.2.2.2.2.1) (q.resolve_left (by decide)),
        fun _ => by first | exact rfl | exact e6,
        fun q => (hJ.2.2.2.2.2.2.2.2.2.2.2.2.2) (q.resolve_left (by decide))⟩
    refine StepsOk.cons (i := 8) rfl (fun L x G w1 K Q hn hp hJ hK => ?_) ?_
    · skip
      simp only [putAll, Act.put, List.setIfInBounds_toArray, List.set_cons_zero, List.set_cons_succ]
      go_simp
      refine hK _ G _ (by kernel_rfl) ?_
      exact ⟨(hJ.1),
        (hJ.2.1),
        (hJ.2.2.1),
        (hJ.2.2.2.1),
        fun n => (hJ.2.2.2.2.1) (fun m => n (.inr m)),
        fun q => (hJ.2.2.2.2.2.1) (q.resolve_left (by decide)),
        fun q => (hJ.2.2.2.2.2.2.1) (q.resolve_left (by decide)),
        fun q => (hJ.2.2.2.2.2.2.2.1) (q.resolve_left (by decide)),
        fun q => (hJ.2.2.2.2.2.2.2.2.1) (q.resolve_left (by decide)),
        fun q => (hJ.2.2.2.2.2.2.2.2.2.1) (q.resolve_left (by decide)),
        fun q => (hJ.2.2.2.2.2.2.2.2.2.2.1) (q.resolve_left (by decide)),
        fun q => (hJ.2.2.2.2.2.2.2.2.2.2.2.1) (q.resolve_left (by decide)),
        fun q => (hJ.2.2.2.2.2.2.2.2.2.2.2.2.1) (q.resolve_left (by decide)),
        fun _ => rfl⟩
    exact StepsOk.nil
  case fin =>
    intro L x G w2 hall hJ
    replace X := (hJ.2.2.1)
    replace R := (hJ.2.2.2.2.2.1) (hall 7 (by decide))
    have u0 := hJ.2.2.2.2.2.2.1 (hall 0 (by decide))
    have u1 := hJ.2.2.2.2.2.2.2.1 (hall 1 (by decide))
    have u2 := hJ.2.2.2.2.2.2.2.2.1 (hall 2 (by decide))
    have u3 := hJ.2.2.2.2.2.2.2.2.2.1 (hall 3 (by decide))
    have u4 := hJ.2.2.2.2.2.2.2.2.2.2.1 (hall 4 (by decide))
    have u5 := hJ.2.2.2.2.2.2.2.2.2.2.2.1 (hall 5 (by decide))
    have u6 := hJ.2.2.2.2.2.2.2.2.2.2.2.2.1 (hall 6 (by decide))
    have u8 := hJ.2.2.2.2.2.2.2.2.2.2.2.2.2 (hall 8 (by decide))
    replace hB := hJ.1
    simp only [putAll, Act.put, List.setIfInBounds_toArray, List.set_cons_zero, List.set_cons_succ]
    simp only [u0, u1, u2, u3, u4, u5, u6, u8]
    clear hall hJ u0 u1 u2 u3 u4 u5 u6 u8
    obtain ⟨r00, r01, r02, r03⟩ := R.open2
    go_wp2_with fail
    refine bodyPost_ret (by simp [results, Try.results22, go_sem, r00, r01, r02, r03]; try rfl) rfl ?_
    exact ⟨rfl, by repeat (first | exact Below.refl _ _ | (with_reducible assumption) | (with_reducible apply bal) | (with_reducible apply bdr) | (with_reducible apply bdnl) | (with_reducible refine bst ?_ (by first | (simp; done) | (simp; omega) | omega) _) | (with_reducible refine bt ?_ (by with_reducible assumption)))⟩
set_option maxRecDepth 100000 in
set_option maxHeartbeats 4000000 in
theorem same_ci (x y e : Int) (w : World) : Calls Try.prog 16 #[.agg #[.int .i64 x, .int .i64 y], .int .i64 e, .agg #[.int .i64 x, .int .i64 y], .int .i64 e] w fun e w' => e = .returned (.bool true) ∧ Below w.heap.size w w' := by
  go_enter Try.func16, Try.ntmps16
  go_wp2_with fail
  go_returns
  exact ⟨rfl, by go_grown⟩
set_option maxRecDepth 100000 in
set_option maxHeartbeats 4000000 in
theorem awake_ci (w : World) : Calls Try.prog 13 #[] w fun e w' => e = .returned (.bool true) ∧ Below w.heap.size w w' := by
  go_enter Try.func13, Try.ntmps13
  have hB := Below.refl w.heap.size w
  go_wp2_with fail
  refine (mul_ci _ _ _ _ _).mono ?_
  rw [aw1.1, aw1.2.1, aw1.2.2]
  rintro e w1 ⟨rfl, hb⟩
  replace hB := bt hB hb
  clear hb
  have hz1 := hB.size
  replace hB := bal hB (.cells #[.int .i64 (-15), .int .i64 (12)] 23)
  have A := Blk.new w1 23 #[.int .i64 (-15), .int .i64 (12)]
  obtain ⟨c00, c01, c02, c03⟩ := A.open2
  go_wp2_with fail
  refine (quo_ci _ _ _ _ _).mono ?_
  rw [aw2.1, aw2.2.1, aw2.2.2]
  rintro e w2 ⟨rfl, hb⟩
  clear c00 c01 c02 c03
  replace A := A.keep hb
  replace hB := bt hB hb
  clear hb
  have hz2 := hB.size
  have l2A := A.lt
  replace A := A.alloc (.cells #[.int .i64 (0), .int .i64 (1)] 23)
  replace hB := bal hB (.cells #[.int .i64 (0), .int .i64 (1)] 23)
  have B := Blk.new w2 23 #[.int .i64 (0), .int .i64 (1)]
  obtain ⟨c00, c01, c02, c03⟩ := A.open2
  obtain ⟨c10, c11, c12, c13⟩ := B.open2
  go_wp2_with fail
  refine (scale_ci _ _ _ _ _ (by omega) (by omega) (by omega) (by omega)).mono ?_
  rw [aw3.1, aw3.2.1, aw3.2.2]
  rintro e w3 ⟨rfl, hb⟩
  clear c00 c01 c02 c03 c10 c11 c12 c13
  replace A := A.keep hb
  replace B := B.keep hb
  replace hB := bt hB hb
  clear hb
  have hz3 := hB.size
  have l3A := A.lt
  have l3B := B.lt
  replace A := A.alloc (.cells #[.int .i64 (2), .int .i64 (4)] 23)
  replace B := B.alloc (.cells #[.int .i64 (2), .int .i64 (4)] 23)
  replace hB := bal hB (.cells #[.int .i64 (2), .int .i64 (4)] 23)
  have C := Blk.new w3 23 #[.int .i64 (2), .int .i64 (4)]
  obtain ⟨c00, c01, c02, c03⟩ := A.open2
  obtain ⟨c10, c11, c12, c13⟩ := B.open2
  obtain ⟨c20, c21, c22, c23⟩ := C.open2
  go_wp2_with fail
  refine (scale_ci _ _ _ _ _ (by omega) (by omega) (by omega) (by omega)).mono ?_
  rw [aw4.1, aw4.2.1, aw4.2.2]
  rintro e w4 ⟨rfl, hb⟩
  clear c00 c01 c02 c03 c10 c11 c12 c13 c20 c21 c22 c23
  replace A := A.keep hb
  replace B := B.keep hb
  replace C := C.keep hb
  replace hB := bt hB hb
  clear hb
  have hz4 := hB.size
  have l4A := A.lt
  have l4B := B.lt
  have l4C := C.lt
  replace A := A.alloc (.cells #[.int .i64 (-4), .int .i64 (-2)] 23)
  replace B := B.alloc (.cells #[.int .i64 (-4), .int .i64 (-2)] 23)
  replace C := C.alloc (.cells #[.int .i64 (-4), .int .i64 (-2)] 23)
  replace hB := bal hB (.cells #[.int .i64 (-4), .int .i64 (-2)] 23)
  have D := Blk.new w4 23 #[.int .i64 (-4), .int .i64 (-2)]
  obtain ⟨c00, c01, c02, c03⟩ := A.open2
  obtain ⟨c10, c11, c12, c13⟩ := B.open2
  obtain ⟨c20, c21, c22, c23⟩ := C.open2
  obtain ⟨c30, c31, c32, c33⟩ := D.open2
  go_wp2_with fail
  refine (sqrt_ci _ _ _).mono ?_
  rw [aw5.1, aw5.2.1, aw5.2.2]
  rintro e w5 ⟨rfl, hb⟩
  clear c00 c01 c02 c03 c10 c11 c12 c13 c20 c21 c22 c23 c30 c31 c32 c33
  replace A := A.keep hb
  replace B := B.keep hb
  replace C := C.keep hb
  replace D := D.keep hb
  replace hB := bt hB hb
  clear hb
  obtain ⟨s0, s1, s2, s3⟩ := A.open2
  replace B := ((B.far (p := ⟨w1.heap.size, 0, none⟩) (by first | (simp; done) | (simp; omega) | omega) (.int .i64 (2))).far (p := ⟨w1.heap.size, 1, none⟩) (by first | (simp; done) | (simp; omega) | omega) (.int .i64 (3)))
  replace C := ((C.far (p := ⟨w1.heap.size, 0, none⟩) (by first | (simp; done) | (simp; omega) | omega) (.int .i64 (2))).far (p := ⟨w1.heap.size, 1, none⟩) (by first | (simp; done) | (simp; omega) | omega) (.int .i64 (3)))
  replace D := ((D.far (p := ⟨w1.heap.size, 0, none⟩) (by first | (simp; done) | (simp; omega) | omega) (.int .i64 (2))).far (p := ⟨w1.heap.size, 1, none⟩) (by first | (simp; done) | (simp; omega) | omega) (.int .i64 (3)))
  replace hB := (bst (bst hB (p := ⟨w1.heap.size, 0, none⟩) (by first | (simp; done) | (simp; omega) | omega) (.int .i64 (2))) (p := ⟨w1.heap.size, 1, none⟩) (by first | (simp; done) | (simp; omega) | omega) (.int .i64 (3)))
  replace A := ((A.set_ 0 (.int .i64 (2))).set_ 1 (.int .i64 (3)))
  simp only [List.setIfInBounds_toArray, List.set_cons_zero, List.set_cons_succ] at A
  obtain ⟨c00, c01, c02, c03⟩ := A.open2
  obtain ⟨c10, c11, c12, c13⟩ := B.open2
  go_wp2_with fail
  refine (abs_ci _ _ _).mono ?_
  rw [aw6.1, aw6.2.1, aw6.2.2]
  rintro e w6 ⟨rfl, hb⟩
  clear s0 s1 s2 s3
  clear c00 c01 c02 c03 c10 c11 c12 c13
  replace A := A.keep hb
  replace B := B.keep hb
  replace C := C.keep hb
  replace D := D.keep hb
  replace hB := bt hB hb
  clear hb
  obtain ⟨s0, s1, s2, s3⟩ := B.open2
  replace A := ((A.far (p := ⟨w2.heap.size, 0, none⟩) (by first | (simp; done) | (simp; omega) | omega) (.int .i64 (0))).far (p := ⟨w2.heap.size, 1, none⟩) (by first | (simp; done) | (simp; omega) | omega) (.int .i64 (2)))
  replace C := ((C.far (p := ⟨w2.heap.size, 0, none⟩) (by first | (simp; done) | (simp; omega) | omega) (.int .i64 (0))).far (p := ⟨w2.heap.size, 1, none⟩) (by first | (simp; done) | (simp; omega) | omega) (.int .i64 (2)))
  replace D := ((D.far (p := ⟨w2.heap.size, 0, none⟩) (by first | (simp; done) | (simp; omega) | omega) (.int .i64 (0))).far (p := ⟨w2.heap.size, 1, none⟩) (by first | (simp; done) | (simp; omega) | omega) (.int .i64 (2)))
  replace hB := (bst (bst hB (p := ⟨w2.heap.size, 0, none⟩) (by first | (simp; done) | (simp; omega) | omega) (.int .i64 (0))) (p := ⟨w2.heap.size, 1, none⟩) (by first | (simp; done) | (simp; omega) | omega) (.int .i64 (2)))
  replace B := ((B.set_ 0 (.int .i64 (0))).set_ 1 (.int .i64 (2)))
  simp only [List.setIfInBounds_toArray, List.set_cons_zero, List.set_cons_succ] at B
  obtain ⟨c00, c01, c02, c03⟩ := A.open2
  obtain ⟨c10, c11, c12, c13⟩ := B.open2
  go_wp2_with fail
  refine (meet_ci _ _ _ _ _).mono ?_
  rw [aw7.1, aw7.2.1, aw7.2.2]
  rintro e w7 ⟨rfl, hb⟩
  clear s0 s1 s2 s3
  clear c00 c01 c02 c03 c10 c11 c12 c13
  replace A := A.keep hb
  replace B := B.keep hb
  replace C := C.keep hb
  replace D := D.keep hb
  replace hB := bt hB hb
  clear hb
  obtain ⟨c00, c01, c02, c03⟩ := A.open2
  obtain ⟨c10, c11, c12, c13⟩ := B.open2
  go_wp2_with fail
  go_returns
  exact ⟨rfl, hB⟩
end Go.Proofs.Ytclohghongpfkaa
