/-
  Contracts: the reference's Int, a minor.
-/
import Derived.Test.YtcgcocingfhleaaQPlain2
import Derived.Test.YtcgcocingfhleaaInv
import Derived.Test.YtcgcocingfhleaaW8
import Derived.Test.YtcgcocingfhleaaW9
import Derived.Test.YtcgcocingfhleaaW5
import Derived.Test.YtcgcocingfhleaaW3
namespace Go.Proofs.Ytcgcocingfhleaa
set_option linter.unusedVariables false
set_option linter.unusedSimpArgs false
open Go.RowKit

set_option maxRecDepth 100000 in
set_option maxHeartbeats 4000000 in
theorem rint_c (h l v : Int) (w : World) (H : Wi.Wd h l v) : Calls Try.prog 64 #[.agg #[.int .i64 h, .int .u64 l]] w fun e w' =>
    e = .returned (.tuple #[.int .i64 (Wi.iv v), .bool (Wi.ib v)]) ∧ Below w.heap.size w w' := by
  obtain ⟨h1, h2, h3, h4, hv⟩ := H.bd
  obtain ⟨z, n, z1, z2, hz, ez⟩ := i_ex l h3 h4
  have ez2 : IntKind.i64.wrap l = z := by have := hz.out; rw [IntKind.wrap_i64]; omega
  have hL : Wi.Lr z = l := by have := hz.out; unfold Wi.Lr; omega
  have hb2 : (Wi.Lr z == l) = true := by simpa using hL
  by_cases hh : Wi.Hq z = h
  · have hb : (Wi.Hq z == h) = true := by simpa using hh
    have ev : z = v := by have := Wi.HL z; rw [hh, hL] at this; omega
    have q : Wi.in64 v := by unfold Wi.in64; omega
    have E := Lib.hid (show z = Wi.iv v ∧ true = Wi.ib v from by rw [Wi.iv_yes q, Wi.ib_yes q]; exact ⟨ev, rfl⟩)
    clear ev q
    clear hv hh
    go_enter Try.func64, Try.ntmps64
    have X := Blk.new w 34 #[.int .i64 h, .int .u64 l]
    have hB := ba w (.cells #[.int .i64 h, .int .u64 l] 34)
    go_wp2_with fail
    refine wp_region_inv (fun L x G wx => Below w.heap.size w wx
          ∧ w.heap.size < wx.heap.size
          ∧ Blk wx (w.heap.size) 34 #[.int .i64 h, .int .u64 l]
          ∧ (L 0 → x 4 = .pointer (some ⟨w.heap.size, 1, none⟩))
          ∧ (L 1 → x 5 = .int .u64 l)
          ∧ (L 2 → x 6 = .int .i64 (z))
          ∧ (L 3 → x 7 = .agg #[.int .i64 (Wi.Hq z), .int .u64 (l)])
          ∧ (L 4 → x 8 = .agg #[.int .i64 h, .int .u64 l])
          ∧ (L 5 → x 9 = .bool (true))) [4, 5, 6, 7, 8, 9] 6 (by kernel_rfl) (by kernel_rfl) (by kernel_rfl) ?h0 ?st ?fin
    case h0 =>
      exact ⟨bdr hB, Blk.lt X.drew, X.drew, fun q => q.elim, fun q => q.elim, fun q => q.elim, fun q => q.elim, fun q => q.elim, fun q => q.elim⟩
    case st =>
      refine StepsOk.cons (i := 0) rfl (fun L x G w1 K Q hn hp hJ hK => ?_) ?_
      · skip
        simp only [putAll, Act.put, List.setIfInBounds_toArray, List.set_cons_zero, List.set_cons_succ]
        go_simp
        refine hK _ G _ (by kernel_rfl) ?_
        exact ⟨(hJ.1),
          (hJ.2.1),
          (hJ.2.2.1),
          fun _ => rfl,
          fun q => (hJ.2.2.2.2.1) (q.resolve_left (by decide)),
          fun q => (hJ.2.2.2.2.2.1) (q.resolve_left (by decide)),
          fun q => (hJ.2.2.2.2.2.2.1) (q.resolve_left (by decide)),
          fun q => (hJ.2.2.2.2.2.2.2.1) (q.resolve_left (by decide)),
          fun q => (hJ.2.2.2.2.2.2.2.2) (q.resolve_left (by decide))⟩
      refine StepsOk.cons (i := 1) rfl (fun L x G w1 K Q hn hp hJ hK => ?_) ?_
      · skip
        have p0 : L 0 := hp ⟨0, .data⟩ (by simp) rfl
        have e0 := (hJ.2.2.2.1) p0
        have hc := Blk.open2 ((hJ.2.2.1))
        have c0 := hc.1
        have c1 := hc.2.1
        have c2 := hc.2.2.1
        have c3 := hc.2.2.2
        clear hc
        simp only [putAll, Act.put, List.setIfInBounds_toArray, List.set_cons_zero, List.set_cons_succ]
        go_simp
        refine hK _ G _ (by kernel_rfl) ?_
        exact ⟨(hJ.1),
          (hJ.2.1),
          (hJ.2.2.1),
          fun _ => by first | exact rfl | exact e0,
          fun _ => rfl,
          fun q => (hJ.2.2.2.2.2.1) (q.resolve_left (by decide)),
          fun q => (hJ.2.2.2.2.2.2.1) (q.resolve_left (by decide)),
          fun q => (hJ.2.2.2.2.2.2.2.1) (q.resolve_left (by decide)),
          fun q => (hJ.2.2.2.2.2.2.2.2) (q.resolve_left (by decide))⟩
      refine StepsOk.cons (i := 2) rfl (fun L x G w1 K Q hn hp hJ hK => ?_) ?_
      · skip
        have p1 : L 1 := hp ⟨1, .data⟩ (by simp) rfl
        have e1 := (hJ.2.2.2.2.1) p1
        simp only [putAll, Act.put, List.setIfInBounds_toArray, List.set_cons_zero, List.set_cons_succ]
        go_simp
        refine hK _ G _ (by kernel_rfl) ?_
        exact ⟨(hJ.1),
          (hJ.2.1),
          (hJ.2.2.1),
          fun q => (hJ.2.2.2.1) (q.resolve_left (by decide)),
          fun _ => by first | exact rfl | exact e1,
          fun _ => rfl,
          fun q => (hJ.2.2.2.2.2.2.1) (q.resolve_left (by decide)),
          fun q => (hJ.2.2.2.2.2.2.2.1) (q.resolve_left (by decide)),
          fun q => (hJ.2.2.2.2.2.2.2.2) (q.resolve_left (by decide))⟩
      refine StepsOk.cons (i := 3) rfl (fun L x G w1 K Q hn hp hJ hK => ?_) ?_
      · skip
        have p2 : L 2 := hp ⟨2, .data⟩ (by simp) rfl
        have e2 := (hJ.2.2.2.2.2.1) p2
        simp only [putAll, Act.put, List.setIfInBounds_toArray, List.set_cons_zero, List.set_cons_succ]
        go_simp
        refine (rof_c _ _ z1 z2).mono ?_
        rintro e w2 ⟨rfl, hb⟩
        have hz := hb.size
        try go_simp
        refine hK _ G _ (by kernel_rfl) ?_
        exact ⟨bt (hJ.1) hb,
          Nat.lt_of_lt_of_le (hJ.2.1) hb.size,
          Blk.keep ((hJ.2.2.1)) hb,
          fun q => (hJ.2.2.2.1) (q.resolve_left (by decide)),
          fun q => (hJ.2.2.2.2.1) (q.resolve_left (by decide)),
          fun _ => by first | exact rfl | exact e2,
          fun _ => rfl,
          fun q => (hJ.2.2.2.2.2.2.2.1) (q.resolve_left (by decide)),
          fun q => (hJ.2.2.2.2.2.2.2.2) (q.resolve_left (by decide))⟩
      refine StepsOk.cons (i := 4) rfl (fun L x G w1 K Q hn hp hJ hK => ?_) ?_
      · skip
        have hc := Blk.open2 ((hJ.2.2.1))
        have c0 := hc.1
        have c1 := hc.2.1
        have c2 := hc.2.2.1
        have c3 := hc.2.2.2
        clear hc
        simp only [putAll, Act.put, List.setIfInBounds_toArray, List.set_cons_zero, List.set_cons_succ]
        go_simp
        refine hK _ G _ (by kernel_rfl) ?_
        exact ⟨(hJ.1),
          (hJ.2.1),
          (hJ.2.2.1),
          fun q => (hJ.2.2.2.1) (q.resolve_left (by decide)),
          fun q => (hJ.2.2.2.2.1) (q.resolve_left (by decide)),
          fun q => (hJ.2.2.2.2.2.1) (q.resolve_left (by decide)),
          fun q => (hJ.2.2.2.2.2.2.1) (q.resolve_left (by decide)),
          fun _ => rfl,
          fun q => (hJ.2.2.2.2.2.2.2.2) (q.resolve_left (by decide))⟩
      refine StepsOk.cons (i := 5) rfl (fun L x G w1 K Q hn hp hJ hK => ?_) ?_
      · skip
        have p3 : L 3 := hp ⟨3, .data⟩ (by simp) rfl
        have e3 := (hJ.2.2.2.2.2.2.1) p3
        have p4 : L 4 := hp ⟨4, .data⟩ (by simp) rfl
        have e4 := (hJ.2.2.2.2.2.2.2.1) p4
        simp only [putAll, Act.put, List.setIfInBounds_toArray, List.set_cons_zero, List.set_cons_succ]
        go_simp
        refine hK _ G _ (by kernel_rfl) ?_
        exact ⟨(hJ.1),
          (hJ.2.1),
          (hJ.2.2.1),
          fun q => (hJ.2.2.2.1) (q.resolve_left (by decide)),
          fun q => (hJ.2.2.2.2.1) (q.resolve_left (by decide)),
          fun q => (hJ.2.2.2.2.2.1) (q.resolve_left (by decide)),
          fun _ => by first | exact rfl | exact e3,
          fun _ => by first | exact rfl | exact e4,
          fun _ => rfl⟩
      exact StepsOk.nil
    case fin =>
      intro L x G w1 hall hJ
      replace X := (hJ.2.2.1)
      have u0 := hJ.2.2.2.1 (hall 0 (by decide))
      have u1 := hJ.2.2.2.2.1 (hall 1 (by decide))
      have u2 := hJ.2.2.2.2.2.1 (hall 2 (by decide))
      have u3 := hJ.2.2.2.2.2.2.1 (hall 3 (by decide))
      have u4 := hJ.2.2.2.2.2.2.2.1 (hall 4 (by decide))
      have u5 := hJ.2.2.2.2.2.2.2.2 (hall 5 (by decide))
      replace hB := hJ.1
      simp only [putAll, Act.put, List.setIfInBounds_toArray, List.set_cons_zero, List.set_cons_succ]
      simp only [u0, u1, u2, u3, u4, u5]
      clear hall hJ u0 u1 u2 u3 u4 u5
      obtain ⟨c00, c01, c02, c03⟩ := X.open2
      go_wp2_with fail
      go_returns
      exact ⟨ret_i (by first | exact E.out | (rw [ez]; exact E.out)), hB⟩
  · have hb : (Wi.Hq z == h) = false := by simpa using hh
    have q : ¬ Wi.in64 v := fun q => hh (by unfold Wi.in64 at q; have := hz.out; unfold Wi.Hq; omega)
    have E := Lib.hid (show 0 = Wi.iv v ∧ false = Wi.ib v from by rw [Wi.iv_no q, Wi.ib_no q]; exact ⟨rfl, rfl⟩)
    clear q
    clear hv hh
    go_enter Try.func64, Try.ntmps64
    have X := Blk.new w 34 #[.int .i64 h, .int .u64 l]
    have hB := ba w (.cells #[.int .i64 h, .int .u64 l] 34)
    go_wp2_with fail
    refine wp_region_inv (fun L x G wx => Below w.heap.size w wx
          ∧ w.heap.size < wx.heap.size
          ∧ Blk wx (w.heap.size) 34 #[.int .i64 h, .int .u64 l]
          ∧ (L 0 → x 4 = .pointer (some ⟨w.heap.size, 1, none⟩))
          ∧ (L 1 → x 5 = .int .u64 l)
          ∧ (L 2 → x 6 = .int .i64 (z))
          ∧ (L 3 → x 7 = .agg #[.int .i64 (Wi.Hq z), .int .u64 (l)])
          ∧ (L 4 → x 8 = .agg #[.int .i64 h, .int .u64 l])
          ∧ (L 5 → x 9 = .bool (false))) [4, 5, 6, 7, 8, 9] 6 (by kernel_rfl) (by kernel_rfl) (by kernel_rfl) ?h0 ?st ?fin
    case h0 =>
      exact ⟨bdr hB, Blk.lt X.drew, X.drew, fun q => q.elim, fun q => q.elim, fun q => q.elim, fun q => q.elim, fun q => q.elim, fun q => q.elim⟩
    case st =>
      refine StepsOk.cons (i := 0) rfl (fun L x G w1 K Q hn hp hJ hK => ?_) ?_
      · skip
        simp only [putAll, Act.put, List.setIfInBounds_toArray, List.set_cons_zero, List.set_cons_succ]
        go_simp
        refine hK _ G _ (by kernel_rfl) ?_
        exact ⟨(hJ.1),
          (hJ.2.1),
          (hJ.2.2.1),
          fun _ => rfl,
          fun q => (hJ.2.2.2.2.1) (q.resolve_left (by decide)),
          fun q => (hJ.2.2.2.2.2.1) (q.resolve_left (by decide)),
          fun q => (hJ.2.2.2.2.2.2.1) (q.resolve_left (by decide)),
          fun q => (hJ.2.2.2.2.2.2.2.1) (q.resolve_left (by decide)),
          fun q => (hJ.2.2.2.2.2.2.2.2) (q.resolve_left (by decide))⟩
      refine StepsOk.cons (i := 1) rfl (fun L x G w1 K Q hn hp hJ hK => ?_) ?_
      · skip
        have p0 : L 0 := hp ⟨0, .data⟩ (by simp) rfl
        have e0 := (hJ.2.2.2.1) p0
        have hc := Blk.open2 ((hJ.2.2.1))
        have c0 := hc.1
        have c1 := hc.2.1
        have c2 := hc.2.2.1
        have c3 := hc.2.2.2
        clear hc
        simp only [putAll, Act.put, List.setIfInBounds_toArray, List.set_cons_zero, List.set_cons_succ]
        go_simp
        refine hK _ G _ (by kernel_rfl) ?_
        exact ⟨(hJ.1),
          (hJ.2.1),
          (hJ.2.2.1),
          fun _ => by first | exact rfl | exact e0,
          fun _ => rfl,
          fun q => (hJ.2.2.2.2.2.1) (q.resolve_left (by decide)),
          fun q => (hJ.2.2.2.2.2.2.1) (q.resolve_left (by decide)),
          fun q => (hJ.2.2.2.2.2.2.2.1) (q.resolve_left (by decide)),
          fun q => (hJ.2.2.2.2.2.2.2.2) (q.resolve_left (by decide))⟩
      refine StepsOk.cons (i := 2) rfl (fun L x G w1 K Q hn hp hJ hK => ?_) ?_
      · skip
        have p1 : L 1 := hp ⟨1, .data⟩ (by simp) rfl
        have e1 := (hJ.2.2.2.2.1) p1
        simp only [putAll, Act.put, List.setIfInBounds_toArray, List.set_cons_zero, List.set_cons_succ]
        go_simp
        refine hK _ G _ (by kernel_rfl) ?_
        exact ⟨(hJ.1),
          (hJ.2.1),
          (hJ.2.2.1),
          fun q => (hJ.2.2.2.1) (q.resolve_left (by decide)),
          fun _ => by first | exact rfl | exact e1,
          fun _ => rfl,
          fun q => (hJ.2.2.2.2.2.2.1) (q.resolve_left (by decide)),
          fun q => (hJ.2.2.2.2.2.2.2.1) (q.resolve_left (by decide)),
          fun q => (hJ.2.2.2.2.2.2.2.2) (q.resolve_left (by decide))⟩
      refine StepsOk.cons (i := 3) rfl (fun L x G w1 K Q hn hp hJ hK => ?_) ?_
      · skip
        have p2 : L 2 := hp ⟨2, .data⟩ (by simp) rfl
        have e2 := (hJ.2.2.2.2.2.1) p2
        simp only [putAll, Act.put, List.setIfInBounds_toArray, List.set_cons_zero, List.set_cons_succ]
        go_simp
        refine (rof_c _ _ z1 z2).mono ?_
        rintro e w2 ⟨rfl, hb⟩
        have hz := hb.size
        try go_simp
        refine hK _ G _ (by kernel_rfl) ?_
        exact ⟨bt (hJ.1) hb,
          Nat.lt_of_lt_of_le (hJ.2.1) hb.size,
          Blk.keep ((hJ.2.2.1)) hb,
          fun q => (hJ.2.2.2.1) (q.resolve_left (by decide)),
          fun q => (hJ.2.2.2.2.1) (q.resolve_left (by decide)),
          fun _ => by first | exact rfl | exact e2,
          fun _ => rfl,
          fun q => (hJ.2.2.2.2.2.2.2.1) (q.resolve_left (by decide)),
          fun q => (hJ.2.2.2.2.2.2.2.2) (q.resolve_left (by decide))⟩
      refine StepsOk.cons (i := 4) rfl (fun L x G w1 K Q hn hp hJ hK => ?_) ?_
      · skip
        have hc := Blk.open2 ((hJ.2.2.1))
        have c0 := hc.1
        have c1 := hc.2.1
        have c2 := hc.2.2.1
        have c3 := hc.2.2.2
        clear hc
        simp only [putAll, Act.put, List.setIfInBounds_toArray, List.set_cons_zero, List.set_cons_succ]
        go_simp
        refine hK _ G _ (by kernel_rfl) ?_
        exact ⟨(hJ.1),
          (hJ.2.1),
          (hJ.2.2.1),
          fun q => (hJ.2.2.2.1) (q.resolve_left (by decide)),
          fun q => (hJ.2.2.2.2.1) (q.resolve_left (by decide)),
          fun q => (hJ.2.2.2.2.2.1) (q.resolve_left (by decide)),
          fun q => (hJ.2.2.2.2.2.2.1) (q.resolve_left (by decide)),
          fun _ => rfl,
          fun q => (hJ.2.2.2.2.2.2.2.2) (q.resolve_left (by decide))⟩
      refine StepsOk.cons (i := 5) rfl (fun L x G w1 K Q hn hp hJ hK => ?_) ?_
      · skip
        have p3 : L 3 := hp ⟨3, .data⟩ (by simp) rfl
        have e3 := (hJ.2.2.2.2.2.2.1) p3
        have p4 : L 4 := hp ⟨4, .data⟩ (by simp) rfl
        have e4 := (hJ.2.2.2.2.2.2.2.1) p4
        simp only [putAll, Act.put, List.setIfInBounds_toArray, List.set_cons_zero, List.set_cons_succ]
        go_simp
        refine hK _ G _ (by kernel_rfl) ?_
        exact ⟨(hJ.1),
          (hJ.2.1),
          (hJ.2.2.1),
          fun q => (hJ.2.2.2.1) (q.resolve_left (by decide)),
          fun q => (hJ.2.2.2.2.1) (q.resolve_left (by decide)),
          fun q => (hJ.2.2.2.2.2.1) (q.resolve_left (by decide)),
          fun _ => by first | exact rfl | exact e3,
          fun _ => by first | exact rfl | exact e4,
          fun _ => rfl⟩
      exact StepsOk.nil
    case fin =>
      intro L x G w1 hall hJ
      replace X := (hJ.2.2.1)
      have u0 := hJ.2.2.2.1 (hall 0 (by decide))
      have u1 := hJ.2.2.2.2.1 (hall 1 (by decide))
      have u2 := hJ.2.2.2.2.2.1 (hall 2 (by decide))
      have u3 := hJ.2.2.2.2.2.2.1 (hall 3 (by decide))
      have u4 := hJ.2.2.2.2.2.2.2.1 (hall 4 (by decide))
      have u5 := hJ.2.2.2.2.2.2.2.2 (hall 5 (by decide))
      replace hB := hJ.1
      simp only [putAll, Act.put, List.setIfInBounds_toArray, List.set_cons_zero, List.set_cons_succ]
      simp only [u0, u1, u2, u3, u4, u5]
      clear hall hJ u0 u1 u2 u3 u4 u5
      obtain ⟨c00, c01, c02, c03⟩ := X.open2
      go_wp2_with fail
      go_returns
      exact ⟨ret_i (by first | exact E.out | (rw [ez]; exact E.out)), hB⟩
set_option maxRecDepth 100000 in
set_option maxHeartbeats 4000000 in
theorem lless_c (a b c d : Int) (w : World) (a1 : -562949953421312 ≤ a) (a2 : a ≤ 562949953421312) (b1 : -562949953421312 ≤ b) (b2 : b ≤ 562949953421312) (c1 : -562949953421312 ≤ c) (c2 : c ≤ 562949953421312) (d1 : -562949953421312 ≤ d) (d2 : d ≤ 562949953421312) :
    Calls Try.prog 38 #[.int .i64 a, .int .i64 b, .int .i64 c, .int .i64 d] w fun e w' => e = .returned (.agg #[.int .i64 (Wi.Hq (a * b - c * d)), .int .u64 (Wi.Lr (a * b - c * d))]) ∧ Below w.heap.size w w' := by
  have p1 := Lq.mul_bd (a := a) (b := b) ⟨a1, a2⟩ ⟨b1, b2⟩
  have p2 := Lq.mul_bd (a := c) (b := d) ⟨c1, c2⟩ ⟨d1, d2⟩
  have O1 : Wi.Wd (Wi.Hq (a * b)) (Wi.Lr (a * b)) (a * b) := Wi.wd_self (by unfold Wi.inW; omega)
  have O2 : Wi.Wd (Wi.Hq (c * d)) (Wi.Lr (c * d)) (c * d) := Wi.wd_self (by unfold Wi.inW; omega)
  have e1 := Lib.hid (Wi.rv_yes (v := a * b - c * d) (by unfold Wi.inW; omega))
  clear p1 p2
  go_enter Try.func38, Try.ntmps38
  have R := Blk.new w 34 #[.int .i64 (0), .int .u64 (0)]
  have hB := ba w (.cells #[.int .i64 (0), .int .u64 (0)] 34)
  go_wp2_with fail
  refine (mul_c _ _ _ (by omega) (by omega) (by omega) (by omega)).mono ?_
  rintro e w1 ⟨rfl, hb⟩
  replace R := R.keep hb
  replace hB := bt hB hb
  clear hb
  go_wp2_with fail
  refine (mul_c _ _ _ (by omega) (by omega) (by omega) (by omega)).mono ?_
  rintro e w2 ⟨rfl, hb⟩
  replace R := R.keep hb
  replace hB := bt hB hb
  clear hb
  go_wp2_with fail
  refine (sub_c _ _ _ _ _ _ _ O1 O2).mono ?_
  rw [e1.out]
  rintro e w3 ⟨rfl, hb⟩
  replace R := R.keep hb
  replace hB := bt hB hb
  clear hb
  obtain ⟨r00, r01, r02, r03⟩ := R.open2
  go_wp2_with fail
  refine bodyPost_ret (by simp [results, Try.results38, go_sem, r00, r01, r02, r03]; try rfl) rfl ?_
  exact ⟨rfl, by repeat (first | exact Below.refl _ _ | (with_reducible assumption) | (with_reducible apply bal) | (with_reducible apply bdr) | (with_reducible apply bdnl) | (with_reducible refine bst ?_ (by first | (simp; done) | (simp; omega) | omega) _) | (with_reducible refine bt ?_ (by with_reducible assumption)))⟩
set_option maxRecDepth 100000 in
set_option maxHeartbeats 4000000 in
theorem rminor_c (a b c d : Int) (w : World) (a1 : -562949953421312 ≤ a) (a2 : a ≤ 562949953421312) (b1 : -562949953421312 ≤ b) (b2 : b ≤ 562949953421312) (c1 : -562949953421312 ≤ c) (c2 : c ≤ 562949953421312) (d1 : -562949953421312 ≤ d) (d2 : d ≤ 562949953421312) :
    Calls Try.prog 61 #[.int .i64 a, .int .i64 b, .int .i64 c, .int .i64 d] w fun e w' => e = .returned (.agg #[.int .i64 (Wi.Hq (a * b - c * d)), .int .u64 (Wi.Lr (a * b - c * d))]) ∧ Below w.heap.size w w' := by
  have p1 := Lq.mul_bd (a := a) (b := b) ⟨a1, a2⟩ ⟨b1, b2⟩
  have p2 := Lq.mul_bd (a := c) (b := d) ⟨c1, c2⟩ ⟨d1, d2⟩
  have O1 : Wi.Wd (Wi.Hq (a * b)) (Wi.Lr (a * b)) (a * b) := Wi.wd_self (by unfold Wi.inW; omega)
  have O2 : Wi.Wd (Wi.Hq (c * d)) (Wi.Lr (c * d)) (c * d) := Wi.wd_self (by unfold Wi.inW; omega)
  have e1 := Lib.hid (Wi.rv_yes (v := a * b - c * d) (by unfold Wi.inW; omega))
  clear p1 p2
  go_enter Try.func61, Try.ntmps61
  have R := Blk.new w 34 #[.int .i64 (0), .int .u64 (0)]
  have hB := ba w (.cells #[.int .i64 (0), .int .u64 (0)] 34)
  go_wp2_with fail
  refine (rmul_c _ _ _ (by omega) (by omega) (by omega) (by omega)).mono ?_
  rintro e w1 ⟨rfl, hb⟩
  replace R := R.keep hb
  replace hB := bt hB hb
  clear hb
  go_wp2_with fail
  refine (rmul_c _ _ _ (by omega) (by omega) (by omega) (by omega)).mono ?_
  rintro e w2 ⟨rfl, hb⟩
  replace R := R.keep hb
  replace hB := bt hB hb
  clear hb
  go_wp2_with fail
  refine (rsub_c _ _ _ _ _ _ _ O1 O2).mono ?_
  rw [e1.out]
  rintro e w3 ⟨rfl, hb⟩
  replace R := R.keep hb
  replace hB := bt hB hb
  clear hb
  obtain ⟨r00, r01, r02, r03⟩ := R.open2
  go_wp2_with fail
  refine bodyPost_ret (by simp [results, Try.results61, go_sem, r00, r01, r02, r03]; try rfl) rfl ?_
  exact ⟨rfl, by repeat (first | exact Below.refl _ _ | (with_reducible assumption) | (with_reducible apply bal) | (with_reducible apply bdr) | (with_reducible apply bdnl) | (with_reducible refine bst ?_ (by first | (simp; done) | (simp; omega) | omega) _) | (with_reducible refine bt ?_ (by with_reducible assumption)))⟩
end Go.Proofs.Ytcgcocingfhleaa
