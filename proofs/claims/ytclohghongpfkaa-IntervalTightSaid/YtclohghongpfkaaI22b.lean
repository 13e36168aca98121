/-
  A part of the walk of IntervalTight.
-/
import Derived.Test.YtclohghongpfkaaI15
import Derived.Test.YtclohghongpfkaaI3
import Derived.Test.YtclohghongpfkaaI22p
namespace Go.Proofs.Ytclohghongpfkaa
set_option linter.unusedVariables false
set_option linter.unusedSimpArgs false
open Go.RowKit

attribute [local go_sem high] eqW
set_option maxRecDepth 100000 in
set_option maxHeartbeats 4000000 in
theorem tight_b (l h l' h' : Int) (w : World) (c0 : (Iv.add l h l' h').er ≠ 0) (c1 : (Iv.mul l h l' h').er = 0) : Calls Try.prog 6 #[.agg #[.int .i64 l, .int .i64 h], .agg #[.int .i64 l', .int .i64 h']] w fun e w' => e = .returned (.bool true) ∧ Below w.heap.size w w' := by
  obtain ⟨m0, hm0⟩ : ∃ m, Hid ((Iv.add l h l' h').er = m) := ⟨_, Lib.hid rfl⟩
  rw [hm0.out] at c0
  have k0_ : (m0 == 0) = false := by simpa using c0
  clear c0
  have M0 := Iv.mul_ok c1
  have M1 := Lib.hid M0.2.2.2
  have b1 : -9223372036854775808 ≤ l := by have := M0.1; unfold Iv.Vd at this; omega
  have b2 : l ≤ 9223372036854775807 := by have := M0.1; unfold Iv.Vd at this; omega
  have b3 : -9223372036854775808 ≤ h := by have := M0.1; unfold Iv.Vd at this; omega
  have b4 : h ≤ 9223372036854775807 := by have := M0.1; unfold Iv.Vd at this; omega
  have d1 : -9223372036854775808 ≤ l' := by have := M0.2.1; unfold Iv.Vd at this; omega
  have d2 : l' ≤ 9223372036854775807 := by have := M0.2.1; unfold Iv.Vd at this; omega
  have d3 : -9223372036854775808 ≤ h' := by have := M0.2.1; unfold Iv.Vd at this; omega
  have d4 : h' ≤ 9223372036854775807 := by have := M0.2.1; unfold Iv.Vd at this; omega
  have n1 : -9223372036854775808 ≤ Iv.mn4 (l * l') (l * h') (h * l') (h * h') := by have := M0.2.2.1; unfold Iv.Vd at this; omega
  have n2 : Iv.mn4 (l * l') (l * h') (h * l') (h * h') ≤ 9223372036854775807 := by have := M0.2.2.1; unfold Iv.Vd at this; omega
  have n3 : -9223372036854775808 ≤ Iv.mx4 (l * l') (l * h') (h * l') (h * h') := by have := M0.2.2.1; unfold Iv.Vd at this; omega
  have n4 : Iv.mx4 (l * l') (l * h') (h * l') (h * h') ≤ 9223372036854775807 := by have := M0.2.2.1; unfold Iv.Vd at this; omega
  have i1 := mn4_is (l * l') (l * h') (h * l') (h * h')
  have i2 := mx4_is (l * l') (l * h') (h * l') (h * h')
  clear M0 c1
  generalize Iv.mn4 (l * l') (l * h') (h * l') (h * h') = mlo at *
  generalize Iv.mx4 (l * l') (l * h') (h * l') (h * h') = mhi at *
  replace i1 := Lib.hid i1
  replace i2 := Lib.hid i2
  go_enter Try.func6, Try.ntmps6
  have X := Blk.new w 23 #[.int .i64 (l), .int .i64 (h)]
  have hB := ba w (.cells #[.int .i64 (l), .int .i64 (h)] 23)
  have Y := Blk.new1 w (.cells #[.int .i64 (l), .int .i64 (h)] 23) 23 #[.int .i64 (l'), .int .i64 (h')]
  replace X := X.alloc (.cells #[.int .i64 (l'), .int .i64 (h')] 23)
  replace hB := bal hB (.cells #[.int .i64 (l'), .int .i64 (h')] 23)
  go_wp2_with fail
  refine (awake_ci _).mono ?_
  rintro e w1 ⟨rfl, hb⟩
  replace X := X.keep hb
  replace Y := Y.keep hb
  replace hB := bt hB hb
  clear hb
  obtain ⟨c00, c01, c02, c03⟩ := X.open2
  obtain ⟨c10, c11, c12, c13⟩ := Y.open2
  go_wp2_with fail
  refine (add_ci _ _ _ _ _).mono ?_
  rw [hm0.out]
  rintro e w2 ⟨rfl, hb⟩
  clear c00 c01 c02 c03 c10 c11 c12 c13
  replace X := X.keep hb
  replace Y := Y.keep hb
  replace hB := bt hB hb
  clear hb
  have hz2 := hB.size
  have l2X := X.lt
  have l2Y := Y.lt
  replace X := X.alloc (.cells #[.int .i64 (Iv.add l h l' h').lo, .int .i64 (Iv.add l h l' h').hi] 23)
  replace Y := Y.alloc (.cells #[.int .i64 (Iv.add l h l' h').lo, .int .i64 (Iv.add l h l' h').hi] 23)
  replace hB := bal hB (.cells #[.int .i64 (Iv.add l h l' h').lo, .int .i64 (Iv.add l h l' h').hi] 23)
  have A := Blk.new w2 23 #[.int .i64 (Iv.add l h l' h').lo, .int .i64 (Iv.add l h l' h').hi]
  obtain ⟨c00, c01, c02, c03⟩ := X.open2
  obtain ⟨c10, c11, c12, c13⟩ := Y.open2
  obtain ⟨c20, c21, c22, c23⟩ := A.open2
  go_wp2_with fail
  refine (mul_ci _ _ _ _ _).mono ?_
  rw [M1.out]
  rintro e w3 ⟨rfl, hb⟩
  clear c00 c01 c02 c03 c10 c11 c12 c13 c20 c21 c22 c23
  replace X := X.keep hb
  replace Y := Y.keep hb
  replace A := A.keep hb
  replace hB := bt hB hb
  clear hb
  have hz3 := hB.size
  have l3X := X.lt
  have l3Y := Y.lt
  have l3A := A.lt
  replace X := X.alloc (.cells #[.int .i64 mlo, .int .i64 mhi] 23)
  replace Y := Y.alloc (.cells #[.int .i64 mlo, .int .i64 mhi] 23)
  replace A := A.alloc (.cells #[.int .i64 mlo, .int .i64 mhi] 23)
  replace hB := bal hB (.cells #[.int .i64 mlo, .int .i64 mhi] 23)
  have C := Blk.new w3 23 #[.int .i64 mlo, .int .i64 mhi]
  obtain ⟨c00, c01, c02, c03⟩ := A.open2
  obtain ⟨c10, c11, c12, c13⟩ := X.open2
  obtain ⟨c20, c21, c22, c23⟩ := Y.open2
  go_wp2_with fail
  clear c00 c01 c02 c03 c10 c11 c12 c13 c20 c21 c22 c23
  refine wp_region_inv (fun L x G wx => ((((Below w.heap.size w wx
        ∧ (w.heap.size < wx.heap.size
        ∧ Blk wx (w.heap.size) 23 #[.int .i64 (l), .int .i64 (h)]))
        ∧ (w.heap.size + 1 < wx.heap.size
        ∧ (Blk wx (w.heap.size + 1) 23 #[.int .i64 (l'), .int .i64 (h')]
        ∧ w2.heap.size < wx.heap.size)))
        ∧ ((Blk wx (w2.heap.size) 23 #[.int .i64 (Iv.add l h l' h').lo, .int .i64 (Iv.add l h l' h').hi]
        ∧ (w3.heap.size < wx.heap.size
        ∧ Blk wx (w3.heap.size) 23 #[.int .i64 mlo, .int .i64 mhi]))
        ∧ (((L 6 → w.heap.size ≤ G 6 ∧ G 6 < wx.heap.size ∧ w.heap.size ≠ G 6 ∧ w.heap.size + 1 ≠ G 6 ∧ w2.heap.size ≠ G 6 ∧ w3.heap.size ≠ G 6)
        ∧ (L 6 → ¬ L 8 → Blk wx (G 6) 40 #[.int .i64 (0), .int .u64 (0)]))
        ∧ ((L 8 → Blk wx (G 6) 40 #[.int .i64 (Wi.Hq (mlo)), .int .u64 (Wi.Lr (mlo))])
        ∧ (L 8 → L 6)))))
        ∧ ((((L 7 → w.heap.size ≤ G 7 ∧ G 7 < wx.heap.size ∧ w.heap.size ≠ G 7 ∧ w.heap.size + 1 ≠ G 7 ∧ w2.heap.size ≠ G 7 ∧ w3.heap.size ≠ G 7)
        ∧ ((L 7 → ¬ L 9 → Blk wx (G 7) 40 #[.int .i64 (0), .int .u64 (0)])
        ∧ (L 9 → Blk wx (G 7) 40 #[.int .i64 (Wi.Hq (mhi)), .int .u64 (Wi.Lr (mhi))])))
        ∧ ((L 9 → L 7)
        ∧ ((L 7 → L 6 → G 7 ≠ G 6)
        ∧ (L 0 → x 59 = .pointer (some ⟨w3.heap.size, 0, none⟩)))))
        ∧ (((L 1 → x 60 = .int .i64 mlo)
        ∧ ((L 2 → x 61 = .agg #[.int .i64 (Wi.Hq (mlo)), .int .u64 (Wi.Lr (mlo))])
        ∧ (L 3 → x 62 = .pointer (some ⟨w3.heap.size, 1, none⟩))))
        ∧ (((L 4 → x 63 = .int .i64 mhi)
        ∧ (L 5 → x 64 = .agg #[.int .i64 (Wi.Hq (mhi)), .int .u64 (Wi.Lr (mhi))]))
        ∧ ((L 6 → x 9 = .pointer (some ⟨G 6, 0, none⟩))
        ∧ (L 7 → x 10 = .pointer (some ⟨G 7, 0, none⟩)))))))) [59, 60, 61, 62, 63, 64, 9, 10] 10 (by kernel_rfl) (by kernel_rfl) (by kernel_rfl) ?h0 ?st ?fin
  case h0 =>
    exact ⟨⟨⟨⟨bdr hB, ⟨Blk.lt X.drew, X.drew⟩⟩, ⟨Blk.lt Y.drew, ⟨Y.drew, Blk.lt A.drew⟩⟩⟩, ⟨⟨A.drew, ⟨Blk.lt C.drew, C.drew⟩⟩, ⟨⟨fun q => q.elim, fun q => q.elim⟩, ⟨fun q => q.elim, fun q => q.elim⟩⟩⟩⟩, ⟨⟨⟨fun q => q.elim, ⟨fun q => q.elim, fun q => q.elim⟩⟩, ⟨fun q => q.elim, ⟨fun q _ => q.elim, fun q => q.elim⟩⟩⟩, ⟨⟨fun q => q.elim, ⟨fun q => q.elim, fun q => q.elim⟩⟩, ⟨⟨fun q => q.elim, fun q => q.elim⟩, ⟨fun q => q.elim, fun q => q.elim⟩⟩⟩⟩⟩
  case st =>
    refine StepsOk.cons (i := 0) rfl (fun L x G w1 K Q hn hp hJ hK => ?_) ?_
    · skip
      simp only [putAll, Act.put, List.setIfInBounds_toArray, List.set_cons_zero, List.set_cons_succ]
      go_simp
      refine hK _ G _ (by kernel_rfl) ?_
      exact ⟨⟨⟨⟨(hJ.1.1.1.1), ⟨(hJ.1.1.1.2.1), (hJ.1.1.1.2.2)⟩⟩, ⟨(hJ.1.1.2.1), ⟨(hJ.1.1.2.2.1), (hJ.1.1.2.2.2)⟩⟩⟩, ⟨⟨(hJ.1.2.1.1), ⟨(hJ.1.2.1.2.1), (hJ.1.2.1.2.2)⟩⟩, ⟨⟨fun q => (hJ.1.2.2.1.1) (rl q), fun q n => (hJ.1.2.2.1.2) (rl q) (fun m => n (.inr m))⟩, ⟨fun q => (hJ.1.2.2.2.1) (rl q), fun q => .inr ((hJ.1.2.2.2.2) (rl q))⟩⟩⟩⟩, ⟨⟨⟨fun q => (hJ.2.1.1.1) (rl q), ⟨fun q n => (hJ.2.1.1.2.1) (rl q) (fun m => n (.inr m)), fun q => (hJ.2.1.1.2.2) (rl q)⟩⟩, ⟨fun q => .inr ((hJ.2.1.2.1) (rl q)), ⟨fun q r => (hJ.2.1.2.2.1) (rl q) (rl r), fun _ => rfl⟩⟩⟩, ⟨⟨fun q => (hJ.2.2.1.1) (rl q), ⟨fun q => (hJ.2.2.1.2.1) (rl q), fun q => (hJ.2.2.1.2.2) (rl q)⟩⟩, ⟨⟨fun q => (hJ.2.2.2.1.1) (rl q), fun q => (hJ.2.2.2.1.2) (rl q)⟩, ⟨fun q => (hJ.2.2.2.2.1) (rl q), fun q => (hJ.2.2.2.2.2) (rl q)⟩⟩⟩⟩⟩
    refine StepsOk.cons (i := 1) rfl (fun L x G w1 K Q hn hp hJ hK => ?_) ?_
    · skip
      have p0 : L 0 := hp ⟨0, .data⟩ (by simp) rfl
      have e0 := (hJ.2.1.2.2.2) p0
      have hc := Blk.open2 ((hJ.1.2.1.2.2))
      have c0 := hc.1
      have c1 := hc.2.1
      have c2 := hc.2.2.1
      have c3 := hc.2.2.2
      clear hc
      simp only [putAll, Act.put, List.setIfInBounds_toArray, List.set_cons_zero, List.set_cons_succ]
      go_simp
      refine hK _ G _ (by kernel_rfl) ?_
      exact ⟨⟨⟨⟨(hJ.1.1.1.1), ⟨(hJ.1.1.1.2.1), (hJ.1.1.1.2.2)⟩⟩, ⟨(hJ.1.1.2.1), ⟨(hJ.1.1.2.2.1), (hJ.1.1.2.2.2)⟩⟩⟩, ⟨⟨(hJ.1.2.1.1), ⟨(hJ.1.2.1.2.1), (hJ.1.2.1.2.2)⟩⟩, ⟨⟨fun q => (hJ.1.2.2.1.1) (rl q), fun q n => (hJ.1.2.2.1.2) (rl q) (fun m => n (.inr m))⟩, ⟨fun q => (hJ.1.2.2.2.1) (rl q), fun q => .inr ((hJ.1.2.2.2.2) (rl q))⟩⟩⟩⟩, ⟨⟨⟨fun q => (hJ.2.1.1.1) (rl q), ⟨fun q n => (hJ.2.1.1.2.1) (rl q) (fun m => n (.inr m)), fun q => (hJ.2.1.1.2.2) (rl q)⟩⟩, ⟨fun q => .inr ((hJ.2.1.2.1) (rl q)), ⟨fun q r => (hJ.2.1.2.2.1) (rl q) (rl r), fun _ => by first | exact rfl | exact e0⟩⟩⟩, ⟨⟨fun _ => rfl, ⟨fun q => (hJ.2.2.1.2.1) (rl q), fun q => (hJ.2.2.1.2.2) (rl q)⟩⟩, ⟨⟨fun q => (hJ.2.2.2.1.1) (rl q), fun q => (hJ.2.2.2.1.2) (rl q)⟩, ⟨fun q => (hJ.2.2.2.2.1) (rl q), fun q => (hJ.2.2.2.2.2) (rl q)⟩⟩⟩⟩⟩
    refine StepsOk.cons (i := 2) rfl (fun L x G w1 K Q hn hp hJ hK => ?_) ?_
    · skip
      have p1 : L 1 := hp ⟨1, .data⟩ (by simp) rfl
      have e1 := (hJ.2.2.1.1) p1
      simp only [putAll, Act.put, List.setIfInBounds_toArray, List.set_cons_zero, List.set_cons_succ]
      go_simp
      refine (of_c _ _ n1 n2).mono ?_
      rintro e w2 ⟨rfl, hb⟩
      have hz := hb.size
      try go_simp
      refine hK _ G _ (by kernel_rfl) ?_
      exact ⟨⟨⟨⟨bt (hJ.1.1.1.1) hb, ⟨Nat.lt_of_lt_of_le (hJ.1.1.1.2.1) hb.size, Blk.keep ((hJ.1.1.1.2.2)) hb⟩⟩, ⟨Nat.lt_of_lt_of_le (hJ.1.1.2.1) hb.size, ⟨Blk.keep ((hJ.1.1.2.2.1)) hb, Nat.lt_of_lt_of_le (hJ.1.1.2.2.2) hb.size⟩⟩⟩, ⟨⟨Blk.keep ((hJ.1.2.1.1)) hb, ⟨Nat.lt_of_lt_of_le (hJ.1.2.1.2.1) hb.size, Blk.keep ((hJ.1.2.1.2.2)) hb⟩⟩, ⟨⟨fun q => ⟨((hJ.1.2.2.1.1) (rl q)).1, by have := ((hJ.1.2.2.1.1) (rl q)).2.1; omega, ((hJ.1.2.2.1.1) (rl q)).2.2⟩, fun q n => Blk.keep ((hJ.1.2.2.1.2) (rl q) (fun m => n (.inr m))) hb⟩, ⟨fun q => Blk.keep ((hJ.1.2.2.2.1) (rl q)) hb, fun q => .inr ((hJ.1.2.2.2.2) (rl q))⟩⟩⟩⟩, ⟨⟨⟨fun q => ⟨((hJ.2.1.1.1) (rl q)).1, by have := ((hJ.2.1.1.1) (rl q)).2.1; omega, ((hJ.2.1.1.1) (rl q)).2.2⟩, ⟨fun q n => Blk.keep ((hJ.2.1.1.2.1) (rl q) (fun m => n (.inr m))) hb, fun q => Blk.keep ((hJ.2.1.1.2.2) (rl q)) hb⟩⟩, ⟨fun q => .inr ((hJ.2.1.2.1) (rl q)), ⟨fun q r => (hJ.2.1.2.2.1) (rl q) (rl r), fun q => (hJ.2.1.2.2.2) (rl q)⟩⟩⟩, ⟨⟨fun _ => by first | exact rfl | exact e1, ⟨fun _ => rfl, fun q => (hJ.2.2.1.2.2) (rl q)⟩⟩, ⟨⟨fun q => (hJ.2.2.2.1.1) (rl q), fun q => (hJ.2.2.2.1.2) (rl q)⟩, ⟨fun q => (hJ.2.2.2.2.1) (rl q), fun q => (hJ.2.2.2.2.2) (rl q)⟩⟩⟩⟩⟩
    refine StepsOk.cons (i := 3) rfl (fun L x G w1 K Q hn hp hJ hK => ?_) ?_
    · skip
      simp only [putAll, Act.put, List.setIfInBounds_toArray, List.set_cons_zero, List.set_cons_succ]
      go_simp
      refine hK _ G _ (by kernel_rfl) ?_
      exact ⟨⟨⟨⟨(hJ.1.1.1.1), ⟨(hJ.1.1.1.2.1), (hJ.1.1.1.2.2)⟩⟩, ⟨(hJ.1.1.2.1), ⟨(hJ.1.1.2.2.1), (hJ.1.1.2.2.2)⟩⟩⟩, ⟨⟨(hJ.1.2.1.1), ⟨(hJ.1.2.1.2.1), (hJ.1.2.1.2.2)⟩⟩, ⟨⟨fun q => (hJ.1.2.2.1.1) (rl q), fun q n => (hJ.1.2.2.1.2) (rl q) (fun m => n (.inr m))⟩, ⟨fun q => (hJ.1.2.2.2.1) (rl q), fun q => .inr ((hJ.1.2.2.2.2) (rl q))⟩⟩⟩⟩, ⟨⟨⟨fun q => (hJ.2.1.1.1) (rl q), ⟨fun q n => (hJ.2.1.1.2.1) (rl q) (fun m => n (.inr m)), fun q => (hJ.2.1.1.2.2) (rl q)⟩⟩, ⟨fun q => .inr ((hJ.2.1.2.1) (rl q)), ⟨fun q r => (hJ.2.1.2.2.1) (rl q) (rl r), fun q => (hJ.2.1.2.2.2) (rl q)⟩⟩⟩, ⟨⟨fun q => (hJ.2.2.1.1) (rl q), ⟨fun q => (hJ.2.2.1.2.1) (rl q), fun _ => rfl⟩⟩, ⟨⟨fun q => (hJ.2.2.2.1.1) (rl q), fun q => (hJ.2.2.2.1.2) (rl q)⟩, ⟨fun q => (hJ.2.2.2.2.1) (rl q), fun q => (hJ.2.2.2.2.2) (rl q)⟩⟩⟩⟩⟩
    refine StepsOk.cons (i := 4) rfl (fun L x G w1 K Q hn hp hJ hK => ?_) ?_
    · skip
      have p3 : L 3 := hp ⟨3, .data⟩ (by simp) rfl
      have e3 := (hJ.2.2.1.2.2) p3
      have hc := Blk.open2 ((hJ.1.2.1.2.2))
      have c0 := hc.1
      have c1 := hc.2.1
      have c2 := hc.2.2.1
      have c3 := hc.2.2.2
      clear hc
      simp only [putAll, Act.put, List.setIfInBounds_toArray, List.set_cons_zero, List.set_cons_succ]
      go_simp
      refine hK _ G _ (by kernel_rfl) ?_
      exact ⟨⟨⟨⟨(hJ.1.1.1.1), ⟨(hJ.1.1.1.2.1), (hJ.1.1.1.2.2)⟩⟩, ⟨(hJ.1.1.2.1), ⟨(hJ.1.1.2.2.1), (hJ.1.1.2.2.2)⟩⟩⟩, ⟨⟨(hJ.1.2.1.1), ⟨(hJ.1.2.1.2.1), (hJ.1.2.1.2.2)⟩⟩, ⟨⟨fun q => (hJ.1.2.2.1.1) (rl q), fun q n => (hJ.1.2.2.1.2) (rl q) (fun m => n (.inr m))⟩, ⟨fun q => (hJ.1.2.2.2.1) (rl q), fun q => .inr ((hJ.1.2.2.2.2) (rl q))⟩⟩⟩⟩, ⟨⟨⟨fun q => (hJ.2.1.1.1) (rl q), ⟨fun q n => (hJ.2.1.1.2.1) (rl q) (fun m => n (.inr m)), fun q => (hJ.2.1.1.2.2) (rl q)⟩⟩, ⟨fun q => .inr ((hJ.2.1.2.1) (rl q)), ⟨fun q r => (hJ.2.1.2.2.1) (rl q) (rl r), fun q => (hJ.2.1.2.2.2) (rl q)⟩⟩⟩, ⟨⟨fun q => (hJ.2.2.1.1) (rl q), ⟨fun q => (hJ.2.2.1.2.1) (rl q), fun _ => by first | exact rfl | exact e3⟩⟩, ⟨⟨fun _ => rfl, fun q => (hJ.2.2.2.1.2) (rl q)⟩, ⟨fun q => (hJ.2.2.2.2.1) (rl q), fun q => (hJ.2.2.2.2.2) (rl q)⟩⟩⟩⟩⟩
    refine StepsOk.cons (i := 5) rfl (fun L x G w1 K Q hn hp hJ hK => ?_) ?_
    · skip
      have p4 : L 4 := hp ⟨4, .data⟩ (by simp) rfl
      have e4 := (hJ.2.2.2.1.1) p4
      simp only [putAll, Act.put, List.setIfInBounds_toArray, List.set_cons_zero, List.set_cons_succ]
      go_simp
      refine (of_c _ _ n3 n4).mono ?_
      rintro e w2 ⟨rfl, hb⟩
      have hz := hb.size
      try go_simp
      refine hK _ G _ (by kernel_rfl) ?_
      exact ⟨⟨⟨⟨bt (hJ.1.1.1.1) hb, ⟨Nat.lt_of_lt_of_le (hJ.1.1.1.2.1) hb.size, Blk.keep ((hJ.1.1.1.2.2)) hb⟩⟩, ⟨Nat.lt_of_lt_of_le (hJ.1.1.2.1) hb.size, ⟨Blk.keep ((hJ.1.1.2.2.1)) hb, Nat.lt_of_lt_of_le (hJ.1.1.2.2.2) hb.size⟩⟩⟩, ⟨⟨Blk.keep ((hJ.1.2.1.1)) hb, ⟨Nat.lt_of_lt_of_le (hJ.1.2.1.2.1) hb.size, Blk.keep ((hJ.1.2.1.2.2)) hb⟩⟩, ⟨⟨fun q => ⟨((hJ.1.2.2.1.1) (rl q)).1, by have := ((hJ.1.2.2.1.1) (rl q)).2.1; omega, ((hJ.1.2.2.1.1) (rl q)).2.2⟩, fun q n => Blk.keep ((hJ.1.2.2.1.2) (rl q) (fun m => n (.inr m))) hb⟩, ⟨fun q => Blk.keep ((hJ.1.2.2.2.1) (rl q)) hb, fun q => .inr ((hJ.1.2.2.2.2) (rl q))⟩⟩⟩⟩, ⟨⟨⟨fun q => ⟨((hJ.2.1.1.1) (rl q)).1, by have := ((hJ.2.1.1.1) (rl q)).2.1; omega, ((hJ.2.1.1.1) (rl q)).2.2⟩, ⟨fun q n => Blk.keep ((hJ.2.1.1.2.1) (rl q) (fun m => n (.inr m))) hb, fun q => Blk.keep ((hJ.2.1.1.2.2) (rl q)) hb⟩⟩, ⟨fun q => .inr ((hJ.2.1.2.1) (rl q)), ⟨fun q r => (hJ.2.1.2.2.1) (rl q) (rl r), fun q => (hJ.2.1.2.2.2) (rl q)⟩⟩⟩, ⟨⟨fun q => (hJ.2.2.1.1) (rl q), ⟨fun q => (hJ.2.2.1.2.1) (rl q), fun q => (hJ.2.2.1.2.2) (rl q)⟩⟩, ⟨⟨fun _ => by first | exact rfl | exact e4, fun _ => rfl⟩, ⟨fun q => (hJ.2.2.2.2.1) (rl q), fun q => (hJ.2.2.2.2.2) (rl q)⟩⟩⟩⟩⟩
    refine StepsOk.cons (i := 6) rfl (fun L x G w1 K Q hn hp hJ hK => ?_) ?_
    · skip
      simp only [putAll, Act.put, List.setIfInBounds_toArray, List.set_cons_zero, List.set_cons_succ]
      go_simp
      refine hK _ (fun t => if t = 6 then w1.heap.size else G t) _ (by kernel_rfl) ?_
      exact ⟨⟨⟨⟨bal (hJ.1.1.1.1) _, ⟨by simp; omega, Blk.alloc ((hJ.1.1.1.2.2)) _⟩⟩, ⟨by simp; omega, ⟨Blk.alloc ((hJ.1.1.2.2.1)) _, by simp; omega⟩⟩⟩, ⟨⟨Blk.alloc ((hJ.1.2.1.1)) _, ⟨by simp; omega, Blk.alloc ((hJ.1.2.1.2.2)) _⟩⟩, ⟨⟨fun _ => ⟨(hJ.1.1.1.1).size, by simp, Nat.ne_of_lt (hJ.1.1.1.2.1), Nat.ne_of_lt (hJ.1.1.2.1), Nat.ne_of_lt (hJ.1.1.2.2.2), Nat.ne_of_lt (hJ.1.2.1.2.1)⟩, fun _ _ => Blk.new w1 _ _⟩, ⟨fun q => absurd ((hJ.1.2.2.2.2) (rl q)) hn, fun q => .inr ((hJ.1.2.2.2.2) (rl q))⟩⟩⟩⟩, ⟨⟨⟨fun q => ⟨((hJ.2.1.1.1) (rl q)).1, by have := ((hJ.2.1.1.1) (rl q)).2.1; simp; omega, ((hJ.2.1.1.1) (rl q)).2.2⟩, ⟨fun q n => Blk.alloc ((hJ.2.1.1.2.1) (rl q) (fun m => n (.inr m))) _, fun q => Blk.alloc ((hJ.2.1.1.2.2) (rl q)) _⟩⟩, ⟨fun q => .inr ((hJ.2.1.2.1) (rl q)), ⟨fun q _ => Nat.ne_of_lt ((hJ.2.1.1.1) (rl q)).2.1, fun q => (hJ.2.1.2.2.2) (rl q)⟩⟩⟩, ⟨⟨fun q => (hJ.2.2.1.1) (rl q), ⟨fun q => (hJ.2.2.1.2.1) (rl q), fun q => (hJ.2.2.1.2.2) (rl q)⟩⟩, ⟨⟨fun q => (hJ.2.2.2.1.1) (rl q), fun q => (hJ.2.2.2.1.2) (rl q)⟩, ⟨fun _ => rfl, fun q => (hJ.2.2.2.2.2) (rl q)⟩⟩⟩⟩⟩
    refine StepsOk.cons (i := 7) rfl (fun L x G w1 K Q hn hp hJ hK => ?_) ?_
    · skip
      simp only [putAll, Act.put, List.setIfInBounds_toArray, List.set_cons_zero, List.set_cons_succ]
      go_simp
      refine hK _ (fun t => if t = 7 then w1.heap.size else G t) _ (by kernel_rfl) ?_
      exact ⟨⟨⟨⟨bal (hJ.1.1.1.1) _, ⟨by simp; omega, Blk.alloc ((hJ.1.1.1.2.2)) _⟩⟩, ⟨by simp; omega, ⟨Blk.alloc ((hJ.1.1.2.2.1)) _, by simp; omega⟩⟩⟩, ⟨⟨Blk.alloc ((hJ.1.2.1.1)) _, ⟨by simp; omega, Blk.alloc ((hJ.1.2.1.2.2)) _⟩⟩, ⟨⟨fun q => ⟨((hJ.1.2.2.1.1) (rl q)).1, by have := ((hJ.1.2.2.1.1) (rl q)).2.1; simp; omega, ((hJ.1.2.2.1.1) (rl q)).2.2⟩, fun q n => Blk.alloc ((hJ.1.2.2.1.2) (rl q) (fun m => n (.inr m))) _⟩, ⟨fun q => Blk.alloc ((hJ.1.2.2.2.1) (rl q)) _, fun q => .inr ((hJ.1.2.2.2.2) (rl q))⟩⟩⟩⟩, ⟨⟨⟨fun _ => ⟨(hJ.1.1.1.1).size, by simp, Nat.ne_of_lt (hJ.1.1.1.2.1), Nat.ne_of_lt (hJ.1.1.2.1), Nat.ne_of_lt (hJ.1.1.2.2.2), Nat.ne_of_lt (hJ.1.2.1.2.1)⟩, ⟨fun _ _ => Blk.new w1 _ _, fun q => absurd ((hJ.2.1.2.1) (rl q)) hn⟩⟩, ⟨fun q => .inr ((hJ.2.1.2.1) (rl q)), ⟨fun _ r => Nat.ne_of_gt ((hJ.1.2.2.1.1) (rl r)).2.1, fun q => (hJ.2.1.2.2.2) (rl q)⟩⟩⟩, ⟨⟨fun q => (hJ.2.2.1.1) (rl q), ⟨fun q => (hJ.2.2.1.2.1) (rl q), fun q => (hJ.2.2.1.2.2) (rl q)⟩⟩, ⟨⟨fun q => (hJ.2.2.2.1.1) (rl q), fun q => (hJ.2.2.2.1.2) (rl q)⟩, ⟨fun q => (hJ.2.2.2.2.1) (rl q), fun _ => rfl⟩⟩⟩⟩⟩
    refine StepsOk.cons (i := 8) rfl (fun L x G w1 K Q hn hp hJ hK => ?_) ?_
    · skip
      have p2 : L 2 := hp ⟨2, .data⟩ (by simp) rfl
      have e2 := (hJ.2.2.1.2.1) p2
      have p6 : L 6 := hp ⟨6, .data⟩ (by simp) rfl
      have e6 := (hJ.2.2.2.2.1) p6
      have hc := Blk.open2 (((hJ.1.2.2.1.2) p6 hn))
      have c0 := hc.1
      have c1 := hc.2.1
      have c2 := hc.2.2.1
      have c3 := hc.2.2.2
      clear hc
      simp only [putAll, Act.put, List.setIfInBounds_toArray, List.set_cons_zero, List.set_cons_succ]
      go_simp
      refine hK _ G _ (by kernel_rfl) ?_
      exact ⟨⟨⟨⟨bst (bst ((hJ.1.1.1.1)) (p := ⟨G 6, 0, none⟩) ((hJ.1.2.2.1.1) p6).1 (.int .i64 (Wi.Hq (mlo)))) (p := ⟨G 6, 1, none⟩) ((hJ.1.2.2.1.1) p6).1 (.int .u64 (Wi.Lr (mlo))), ⟨by simpa using (hJ.1.1.1.2.1), Blk.far (Blk.far ((hJ.1.1.1.2.2)) (p := ⟨G 6, 0, none⟩) (((hJ.1.2.2.1.1) p6).2.2.1) (.int .i64 (Wi.Hq (mlo)))) (p := ⟨G 6, 1, none⟩) (((hJ.1.2.2.1.1) p6).2.2.1) (.int .u64 (Wi.Lr (mlo)))⟩⟩, ⟨by simpa using (hJ.1.1.2.1), ⟨Blk.far (Blk.far ((hJ.1.1.2.2.1)) (p := ⟨G 6, 0, none⟩) (((hJ.1.2.2.1.1) p6).2.2.2.1) (.int .i64 (Wi.Hq (mlo)))) (p := ⟨G 6, 1, none⟩) (((hJ.1.2.2.1.1) p6).2.2.2.1) (.int .u64 (Wi.Lr (mlo))), by simpa using (hJ.1.1.2.2.2)⟩⟩⟩, ⟨⟨Blk.far (Blk.far ((hJ.1.2.1.1)) (p := ⟨G 6, 0, none⟩) (((hJ.1.2.2.1.1) p6).2.2.2.2.1) (.int .i64 (Wi.Hq (mlo)))) (p := ⟨G 6, 1, none⟩) (((hJ.1.2.2.1.1) p6).2.2.2.2.1) (.int .u64 (Wi.Lr (mlo))), ⟨by simpa using (hJ.1.2.1.2.1), Blk.far (Blk.far ((hJ.1.2.1.2.2)) (p := ⟨G 6, 0, none⟩) (((hJ.1.2.2.1.1) p6).2.2.2.2.2) (.int .i64 (Wi.Hq (mlo)))) (p := ⟨G 6, 1, none⟩) (((hJ.1.2.2.1.1) p6).2.2.2.2.2) (.int .u64 (Wi.Lr (mlo)))⟩⟩, ⟨⟨fun q => ⟨((hJ.1.2.2.1.1) (rl q)).1, by have := ((hJ.1.2.2.1.1) (rl q)).2.1; simpa using this, ((hJ.1.2.2.1.1) (rl q)).2.2⟩, fun _ n => absurd (.inl rfl) n⟩, ⟨fun _ => by simpa using Blk.set_ (Blk.set_ (((hJ.1.2.2.1.2) p6 hn)) 0 (.int .i64 (Wi.Hq (mlo)))) 1 (.int .u64 (Wi.Lr (mlo))), fun _ => .inr p6⟩⟩⟩⟩, ⟨⟨⟨fun q => ⟨((hJ.2.1.1.1) (rl q)).1, by have := ((hJ.2.1.1.1) (rl q)).2.1; simpa using this, ((hJ.2.1.1.1) (rl q)).2.2⟩, ⟨fun q n => Blk.far (Blk.far ((hJ.2.1.1.2.1) (rl q) (fun m => n (.inr m))) (p := ⟨G 6, 0, none⟩) ((hJ.2.1.2.2.1) (rl q) p6) (.int .i64 (Wi.Hq (mlo)))) (p := ⟨G 6, 1, none⟩) ((hJ.2.1.2.2.1) (rl q) p6) (.int .u64 (Wi.Lr (mlo))), fun q => Blk.far (Blk.far ((hJ.2.1.1.2.2) (rl q)) (p := ⟨G 6, 0, none⟩) ((hJ.2.1.2.2.1) ((hJ.2.1.2.1) (rl q)) p6) (.int .i64 (Wi.Hq (mlo)))) (p := ⟨G 6, 1, none⟩) ((hJ.2.1.2.2.1) ((hJ.2.1.2.1) (rl q)) p6) (.int .u64 (Wi.Lr (mlo)))⟩⟩, ⟨fun q => .inr ((hJ.2.1.2.1) (rl q)), ⟨fun q r => (hJ.2.1.2.2.1) (rl q) (rl r), fun q => (hJ.2.1.2.2.2) (rl q)⟩⟩⟩, ⟨⟨fun q => (hJ.2.2.1.1) (rl q), ⟨fun _ => by first | exact rfl | exact e2, fun q => (hJ.2.2.1.2.2) (rl q)⟩⟩, ⟨⟨fun q => (hJ.2.2.2.1.1) (rl q), fun q => (hJ.2.2.2.1.2) (rl q)⟩, ⟨fun _ => by first | exact rfl | exact e6, fun q => (hJ.2.2.2.2.2) (rl q)⟩⟩⟩⟩⟩
    refine StepsOk.cons (i := 9) rfl (fun L x G w1 K Q hn hp hJ hK => ?_) ?_
    · skip
      have p5 : L 5 := hp ⟨5, .data⟩ (by simp) rfl
      have e5 := (hJ.2.2.2.1.2) p5
      have p7 : L 7 := hp ⟨7, .data⟩ (by simp) rfl
      have e7 := (hJ.2.2.2.2.2) p7
      have hc := Blk.open2 (((hJ.2.1.1.2.1) p7 hn))
      have c0 := hc.1
      have c1 := hc.2.1
      have c2 := hc.2.2.1
      have c3 := hc.2.2.2
      clear hc
      simp only [putAll, Act.put, List.setIfInBounds_toArray, List.set_cons_zero, List.set_cons_succ]
      go_simp
      refine hK _ G _ (by kernel_rfl) ?_
      exact ⟨⟨⟨⟨bst (bst ((hJ.1.1.1.1)) (p := ⟨G 7, 0, none⟩) ((hJ.2.1.1.1) p7).1 (.int .i64 (Wi.Hq (mhi)))) (p := ⟨G 7, 1, none⟩) ((hJ.2.1.1.1) p7).1 (.int .u64 (Wi.Lr (mhi))), ⟨by simpa using (hJ.1.1.1.2.1), Blk.far (Blk.far ((hJ.1.1.1.2.2)) (p := ⟨G 7, 0, none⟩) (((hJ.2.1.1.1) p7).2.2.1) (.int .i64 (Wi.Hq (mhi)))) (p := ⟨G 7, 1, none⟩) (((hJ.2.1.1.1) p7).2.2.1) (.int .u64 (Wi.Lr (mhi)))⟩⟩, ⟨by simpa using (hJ.1.1.2.1), ⟨Blk.far (Blk.far ((hJ.1.1.2.2.1)) (p := ⟨G 7, 0, none⟩) (((hJ.2.1.1.1) p7).2.2.2.1) (.int .i64 (Wi.Hq (mhi)))) (p := ⟨G 7, 1, none⟩) (((hJ.2.1.1.1) p7).2.2.2.1) (.int .u64 (Wi.Lr (mhi))), by simpa using (hJ.1.1.2.2.2)⟩⟩⟩, ⟨⟨Blk.far (Blk.far ((hJ.1.2.1.1)) (p := ⟨G 7, 0, none⟩) (((hJ.2.1.1.1) p7).2.2.2.2.1) (.int .i64 (Wi.Hq (mhi)))) (p := ⟨G 7, 1, none⟩) (((hJ.2.1.1.1) p7).2.2.2.2.1) (.int .u64 (Wi.Lr (mhi))), ⟨by simpa using (hJ.1.2.1.2.1), Blk.far (Blk.far ((hJ.1.2.1.2.2)) (p := ⟨G 7, 0, none⟩) (((hJ.2.1.1.1) p7).2.2.2.2.2) (.int .i64 (Wi.Hq (mhi)))) (p := ⟨G 7, 1, none⟩) (((hJ.2.1.1.1) p7).2.2.2.2.2) (.int .u64 (Wi.Lr (mhi)))⟩⟩, ⟨⟨fun q => ⟨((hJ.1.2.2.1.1) (rl q)).1, by have := ((hJ.1.2.2.1.1) (rl q)).2.1; simpa using this, ((hJ.1.2.2.1.1) (rl q)).2.2⟩, fun q n => Blk.far (Blk.far ((hJ.1.2.2.1.2) (rl q) (fun m => n (.inr m))) (p := ⟨G 7, 0, none⟩) (Ne.symm ((hJ.2.1.2.2.1) p7 (rl q))) (.int .i64 (Wi.Hq (mhi)))) (p := ⟨G 7, 1, none⟩) (Ne.symm ((hJ.2.1.2.2.1) p7 (rl q))) (.int .u64 (Wi.Lr (mhi)))⟩, ⟨fun q => Blk.far (Blk.far ((hJ.1.2.2.2.1) (rl q)) (p := ⟨G 7, 0, none⟩) (Ne.symm ((hJ.2.1.2.2.1) p7 ((hJ.1.2.2.2.2) (rl q)))) (.int .i64 (Wi.Hq (mhi)))) (p := ⟨G 7, 1, none⟩) (Ne.symm ((hJ.2.1.2.2.1) p7 ((hJ.1.2.2.2.2) (rl q)))) (.int .u64 (Wi.Lr (mhi))), fun q => .inr ((hJ.1.2.2.2.2) (rl q))⟩⟩⟩⟩, ⟨⟨⟨fun q => ⟨((hJ.2.1.1.1) (rl q)).1, by have := ((hJ.2.1.1.1) (rl q)).2.1; simpa using this, ((hJ.2.1.1.1) (rl q)).2.2⟩, ⟨fun _ n => absurd (.inl rfl) n, fun _ => by simpa using Blk.set_ (Blk.set_ (((hJ.2.1.1.2.1) p7 hn)) 0 (.int .i64 (Wi.Hq (mhi)))) 1 (.int .u64 (Wi.Lr (mhi)))⟩⟩, ⟨fun _ => .inr p7, ⟨fun q r => (hJ.2.1.2.2.1) (rl q) (rl r), fun q => (hJ.2.1.2.2.2) (rl q)⟩⟩⟩, ⟨⟨fun q => (hJ.2.2.1.1) (rl q), ⟨fun q => (hJ.2.2.1.2.1) (rl q), fun q => (hJ.2.2.1.2.2) (rl q)⟩⟩, ⟨⟨fun q => (hJ.2.2.2.1.1) (rl q), fun _ => by first | exact rfl | exact e5⟩, ⟨fun q => (hJ.2.2.2.2.1) (rl q), fun _ => by first | exact rfl | exact e7⟩⟩⟩⟩⟩
    exact StepsOk.nil
  case fin =>
    intro L x G w4 hall hJ
    replace X := (hJ.1.1.1.2.2)
    replace Y := (hJ.1.1.2.2.1)
    replace A := (hJ.1.2.1.1)
    replace C := (hJ.1.2.1.2.2)
    obtain ⟨haLO, hlLO, hnLOX, hnLOY, hnLOA, hnLOC⟩ := (hJ.1.2.2.1.1) (hall 6 (by decide))
    have LO := (hJ.1.2.2.2.1) (hall 8 (by decide))
    obtain ⟨haHI, hlHI, hnHIX, hnHIY, hnHIA, hnHIC⟩ := (hJ.2.1.1.1) (hall 7 (by decide))
    have HI := (hJ.2.1.1.2.2) (hall 9 (by decide))
    have n_dHILO := (hJ.2.1.2.2.1) (hall 7 (by decide)) (hall 6 (by decide))
    have u0 := hJ.2.1.2.2.2 (hall 0 (by decide))
    have u1 := hJ.2.2.1.1 (hall 1 (by decide))
    have u2 := hJ.2.2.1.2.1 (hall 2 (by decide))
    have u3 := hJ.2.2.1.2.2 (hall 3 (by decide))
    have u4 := hJ.2.2.2.1.1 (hall 4 (by decide))
    have u5 := hJ.2.2.2.1.2 (hall 5 (by decide))
    have u6 := hJ.2.2.2.2.1 (hall 6 (by decide))
    have u7 := hJ.2.2.2.2.2 (hall 7 (by decide))
    replace hB := hJ.1.1.1.1
    simp only [putAll, Act.put, List.setIfInBounds_toArray, List.set_cons_zero, List.set_cons_succ]
    simp only [u0, u1, u2, u3, u4, u5, u6, u7]
    clear hall hJ u0 u1 u2 u3 u4 u5 u6 u7
    generalize G 6 = gLO at *
    generalize G 7 = gHI at *
    go_wp2_with fail
    refine wp_region_inv (fun L x G wx => (((((Below w.heap.size w wx
          ∧ (w.heap.size < wx.heap.size
          ∧ Blk wx (w.heap.size) 23 #[.int .i64 (l), .int .i64 (h)]))
          ∧ ((w.heap.size + 1 < wx.heap.size
          ∧ Blk wx (w.heap.size + 1) 23 #[.int .i64 (l'), .int .i64 (h')])
          ∧ (w2.heap.size < wx.heap.size
          ∧ Blk wx (w2.heap.size) 23 #[.int .i64 (Iv.add l h l' h').lo, .int .i64 (Iv.add l h l' h').hi])))
          ∧ ((w3.heap.size < wx.heap.size
          ∧ (Blk wx (w3.heap.size) 23 #[.int .i64 mlo, .int .i64 mhi]
          ∧ gLO < wx.heap.size))
          ∧ ((Blk wx (gLO) 40 #[.int .i64 (Wi.Hq (mlo)), .int .u64 (Wi.Lr (mlo))]
          ∧ gHI < wx.heap.size)
          ∧ (Blk wx (gHI) 40 #[.int .i64 (Wi.Hq (mhi)), .int .u64 (Wi.Lr (mhi))]
          ∧ (L 20 → w.heap.size ≤ G 20 ∧ G 20 < wx.heap.size ∧ w.heap.size ≠ G 20 ∧ w.heap.size + 1 ≠ G 20 ∧ w2.heap.size ≠ G 20 ∧ w3.heap.size ≠ G 20 ∧ gLO ≠ G 20 ∧ gHI ≠ G 20)))))
          ∧ ((((L 20 → ¬ L 24 → Blk wx (G 20) 40 #[.int .i64 (0), .int .u64 (0)])
          ∧ ((L 24 → Blk wx (G 20) 40 #[.int .i64 (Wi.Hq (l * l')), .int .u64 (Wi.Lr (l * l'))])
          ∧ (L 24 → L 20)))
          ∧ (((L 21 → w.heap.size ≤ G 21 ∧ G 21 < wx.heap.size ∧ w.heap.size ≠ G 21 ∧ w.heap.size + 1 ≠ G 21 ∧ w2.heap.size ≠ G 21 ∧ w3.heap.size ≠ G 21 ∧ gLO ≠ G 21 ∧ gHI ≠ G 21)
          ∧ (L 21 → ¬ L 25 → Blk wx (G 21) 40 #[.int .i64 (0), .int .u64 (0)]))
          ∧ ((L 25 → Blk wx (G 21) 40 #[.int .i64 (Wi.Hq (l * h')), .int .u64 (Wi.Lr (l * h'))])
          ∧ (L 25 → L 21))))
          ∧ ((((L 22 → w.heap.size ≤ G 22 ∧ G 22 < wx.heap.size ∧ w.heap.size ≠ G 22 ∧ w.heap.size + 1 ≠ G 22 ∧ w2.heap.size ≠ G 22 ∧ w3.heap.size ≠ G 22 ∧ gLO ≠ G 22 ∧ gHI ≠ G 22)
          ∧ (L 22 → ¬ L 26 → Blk wx (G 22) 40 #[.int .i64 (0), .int .u64 (0)]))
          ∧ ((L 26 → Blk wx (G 22) 40 #[.int .i64 (Wi.Hq (h * l')), .int .u64 (Wi.Lr (h * l'))])
          ∧ (L 26 → L 22)))
          ∧ (((L 23 → w.heap.size ≤ G 23 ∧ G 23 < wx.heap.size ∧ w.heap.size ≠ G 23 ∧ w.heap.size + 1 ≠ G 23 ∧ w2.heap.size ≠ G 23 ∧ w3.heap.size ≠ G 23 ∧ gLO ≠ G 23 ∧ gHI ≠ G 23)
          ∧ (L 23 → ¬ L 27 → Blk wx (G 23) 40 #[.int .i64 (0), .int .u64 (0)]))
          ∧ ((L 27 → Blk wx (G 23) 40 #[.int .i64 (Wi.Hq (h * h')), .int .u64 (Wi.Lr (h * h'))])
          ∧ (L 27 → L 23))))))
          ∧ (((((L 21 → L 20 → G 21 ≠ G 20)
          ∧ ((L 22 → L 20 → G 22 ≠ G 20)
          ∧ (L 22 → L 21 → G 22 ≠ G 21)))
          ∧ (((L 23 → L 20 → G 23 ≠ G 20)
          ∧ (L 23 → L 21 → G 23 ≠ G 21))
          ∧ ((L 23 → L 22 → G 23 ≠ G 22)
          ∧ (L 0 → x 65 = .pointer (some ⟨w.heap.size, 0, none⟩)))))
          ∧ ((((L 1 → x 66 = .int .i64 (l))
          ∧ (L 2 → x 67 = .pointer (some ⟨w.heap.size + 1, 0, none⟩)))
          ∧ ((L 3 → x 68 = .int .i64 (l'))
          ∧ (L 4 → x 69 = .agg #[.int .i64 (Wi.Hq (l * l')), .int .u64 (Wi.Lr (l * l'))])))
          ∧ (((L 5 → x 70 = .pointer (some ⟨w.heap.size, 0, none⟩))
          ∧ (L 6 → x 71 = .int .i64 (l)))
          ∧ ((L 7 → x 72 = .pointer (some ⟨w.heap.size + 1, 1, none⟩))
          ∧ (L 8 → x 73 = .int .i64 (h'))))))
          ∧ ((((L 9 → x 74 = .agg #[.int .i64 (Wi.Hq (l * h')), .int .u64 (Wi.Lr (l * h'))])
          ∧ ((L 10 → x 75 = .pointer (some ⟨w.heap.size, 1, none⟩))
          ∧ (L 11 → x 76 = .int .i64 (h))))
          ∧ (((L 12 → x 77 = .pointer (some ⟨w.heap.size + 1, 0, none⟩))
          ∧ (L 13 → x 78 = .int .i64 (l')))
          ∧ ((L 14 → x 79 = .agg #[.int .i64 (Wi.Hq (h * l')), .int .u64 (Wi.Lr (h * l'))])
          ∧ (L 15 → x 80 = .pointer (some ⟨w.heap.size, 1, none⟩)))))
          ∧ ((((L 16 → x 81 = .int .i64 (h))
          ∧ (L 17 → x 82 = .pointer (some ⟨w.heap.size + 1, 1, none⟩)))
          ∧ ((L 18 → x 83 = .int .i64 (h'))
          ∧ (L 19 → x 84 = .agg #[.int .i64 (Wi.Hq (h * h')), .int .u64 (Wi.Lr (h * h'))])))
          ∧ (((L 20 → x 11 = .pointer (some ⟨G 20, 0, none⟩))
          ∧ (L 21 → x 12 = .pointer (some ⟨G 21, 0, none⟩)))
          ∧ ((L 22 → x 13 = .pointer (some ⟨G 22, 0, none⟩))
          ∧ (L 23 → x 14 = .pointer (some ⟨G 23, 0, none⟩))))))))) [65, 66, 67, 68, 69, 70, 71, 72, 73, 74, 75, 76, 77, 78, 79, 80, 81, 82, 83, 84, 11, 12, 13, 14] 28 (by kernel_rfl) (by kernel_rfl) (by kernel_rfl) ?h0 ?st ?fin
    case h0 =>
      exact ⟨⟨⟨⟨⟨bdr hB, ⟨Blk.lt X.drew, X.drew⟩⟩, ⟨⟨Blk.lt Y.drew, Y.drew⟩, ⟨Blk.lt A.drew, A.drew⟩⟩⟩, ⟨⟨Blk.lt C.drew, ⟨C.drew, Blk.lt LO.drew⟩⟩, ⟨⟨LO.drew, Blk.lt HI.drew⟩, ⟨HI.drew, fun q => q.elim⟩⟩⟩⟩, ⟨⟨⟨fun q => q.elim, ⟨fun q => q.elim, fun q => q.elim⟩⟩, ⟨⟨fun q => q.elim, fun q => q.elim⟩, ⟨fun q => q.elim, fun q => q.elim⟩⟩⟩, ⟨⟨⟨fun q => q.elim, fun q => q.elim⟩, ⟨fun q => q.elim, fun q => q.elim⟩⟩, ⟨⟨fun q => q.elim, fun q => q.elim⟩, ⟨fun q => q.elim, fun q => q.elim⟩⟩⟩⟩⟩, ⟨⟨⟨⟨fun q _ => q.elim, ⟨fun q _ => q.elim, fun q _ => q.elim⟩⟩, ⟨⟨fun q _ => q.elim, fun q _ => q.elim⟩, ⟨fun q _ => q.elim, fun q => q.elim⟩⟩⟩, ⟨⟨⟨fun q => q.elim, fun q => q.elim⟩, ⟨fun q => q.elim, fun q => q.elim⟩⟩, ⟨⟨fun q => q.elim, fun q => q.elim⟩, ⟨fun q => q.elim, fun q => q.elim⟩⟩⟩⟩, ⟨⟨⟨fun q => q.elim, ⟨fun q => q.elim, fun q => q.elim⟩⟩, ⟨⟨fun q => q.elim, fun q => q.elim⟩, ⟨fun q => q.elim, fun q => q.elim⟩⟩⟩, ⟨⟨⟨fun q => q.elim, fun q => q.elim⟩, ⟨fun q => q.elim, fun q => q.elim⟩⟩, ⟨⟨fun q => q.elim, fun q => q.elim⟩, ⟨fun q => q.elim, fun q => q.elim⟩⟩⟩⟩⟩⟩
    case st =>
      refine StepsOk.cons (i := 0) rfl (fun L x G w1 K Q hn hp hJ hK => ?_) ?_
      · skip
        simp only [putAll, Act.put, List.setIfInBounds_toArray, List.set_cons_zero, List.set_cons_succ]
        go_simp
        refine hK _ G _ (by kernel_rfl) ?_
        exact ⟨⟨⟨⟨⟨(hJ.1.1.1.1.1), ⟨(hJ.1.1.1.1.2.1), (hJ.1.1.1.1.2.2)⟩⟩, ⟨⟨(hJ.1.1.1.2.1.1), (hJ.1.1.1.2.1.2)⟩, ⟨(hJ.1.1.1.2.2.1), (hJ.1.1.1.2.2.2)⟩⟩⟩, ⟨⟨(hJ.1.1.2.1.1), ⟨(hJ.1.1.2.1.2.1), (hJ.1.1.2.1.2.2)⟩⟩, ⟨⟨(hJ.1.1.2.2.1.1), (hJ.1.1.2.2.1.2)⟩, ⟨(hJ.1.1.2.2.2.1), fun q => (hJ.1.1.2.2.2.2) (rl q)⟩⟩⟩⟩, ⟨⟨⟨fun q n => (hJ.1.2.1.1.1) (rl q) (fun m => n (.inr m)), ⟨fun q => (hJ.1.2.1.1.2.1) (rl q), fun q => .inr ((hJ.1.2.1.1.2.2) (rl q))⟩⟩, ⟨⟨fun q => (hJ.1.2.1.2.1.1) (rl q), fun q n => (hJ.1.2.1.2.1.2) (rl q) (fun m => n (.inr m))⟩, ⟨fun q => (hJ.1.2.1.2.2.1) (rl q), fun q => .inr ((hJ.1.2.1.2.2.2) (rl q))⟩⟩⟩, ⟨⟨⟨fun q => (hJ.1.2.2.1.1.1) (rl q), fun q n => (hJ.1.2.2.1.1.2) (rl q) (fun m => n (.inr m))⟩, ⟨fun q => (hJ.1.2.2.1.2.1) (rl q), fun q => .inr ((hJ.1.2.2.1.2.2) (rl q))⟩⟩, ⟨⟨fun q => (hJ.1.2.2.2.1.1) (rl q), fun q n => (hJ.1.2.2.2.1.2) (rl q) (fun m => n (.inr m))⟩, ⟨fun q => (hJ.1.2.2.2.2.1) (rl q), fun q => .inr ((hJ.1.2.2.2.2.2) (rl q))⟩⟩⟩⟩⟩, ⟨⟨⟨⟨fun q r => (hJ.2.1.1.1.1) (rl q) (rl r), ⟨fun q r => (hJ.2.1.1.1.2.1) (rl q) (rl r), fun q r => (hJ.2.1.1.1.2.2) (rl q) (rl r)⟩⟩, ⟨⟨fun q r => (hJ.2.1.1.2.1.1) (rl q) (rl r), fun q r => (hJ.2.1.1.2.1.2) (rl q) (rl r)⟩, ⟨fun q r => (hJ.2.1.1.2.2.1) (rl q) (rl r), fun _ => rfl⟩⟩⟩, ⟨⟨⟨fun q => (hJ.2.1.2.1.1.1) (rl q), fun q => (hJ.2.1.2.1.1.2) (rl q)⟩, ⟨fun q => (hJ.2.1.2.1.2.1) (rl q), fun q => (hJ.2.1.2.1.2.2) (rl q)⟩⟩, ⟨⟨fun q => (hJ.2.1.2.2.1.1) (rl q), fun q => (hJ.2.1.2.2.1.2) (rl q)⟩, ⟨fun q => (hJ.2.1.2.2.2.1) (rl q), fun q => (hJ.2.1.2.2.2.2) (rl q)⟩⟩⟩⟩, ⟨⟨⟨fun q => (hJ.2.2.1.1.1) (rl q), ⟨fun q => (hJ.2.2.1.1.2.1) (rl q), fun q => (hJ.2.2.1.1.2.2) (rl q)⟩⟩, ⟨⟨fun q => (hJ.2.2.1.2.1.1) (rl q), fun q => (hJ.2.2.1.2.1.2) (rl q)⟩, ⟨fun q => (hJ.2.2.1.2.2.1) (rl q), fun q => (hJ.2.2.1.2.2.2) (rl q)⟩⟩⟩, ⟨⟨⟨fun q => (hJ.2.2.2.1.1.1) (rl q), fun q => (hJ.2.2.2.1.1.2) (rl q)⟩, ⟨fun q => (hJ.2.2.2.1.2.1) (rl q), fun q => (hJ.2.2.2.1.2.2) (rl q)⟩⟩, ⟨⟨fun q => (hJ.2.2.2.2.1.1) (rl q), fun q => (hJ.2.2.2.2.1.2) (rl q)⟩, ⟨fun q => (hJ.2.2.2.2.2.1) (rl q), fun q => (hJ.2.2.2.2.2.2) (rl q)⟩⟩⟩⟩⟩⟩
      refine StepsOk.cons (i := 1) rfl (fun L x G w1 K Q hn hp hJ hK => ?_) ?_
      · skip
        have p0 : L 0 := hp ⟨0, .data⟩ (by simp) rfl
        have e0 := (hJ.2.1.1.2.2.2) p0
        have hc := Blk.open2 ((hJ.1.1.1.1.2.2))
        have c0 := hc.1
        have c1 := hc.2.1
        have c2 := hc.2.2.1
        have c3 := hc.2.2.2
        clear hc
        simp only [putAll, Act.put, List.setIfInBounds_toArray, List.set_cons_zero, List.set_cons_succ]
        go_simp
        refine hK _ G _ (by kernel_rfl) ?_
        exact ⟨⟨⟨⟨⟨(hJ.1.1.1.1.1), ⟨(hJ.1.1.1.1.2.1), (hJ.1.1.1.1.2.2)⟩⟩, ⟨⟨(hJ.1.1.1.2.1.1), (hJ.1.1.1.2.1.2)⟩, ⟨(hJ.1.1.1.2.2.1), (hJ.1.1.1.2.2.2)⟩⟩⟩, ⟨⟨(hJ.1.1.2.1.1), ⟨(hJ.1.1.2.1.2.1), (hJ.1.1.2.1.2.2)⟩⟩, ⟨⟨(hJ.1.1.2.2.1.1), (hJ.1.1.2.2.1.2)⟩, ⟨(hJ.1.1.2.2.2.1), fun q => (hJ.1.1.2.2.2.2) (rl q)⟩⟩⟩⟩, ⟨⟨⟨fun q n => (hJ.1.2.1.1.1) (rl q) (fun m => n (.inr m)), ⟨fun q => (hJ.1.2.1.1.2.1) (rl q), fun q => .inr ((hJ.1.2.1.1.2.2) (rl q))⟩⟩, ⟨⟨fun q => (hJ.1.2.1.2.1.1) (rl q), fun q n => (hJ.1.2.1.2.1.2) (rl q) (fun m => n (.inr m))⟩, ⟨fun q => (hJ.1.2.1.2.2.1) (rl q), fun q => .inr ((hJ.1.2.1.2.2.2) (rl q))⟩⟩⟩, ⟨⟨⟨fun q => (hJ.1.2.2.1.1.1) (rl q), fun q n => (hJ.1.2.2.1.1.2) (rl q) (fun m => n (.inr m))⟩, ⟨fun q => (hJ.1.2.2.1.2.1) (rl q), fun q => .inr ((hJ.1.2.2.1.2.2) (rl q))⟩⟩, ⟨⟨fun q => (hJ.1.2.2.2.1.1) (rl q), fun q n => (hJ.1.2.2.2.1.2) (rl q) (fun m => n (.inr m))⟩, ⟨fun q => (hJ.1.2.2.2.2.1) (rl q), fun q => .inr ((hJ.1.2.2.2.2.2) (rl q))⟩⟩⟩⟩⟩, ⟨⟨⟨⟨fun q r => (hJ.2.1.1.1.1) (rl q) (rl r), ⟨fun q r => (hJ.2.1.1.1.2.1) (rl q) (rl r), fun q r => (hJ.2.1.1.1.2.2) (rl q) (rl r)⟩⟩, ⟨⟨fun q r => (hJ.2.1.1.2.1.1) (rl q) (rl r), fun q r => (hJ.2.1.1.2.1.2) (rl q) (rl r)⟩, ⟨fun q r => (hJ.2.1.1.2.2.1) (rl q) (rl r), fun _ => by first | exact rfl | exact e0⟩⟩⟩, ⟨⟨⟨fun _ => rfl, fun q => (hJ.2.1.2.1.1.2) (rl q)⟩, ⟨fun q => (hJ.2.1.2.1.2.1) (rl q), fun q => (hJ.2.1.2.1.2.2) (rl q)⟩⟩, ⟨⟨fun q => (hJ.2.1.2.2.1.1) (rl q), fun q => (hJ.2.1.2.2.1.2) (rl q)⟩, ⟨fun q => (hJ.2.1.2.2.2.1) (rl q), fun q => (hJ.2.1.2.2.2.2) (rl q)⟩⟩⟩⟩, ⟨⟨⟨fun q => (hJ.2.2.1.1.1) (rl q), ⟨fun q => (hJ.2.2.1.1.2.1) (rl q), fun q => (hJ.2.2.1.1.2.2) (rl q)⟩⟩, ⟨⟨fun q => (hJ.2.2.1.2.1.1) (rl q), fun q => (hJ.2.2.1.2.1.2) (rl q)⟩, ⟨fun q => (hJ.2.2.1.2.2.1) (rl q), fun q => (hJ.2.2.1.2.2.2) (rl q)⟩⟩⟩, ⟨⟨⟨fun q => (hJ.2.2.2.1.1.1) (rl q), fun q => (hJ.2.2.2.1.1.2) (rl q)⟩, ⟨fun q => (hJ.2.2.2.1.2.1) (rl q), fun q => (hJ.2.2.2.1.2.2) (rl q)⟩⟩, ⟨⟨fun q => (hJ.2.2.2.2.1.1) (rl q), fun q => (hJ.2.2.2.2.1.2) (rl q)⟩, ⟨fun q => (hJ.2.2.2.2.2.1) (rl q), fun q => (hJ.2.2.2.2.2.2) (rl q)⟩⟩⟩⟩⟩⟩
      refine StepsOk.cons (i := 2) rfl (fun L x G w1 K Q hn hp hJ hK => ?_) ?_
      · skip
        simp only [putAll, Act.put, List.setIfInBounds_toArray, List.set_cons_zero, List.set_cons_succ]
        go_simp
        refine hK _ G _ (by kernel_rfl) ?_
        exact ⟨⟨⟨⟨⟨(hJ.1.1.1.1.1), ⟨(hJ.1.1.1.1.2.1), (hJ.1.1.1.1.2.2)⟩⟩, ⟨⟨(hJ.1.1.1.2.1.1), (hJ.1.1.1.2.1.2)⟩, ⟨(hJ.1.1.1.2.2.1), (hJ.1.1.1.2.2.2)⟩⟩⟩, ⟨⟨(hJ.1.1.2.1.1), ⟨(hJ.1.1.2.1.2.1), (hJ.1.1.2.1.2.2)⟩⟩, ⟨⟨(hJ.1.1.2.2.1.1), (hJ.1.1.2.2.1.2)⟩, ⟨(hJ.1.1.2.2.2.1), fun q => (hJ.1.1.2.2.2.2) (rl q)⟩⟩⟩⟩, ⟨⟨⟨fun q n => (hJ.1.2.1.1.1) (rl q) (fun m => n (.inr m)), ⟨fun q => (hJ.1.2.1.1.2.1) (rl q), fun q => .inr ((hJ.1.2.1.1.2.2) (rl q))⟩⟩, ⟨⟨fun q => (hJ.1.2.1.2.1.1) (rl q), fun q n => (hJ.1.2.1.2.1.2) (rl q) (fun m => n (.inr m))⟩, ⟨fun q => (hJ.1.2.1.2.2.1) (rl q), fun q => .inr ((hJ.1.2.1.2.2.2) (rl q))⟩⟩⟩, ⟨⟨⟨fun q => (hJ.1.2.2.1.1.1) (rl q), fun q n => (hJ.1.2.2.1.1.2) (rl q) (fun m => n (.inr m))⟩, ⟨fun q => (hJ.1.2.2.1.2.1) (rl q), fun q => .inr ((hJ.1.2.2.1.2.2) (rl q))⟩⟩, ⟨⟨fun q => (hJ.1.2.2.2.1.1) (rl q), fun q n => (hJ.1.2.2.2.1.2) (rl q) (fun m => n (.inr m))⟩, ⟨fun q => (hJ.1.2.2.2.2.1) (rl q), fun q => .inr ((hJ.1.2.2.2.2.2) (rl q))⟩⟩⟩⟩⟩, ⟨⟨⟨⟨fun q r => (hJ.2.1.1.1.1) (rl q) (rl r), ⟨fun q r => (hJ.2.1.1.1.2.1) (rl q) (rl r), fun q r => (hJ.2.1.1.1.2.2) (rl q) (rl r)⟩⟩, ⟨⟨fun q r => (hJ.2.1.1.2.1.1) (rl q) (rl r), fun q r => (hJ.2.1.1.2.1.2) (rl q) (rl r)⟩, ⟨fun q r => (hJ.2.1.1.2.2.1) (rl q) (rl r), fun q => (hJ.2.1.1.2.2.2) (rl q)⟩⟩⟩, ⟨⟨⟨fun q => (hJ.2.1.2.1.1.1) (rl q), fun _ => rfl⟩, ⟨fun q => (hJ.2.1.2.1.2.1) (rl q), fun q => (hJ.2.1.2.1.2.2) (rl q)⟩⟩, ⟨⟨fun q => (hJ.2.1.2.2.1.1) (rl q), fun q => (hJ.2.1.2.2.1.2) (rl q)⟩, ⟨fun q => (hJ.2.1.2.2.2.1) (rl q), fun q => (hJ.2.1.2.2.2.2) (rl q)⟩⟩⟩⟩, ⟨⟨⟨fun q => (hJ.2.2.1.1.1) (rl q), ⟨fun q => (hJ.2.2.1.1.2.1) (rl q), fun q => (hJ.2.2.1.1.2.2) (rl q)⟩⟩, ⟨⟨fun q => (hJ.2.2.1.2.1.1) (rl q), fun q => (hJ.2.2.1.2.1.2) (rl q)⟩, ⟨fun q => (hJ.2.2.1.2.2.1) (rl q), fun q => (hJ.2.2.1.2.2.2) (rl q)⟩⟩⟩, ⟨⟨⟨fun q => (hJ.2.2.2.1.1.1) (rl q), fun q => (hJ.2.2.2.1.1.2) (rl q)⟩, ⟨fun q => (hJ.2.2.2.1.2.1) (rl q), fun q => (hJ.2.2.2.1.2.2) (rl q)⟩⟩, ⟨⟨fun q => (hJ.2.2.2.2.1.1) (rl q), fun q => (hJ.2.2.2.2.1.2) (rl q)⟩, ⟨fun q => (hJ.2.2.2.2.2.1) (rl q), fun q => (hJ.2.2.2.2.2.2) (rl q)⟩⟩⟩⟩⟩⟩
      refine StepsOk.cons (i := 3) rfl (fun L x G w1 K Q hn hp hJ hK => ?_) ?_
      · skip
        have p2 : L 2 := hp ⟨2, .data⟩ (by simp) rfl
        have e2 := (hJ.2.1.2.1.1.2) p2
        have hc := Blk.open2 ((hJ.1.1.1.2.1.2))
        have c0 := hc.1
        have c1 := hc.2.1
        have c2 := hc.2.2.1
        have c3 := hc.2.2.2
        clear hc
        simp only [putAll, Act.put, List.setIfInBounds_toArray, List.set_cons_zero, List.set_cons_succ]
        go_simp
        refine hK _ G _ (by kernel_rfl) ?_
        exact ⟨⟨⟨⟨⟨(hJ.1.1.1.1.1), ⟨(hJ.1.1.1.1.2.1), (hJ.1.1.1.1.2.2)⟩⟩, ⟨⟨(hJ.1.1.1.2.1.1), (hJ.1.1.1.2.1.2)⟩, ⟨(hJ.1.1.1.2.2.1), (hJ.1.1.1.2.2.2)⟩⟩⟩, ⟨⟨(hJ.1.1.2.1.1), ⟨(hJ.1.1.2.1.2.1), (hJ.1.1.2.1.2.2)⟩⟩, ⟨⟨(hJ.1.1.2.2.1.1), (hJ.1.1.2.2.1.2)⟩, ⟨(hJ.1.1.2.2.2.1), fun q => (hJ.1.1.2.2.2.2) (rl q)⟩⟩⟩⟩, ⟨⟨⟨fun q n => (hJ.1.2.1.1.1) (rl q) (fun m => n (.inr m)), ⟨fun q => (hJ.1.2.1.1.2.1) (rl q), fun q => .inr ((hJ.1.2.1.1.2.2) (rl q))⟩⟩, ⟨⟨fun q => (hJ.1.2.1.2.1.1) (rl q), fun q n => (hJ.1.2.1.2.1.2) (rl q) (fun m => n (.inr m))⟩, ⟨fun q => (hJ.1.2.1.2.2.1) (rl q), fun q => .inr ((hJ.1.2.1.2.2.2) (rl q))⟩⟩⟩, ⟨⟨⟨fun q => (hJ.1.2.2.1.1.1) (rl q), fun q n => (hJ.1.2.2.1.1.2) (rl q) (fun m => n (.inr m))⟩, ⟨fun q => (hJ.1.2.2.1.2.1) (rl q), fun q => .inr ((hJ.1.2.2.1.2.2) (rl q))⟩⟩, ⟨⟨fun q => (hJ.1.2.2.2.1.1) (rl q), fun q n => (hJ.1.2.2.2.1.2) (rl q) (fun m => n (.inr m))⟩, ⟨fun q => (hJ.1.2.2.2.2.1) (rl q), fun q => .inr ((hJ.1.2.2.2.2.2) (rl q))⟩⟩⟩⟩⟩, ⟨⟨⟨⟨fun q r => (hJ.2.1.1.1.1) (rl q) (rl r), ⟨fun q r => (hJ.2.1.1.1.2.1) (rl q) (rl r), fun q r => (hJ.2.1.1.1.2.2) (rl q) (rl r)⟩⟩, ⟨⟨fun q r => (hJ.2.1.1.2.1.1) (rl q) (rl r), fun q r => (hJ.2.1.1.2.1.2) (rl q) (rl r)⟩, ⟨fun q r => (hJ.2.1.1.2.2.1) (rl q) (rl r), fun q => (hJ.2.1.1.2.2.2) (rl q)⟩⟩⟩, ⟨⟨⟨fun q => (hJ.2.1.2.1.1.1) (rl q), fun _ => by first | exact rfl | exact e2⟩, ⟨fun _ => rfl, fun q => (hJ.2.1.2.1.2.2) (rl q)⟩⟩, ⟨⟨fun q => (hJ.2.1.2.2.1.1) (rl q), fun q => (hJ.2.1.2.2.1.2) (rl q)⟩, ⟨fun q => (hJ.2.1.2.2.2.1) (rl q), fun q => (hJ.2.1.2.2.2.2) (rl q)⟩⟩⟩⟩, ⟨⟨⟨fun q => (hJ.2.2.1.1.1) (rl q), ⟨fun q => (hJ.2.2.1.1.2.1) (rl q), fun q => (hJ.2.2.1.1.2.2) (rl q)⟩⟩, ⟨⟨fun q => (hJ.2.2.1.2.1.1) (rl q), fun q => (hJ.2.2.1.2.1.2) (rl q)⟩, ⟨fun q => (hJ.2.2.1.2.2.1) (rl q), fun q => (hJ.2.2.1.2.2.2) (rl q)⟩⟩⟩, ⟨⟨⟨fun q => (hJ.2.2.2.1.1.1) (rl q), fun q => (hJ.2.2.2.1.1.2) (rl q)⟩, ⟨fun q => (hJ.2.2.2.1.2.1) (rl q), fun q => (hJ.2.2.2.1.2.2) (rl q)⟩⟩, ⟨⟨fun q => (hJ.2.2.2.2.1.1) (rl q), fun q => (hJ.2.2.2.2.1.2) (rl q)⟩, ⟨fun q => (hJ.2.2.2.2.2.1) (rl q), fun q => (hJ.2.2.2.2.2.2) (rl q)⟩⟩⟩⟩⟩⟩
      refine StepsOk.cons (i := 4) rfl (fun L x G w1 K Q hn hp hJ hK => ?_) ?_
      · skip
        have p1 : L 1 := hp ⟨1, .data⟩ (by simp) rfl
        have e1 := (hJ.2.1.2.1.1.1) p1
        have p3 : L 3 := hp ⟨3, .data⟩ (by simp) rfl
        have e3 := (hJ.2.1.2.1.2.1) p3
        simp only [putAll, Act.put, List.setIfInBounds_toArray, List.set_cons_zero, List.set_cons_succ]
        go_simp
        refine (mul_c _ _ _ b1 b2 d1 d2).mono ?_
        rintro e w2 ⟨rfl, hb⟩
        have hz := hb.size
        try go_simp
        refine hK _ G _ (by kernel_rfl) ?_
        exact ⟨⟨⟨⟨⟨bt (hJ.1.1.1.1.1) hb, ⟨Nat.lt_of_lt_of_le (hJ.1.1.1.1.2.1) hb.size, Blk.keep ((hJ.1.1.1.1.2.2)) hb⟩⟩, ⟨⟨Nat.lt_of_lt_of_le (hJ.1.1.1.2.1.1) hb.size, Blk.keep ((hJ.1.1.1.2.1.2)) hb⟩, ⟨Nat.lt_of_lt_of_le (hJ.1.1.1.2.2.1) hb.size, Blk.keep ((hJ.1.1.1.2.2.2)) hb⟩⟩⟩, ⟨⟨Nat.lt_of_lt_of_le (hJ.1.1.2.1.1) hb.size, ⟨Blk.keep ((hJ.1.1.2.1.2.1)) hb, Nat.lt_of_lt_of_le (hJ.1.1.2.1.2.2) hb.size⟩⟩, ⟨⟨Blk.keep ((hJ.1.1.2.2.1.1)) hb, Nat.lt_of_lt_of_le (hJ.1.1.2.2.1.2) hb.size⟩, ⟨Blk.keep ((hJ.1.1.2.2.2.1)) hb, fun q => ⟨((hJ.1.1.2.2.2.2) (rl q)).1, by have := ((hJ.1.1.2.2.2.2) (rl q)).2.1; omega, ((hJ.1.1.2.2.2.2) (rl q)).2.2⟩⟩⟩⟩⟩, ⟨⟨⟨fun q n => Blk.keep ((hJ.1.2.1.1.1) (rl q) (fun m => n (.inr m))) hb, ⟨fun q => Blk.keep ((hJ.1.2.1.1.2.1) (rl q)) hb, fun q => .inr ((hJ.1.2.1.1.2.2) (rl q))⟩⟩, ⟨⟨fun q => ⟨((hJ.1.2.1.2.1.1) (rl q)).1, by have := ((hJ.1.2.1.2.1.1) (rl q)).2.1; omega, ((hJ.1.2.1.2.1.1) (rl q)).2.2⟩, fun q n => Blk.keep ((hJ.1.2.1.2.1.2) (rl q) (fun m => n (.inr m))) hb⟩, ⟨fun q => Blk.keep ((hJ.1.2.1.2.2.1) (rl q)) hb, fun q => .inr ((hJ.1.2.1.2.2.2) (rl q))⟩⟩⟩, ⟨⟨⟨fun q => ⟨((hJ.1.2.2.1.1.1) (rl q)).1, by have := ((hJ.1.2.2.1.1.1) (rl q)).2.1; omega, ((hJ.1.2.2.1.1.1) (rl q)).2.2⟩, fun q n => Blk.keep ((hJ.1.2.2.1.1.2) (rl q) (fun m => n (.inr m))) hb⟩, ⟨fun q => Blk.keep ((hJ.1.2.2.1.2.1) (rl q)) hb, fun q => .inr ((hJ.1.2.2.1.2.2) (rl q))⟩⟩, ⟨⟨fun q => ⟨((hJ.1.2.2.2.1.1) (rl q)).1, by have := ((hJ.1.2.2.2.1.1) (rl q)).2.1; omega, ((hJ.1.2.2.2.1.1) (rl q)).2.2⟩, fun q n => Blk.keep ((hJ.1.2.2.2.1.2) (rl q) (fun m => n (.inr m))) hb⟩, ⟨fun q => Blk.keep ((hJ.1.2.2.2.2.1) (rl q)) hb, fun q => .inr ((hJ.1.2.2.2.2.2) (rl q))⟩⟩⟩⟩⟩, ⟨⟨⟨⟨fun q r => (hJ.2.1.1.1.1) (rl q) (rl r), ⟨fun q r => (hJ.2.1.1.1.2.1) (rl q) (rl r), fun q r => (hJ.2.1.1.1.2.2) (rl q) (rl r)⟩⟩, ⟨⟨fun q r => (hJ.2.1.1.2.1.1) (rl q) (rl r), fun q r => (hJ.2.1.1.2.1.2) (rl q) (rl r)⟩, ⟨fun q r => (hJ.2.1.1.2.2.1) (rl q) (rl r), fun q => (hJ.2.1.1.2.2.2) (rl q)⟩⟩⟩, ⟨⟨⟨fun _ => by first | exact rfl | exact e1, fun q => (hJ.2.1.2.1.1.2) (rl q)⟩, ⟨fun _ => by first | exact rfl | exact e3, fun _ => rfl⟩⟩, ⟨⟨fun q => (hJ.2.1.2.2.1.1) (rl q), fun q => (hJ.2.1.2.2.1.2) (rl q)⟩, ⟨fun q => (hJ.2.1.2.2.2.1) (rl q), fun q => (hJ.2.1.2.2.2.2) (rl q)⟩⟩⟩⟩, ⟨⟨⟨fun q => (hJ.2.2.1.1.1) (rl q), ⟨fun q => (hJ.2.2.1.1.2.1) (rl q), fun q => (hJ.2.2.1.1.2.2) (rl q)⟩⟩, ⟨⟨fun q => (hJ.2.2.1.2.1.1) (rl q), fun q => (hJ.2.2.1.2.1.2) (rl q)⟩, ⟨fun q => (hJ.2.2.1.2.2.1) (rl q), fun q => (hJ.2.2.1.2.2.2) (rl q)⟩⟩⟩, ⟨⟨⟨fun q => (hJ.2.2.2.1.1.1) (rl q), fun q => (hJ.2.2.2.1.1.2) (rl q)⟩, ⟨fun q => (hJ.2.2.2.1.2.1) (rl q), fun q => (hJ.2.2.2.1.2.2) (rl q)⟩⟩, ⟨⟨fun q => (hJ.2.2.2.2.1.1) (rl q), fun q => (hJ.2.2.2.2.1.2) (rl q)⟩, ⟨fun q => (hJ.2.2.2.2.2.1) (rl q), fun q => (hJ.2.2.2.2.2.2) (rl q)⟩⟩⟩⟩⟩⟩
      refine StepsOk.cons (i := 5) rfl (fun L x G w1 K Q hn hp hJ hK => ?_) ?_
      · skip
        simp only [putAll, Act.put, List.setIfInBounds_toArray, List.set_cons_zero, List.set_cons_succ]
        go_simp
        refine hK _ G _ (by kernel_rfl) ?_
        exact ⟨⟨⟨⟨⟨(hJ.1.1.1.1.1), ⟨(hJ.1.1.1.1.2.1), (hJ.1.1.1.1.2.2)⟩⟩, ⟨⟨(hJ.1.1.1.2.1.1), (hJ.1.1.1.2.1.2)⟩, ⟨(hJ.1.1.1.2.2.1), (hJ.1.1.1.2.2.2)⟩⟩⟩, ⟨⟨(hJ.1.1.2.1.1), ⟨(hJ.1.1.2.1.2.1), (hJ.1.1.2.1.2.2)⟩⟩, ⟨⟨(hJ.1.1.2.2.1.1), (hJ.1.1.2.2.1.2)⟩, ⟨(hJ.1.1.2.2.2.1), fun q => (hJ.1.1.2.2.2.2) (rl q)⟩⟩⟩⟩, ⟨⟨⟨fun q n => (hJ.1.2.1.1.1) (rl q) (fun m => n (.inr m)), ⟨fun q => (hJ.1.2.1.1.2.1) (rl q), fun q => .inr ((hJ.1.2.1.1.2.2) (rl q))⟩⟩, ⟨⟨fun q => (hJ.1.2.1.2.1.1) (rl q), fun q n => (hJ.1.2.1.2.1.2) (rl q) (fun m => n (.inr m))⟩, ⟨fun q => (hJ.1.2.1.2.2.1) (rl q), fun q => .inr ((hJ.1.2.1.2.2.2) (rl q))⟩⟩⟩, ⟨⟨⟨fun q => (hJ.1.2.2.1.1.1) (rl q), fun q n => (hJ.1.2.2.1.1.2) (rl q) (fun m => n (.inr m))⟩, ⟨fun q => (hJ.1.2.2.1.2.1) (rl q), fun q => .inr ((hJ.1.2.2.1.2.2) (rl q))⟩⟩, ⟨⟨fun q => (hJ.1.2.2.2.1.1) (rl q), fun q n => (hJ.1.2.2.2.1.2) (rl q) (fun m => n (.inr m))⟩, ⟨fun q => (hJ.1.2.2.2.2.1) (rl q), fun q => .inr ((hJ.1.2.2.2.2.2) (rl q))⟩⟩⟩⟩⟩, ⟨⟨⟨⟨fun q r => (hJ.2.1.1.1.1) (rl q) (rl r), ⟨fun q r => (hJ.2.1.1.1.2.1) (rl q) (rl r), fun q r => (hJ.2.1.1.1.2.2) (rl q) (rl r)⟩⟩, ⟨⟨fun q r => (hJ.2.1.1.2.1.1) (rl q) (rl r), fun q r => (hJ.2.1.1.2.1.2) (rl q) (rl r)⟩, ⟨fun q r => (hJ.2.1.1.2.2.1) (rl q) (rl r), fun q => (hJ.2.1.1.2.2.2) (rl q)⟩⟩⟩, ⟨⟨⟨fun q => (hJ.2.1.2.1.1.1) (rl q), fun q => (hJ.2.1.2.1.1.2) (rl q)⟩, ⟨fun q => (hJ.2.1.2.1.2.1) (rl q), fun q => (hJ.2.1.2.1.2.2) (rl q)⟩⟩, ⟨⟨fun _ => rfl, fun q => (hJ.2.1.2.2.1.2) (rl q)⟩, ⟨fun q => (hJ.2.1.2.2.2.1) (rl q), fun q => (hJ.2.1.2.2.2.2) (rl q)⟩⟩⟩⟩, ⟨⟨⟨fun q => (hJ.2.2.1.1.1) (rl q), ⟨fun q => (hJ.2.2.1.1.2.1) (rl q), fun q => (hJ.2.2.1.1.2.2) (rl q)⟩⟩, ⟨⟨fun q => (hJ.2.2.1.2.1.1) (rl q), fun q => (hJ.2.2.1.2.1.2) (rl q)⟩, ⟨fun q => (hJ.2.2.1.2.2.1) (rl q), fun q => (hJ.2.2.1.2.2.2) (rl q)⟩⟩⟩, ⟨⟨⟨fun q => (hJ.2.2.2.1.1.1) (rl q), fun q => (hJ.2.2.2.1.1.2) (rl q)⟩, ⟨fun q => (hJ.2.2.2.1.2.1) (rl q), fun q => (hJ.2.2.2.1.2.2) (rl q)⟩⟩, ⟨⟨fun q => (hJ.2.2.2.2.1.1) (rl q), fun q => (hJ.2.2.2.2.1.2) (rl q)⟩, ⟨fun q => (hJ.2.2.2.2.2.1) (rl q), fun q => (hJ.2.2.2.2.2.2) (rl q)⟩⟩⟩⟩⟩⟩
      refine StepsOk.cons (i := 6) rfl (fun L x G w1 K Q hn hp hJ hK => ?_) ?_
      · skip
        have p5 : L 5 := hp ⟨5, .data⟩ (by simp) rfl
        have e5 := (hJ.2.1.2.2.1.1) p5
        have hc := Blk.open2 ((hJ.1.1.1.1.2.2))
        have c0 := hc.1
        have c1 := hc.2.1
        have c2 := hc.2.2.1
        have c3 := hc.2.2.2
        clear hc
        simp only [putAll, Act.put, List.setIfInBounds_toArray, List.set_cons_zero, List.set_cons_succ]
        go_simp
        refine hK _ G _ (by kernel_rfl) ?_
        exact ⟨⟨⟨⟨⟨(hJ.1.1.1.1.1), ⟨(hJ.1.1.1.1.2.1), (hJ.1.1.1.1.2.2)⟩⟩, ⟨⟨(hJ.1.1.1.2.1.1), (hJ.1.1.1.2.1.2)⟩, ⟨(hJ.1.1.1.2.2.1), (hJ.1.1.1.2.2.2)⟩⟩⟩, ⟨⟨(hJ.1.1.2.1.1), ⟨(hJ.1.1.2.1.2.1), (hJ.1.1.2.1.2.2)⟩⟩, ⟨⟨(hJ.1.1.2.2.1.1), (hJ.1.1.2.2.1.2)⟩, ⟨(hJ.1.1.2.2.2.1), fun q => (hJ.1.1.2.2.2.2) (rl q)⟩⟩⟩⟩, ⟨⟨⟨fun q n => (hJ.1.2.1.1.1) (rl q) (fun m => n (.inr m)), ⟨fun q => (hJ.1.2.1.1.2.1) (rl q), fun q => .inr ((hJ.1.2.1.1.2.2) (rl q))⟩⟩, ⟨⟨fun q => (hJ.1.2.1.2.1.1) (rl q), fun q n => (hJ.1.2.1.2.1.2) (rl q) (fun m => n (.inr m))⟩, ⟨fun q => (hJ.1.2.1.2.2.1) (rl q), fun q => .inr ((hJ.1.2.1.2.2.2) (rl q))⟩⟩⟩, ⟨⟨⟨fun q => (hJ.1.2.2.1.1.1) (rl q), fun q n => (hJ.1.2.2.1.1.2) (rl q) (fun m => n (.inr m))⟩, ⟨fun q => (hJ.1.2.2.1.2.1) (rl q), fun q => .inr ((hJ.1.2.2.1.2.2) (rl q))⟩⟩, ⟨⟨fun q => (hJ.1.2.2.2.1.1) (rl q), fun q n => (hJ.1.2.2.2.1.2) (rl q) (fun m => n (.inr m))⟩, ⟨fun q => (hJ.1.2.2.2.2.1) (rl q), fun q => .inr ((hJ.1.2.2.2.2.2) (rl q))⟩⟩⟩⟩⟩, ⟨⟨⟨⟨fun q r => (hJ.2.1.1.1.1) (rl q) (rl r), ⟨fun q r => (hJ.2.1.1.1.2.1) (rl q) (rl r), fun q r => (hJ.2.1.1.1.2.2) (rl q) (rl r)⟩⟩, ⟨⟨fun q r => (hJ.2.1.1.2.1.1) (rl q) (rl r), fun q r => (hJ.2.1.1.2.1.2) (rl q) (rl r)⟩, ⟨fun q r => (hJ.2.1.1.2.2.1) (rl q) (rl r), fun q => (hJ.2.1.1.2.2.2) (rl q)⟩⟩⟩, ⟨⟨⟨fun q => (hJ.2.1.2.1.1.1) (rl q), fun q => (hJ.2.1.2.1.1.2) (rl q)⟩, ⟨fun q => (hJ.2.1.2.1.2.1) (rl q), fun q => (hJ.2.1.2.1.2.2) (rl q)⟩⟩, ⟨⟨fun _ => by first | exact rfl | exact e5, fun _ => rfl⟩, ⟨fun q => (hJ.2.1.2.2.2.1) (rl q), fun q => (hJ.2.1.2.2.2.2) (rl q)⟩⟩⟩⟩, ⟨⟨⟨fun q => (hJ.2.2.1.1.1) (rl q), ⟨fun q => (hJ.2.2.1.1.2.1) (rl q), fun q => (hJ.2.2.1.1.2.2) (rl q)⟩⟩, ⟨⟨fun q => (hJ.2.2.1.2.1.1) (rl q), fun q => (hJ.2.2.1.2.1.2) (rl q)⟩, ⟨fun q => (hJ.2.2.1.2.2.1) (rl q), fun q => (hJ.2.2.1.2.2.2) (rl q)⟩⟩⟩, ⟨⟨⟨fun q => (hJ.2.2.2.1.1.1) (rl q), fun q => (hJ.2.2.2.1.1.2) (rl q)⟩, ⟨fun q => (hJ.2.2.2.1.2.1) (rl q), fun q => (hJ.2.2.2.1.2.2) (rl q)⟩⟩, ⟨⟨fun q => (hJ.2.2.2.2.1.1) (rl q), fun q => (hJ.2.2.2.2.1.2) (rl q)⟩, ⟨fun q => (hJ.2.2.2.2.2.1) (rl q), fun q => (hJ.2.2.2.2.2.2) (rl q)⟩⟩⟩⟩⟩⟩
      refine StepsOk.cons (i := 7) rfl (fun L x G w1 K Q hn hp hJ hK => ?_) ?_
      · skip
        simp only [putAll, Act.put, List.setIfInBounds_toArray, List.set_cons_zero, List.set_cons_succ]
        go_simp
        refine hK _ G _ (by kernel_rfl) ?_
        exact ⟨⟨⟨⟨⟨(hJ.1.1.1.1.1), ⟨(hJ.1.1.1.1.2.1), (hJ.1.1.1.1.2.2)⟩⟩, ⟨⟨(hJ.1.1.1.2.1.1), (hJ.1.1.1.2.1.2)⟩, ⟨(hJ.1.1.1.2.2.1), (hJ.1.1.1.2.2.2)⟩⟩⟩, ⟨⟨(hJ.1.1.2.1.1), ⟨(hJ.1.1.2.1.2.1), (hJ.1.1.2.1.2.2)⟩⟩, ⟨⟨(hJ.1.1.2.2.1.1), (hJ.1.1.2.2.1.2)⟩, ⟨(hJ.1.1.2.2.2.1), fun q => (hJ.1.1.2.2.2.2) (rl q)⟩⟩⟩⟩, ⟨⟨⟨fun q n => (hJ.1.2.1.1.1) (rl q) (fun m => n (.inr m)), ⟨fun q => (hJ.1.2.1.1.2.1) (rl q), fun q => .inr ((hJ.1.2.1.1.2.2) (rl q))⟩⟩, ⟨⟨fun q => (hJ.1.2.1.2.1.1) (rl q), fun q n => (hJ.1.2.1.2.1.2) (rl q) (fun m => n (.inr m))⟩, ⟨fun q => (hJ.1.2.1.2.2.1) (rl q), fun q => .inr ((hJ.1.2.1.2.2.2) (rl q))⟩⟩⟩, ⟨⟨⟨fun q => (hJ.1.2.2.1.1.1) (rl q), fun q n => (hJ.1.2.2.1.1.2) (rl q) (fun m => n (.inr m))⟩, ⟨fun q => (hJ.1.2.2.1.2.1) (rl q), fun q => .inr ((hJ.1.2.2.1.2.2) (rl q))⟩⟩, ⟨⟨fun q => (hJ.1.2.2.2.1.1) (rl q), fun q n => (hJ.1.2.2.2.1.2) (rl q) (fun m => n (.inr m))⟩, ⟨fun q => (hJ.1.2.2.2.2.1) (rl q), fun q => .inr ((hJ.1.2.2.2.2.2) (rl q))⟩⟩⟩⟩⟩, ⟨⟨⟨⟨fun q r => (hJ.2.1.1.1.1) (rl q) (rl r), ⟨fun q r => (hJ.2.1.1.1.2.1) (rl q) (rl r), fun q r => (hJ.2.1.1.1.2.2) (rl q) (rl r)⟩⟩, ⟨⟨fun q r => (hJ.2.1.1.2.1.1) (rl q) (rl r), fun q r => (hJ.2.1.1.2.1.2) (rl q) (rl r)⟩, ⟨fun q r => (hJ.2.1.1.2.2.1) (rl q) (rl r), fun q => (hJ.2.1.1.2.2.2) (rl q)⟩⟩⟩, ⟨⟨⟨fun q => (hJ.2.1.2.1.1.1) (rl q), fun q => (hJ.2.1.2.1.1.2) (rl q)⟩, ⟨fun q => (hJ.2.1.2.1.2.1) (rl q), fun q => (hJ.2.1.2.1.2.2) (rl q)⟩⟩, ⟨⟨fun q => (hJ.2.1.2.2.1.1) (rl q), fun q => (hJ.2.1.2.2.1.2) (rl q)⟩, ⟨fun _ => rfl, fun q => (hJ.2.1.2.2.2.2) (rl q)⟩⟩⟩⟩, ⟨⟨⟨fun q => (hJ.2.2.1.1.1) (rl q), ⟨fun q => (hJ.2.2.1.1.2.1) (rl q), fun q => (hJ.2.2.1.1.2.2) (rl q)⟩⟩, ⟨⟨fun q => (hJ.2.2.1.2.1.1) (rl q), fun q => (hJ.2.2.1.2.1.2) (rl q)⟩, ⟨fun q => (hJ.2.2.1.2.2.1) (rl q), fun q => (hJ.2.2.1.2.2.2) (rl q)⟩⟩⟩, ⟨⟨⟨fun q => (hJ.2.2.2.1.1.1) (rl q), fun q => (hJ.2.2.2.1.1.2) (rl q)⟩, ⟨fun q => (hJ.2.2.2.1.2.1) (rl q), fun q => (hJ.2.2.2.1.2.2) (rl q)⟩⟩, ⟨⟨fun q => (hJ.2.2.2.2.1.1) (rl q), fun q => (hJ.2.2.2.2.1.2) (rl q)⟩, ⟨fun q => (hJ.2.2.2.2.2.1) (rl q), fun q => (hJ.2.2.2.2.2.2) (rl q)⟩⟩⟩⟩⟩⟩
      refine StepsOk.cons (i := 8) rfl (fun L x G w1 K Q hn hp hJ hK => ?_) ?_
      · skip
        have p7 : L 7 := hp ⟨7, .data⟩ (by simp) rfl
        have e7 := (hJ.2.1.2.2.2.1) p7
        have hc := Blk.open2 ((hJ.1.1.1.2.1.2))
        have c0 := hc.1
        have c1 := hc.2.1
        have c2 := hc.2.2.1
        have c3 := hc.2.2.2
        clear hc
        simp only [putAll, Act.put, List.setIfInBounds_toArray, List.set_cons_zero, List.set_cons_succ]
        go_simp
        refine hK _ G _ (by kernel_rfl) ?_
        exact ⟨⟨⟨⟨⟨(hJ.1.1.1.1.1), ⟨(hJ.1.1.1.1.2.1), (hJ.1.1.1.1.2.2)⟩⟩, ⟨⟨(hJ.1.1.1.2.1.1), (hJ.1.1.1.2.1.2)⟩, ⟨(hJ.1.1.1.2.2.1), (hJ.1.1.1.2.2.2)⟩⟩⟩, ⟨⟨(hJ.1.1.2.1.1), ⟨(hJ.1.1.2.1.2.1), (hJ.1.1.2.1.2.2)⟩⟩, ⟨⟨(hJ.1.1.2.2.1.1), (hJ.1.1.2.2.1.2)⟩, ⟨(hJ.1.1.2.2.2.1), fun q => (hJ.1.1.2.2.2.2) (rl q)⟩⟩⟩⟩, ⟨⟨⟨fun q n => (hJ.1.2.1.1.1) (rl q) (fun m => n (.inr m)), ⟨fun q => (hJ.1.2.1.1.2.1) (rl q), fun q => .inr ((hJ.1.2.1.1.2.2) (rl q))⟩⟩, ⟨⟨fun q => (hJ.1.2.1.2.1.1) (rl q), fun q n => (hJ.1.2.1.2.1.2) (rl q) (fun m => n (.inr m))⟩, ⟨fun q => (hJ.1.2.1.2.2.1) (rl q), fun q => .inr ((hJ.1.2.1.2.2.2) (rl q))⟩⟩⟩, ⟨⟨⟨fun q => (hJ.1.2.2.1.1.1) (rl q), fun q n => (hJ.1.2.2.1.1.2) (rl q) (fun m => n (.inr m))⟩, ⟨fun q => (hJ.1.2.2.1.2.1) (rl q), fun q => .inr ((hJ.1.2.2.1.2.2) (rl q))⟩⟩, ⟨⟨fun q => (hJ.1.2.2.2.1.1) (rl q), fun q n => (hJ.1.2.2.2.1.2) (rl q) (fun m => n (.inr m))⟩, ⟨fun q => (hJ.1.2.2.2.2.1) (rl q), fun q => .inr ((hJ.1.2.2.2.2.2) (rl q))⟩⟩⟩⟩⟩, ⟨⟨⟨⟨fun q r => (hJ.2.1.1.1.1) (rl q) (rl r), ⟨fun q r => (hJ.2.1.1.1.2.1) (rl q) (rl r), fun q r => (hJ.2.1.1.1.2.2) (rl q) (rl r)⟩⟩, ⟨⟨fun q r => (hJ.2.1.1.2.1.1) (rl q) (rl r), fun q r => (hJ.2.1.1.2.1.2) (rl q) (rl r)⟩, ⟨fun q r => (hJ.2.1.1.2.2.1) (rl q) (rl r), fun q => (hJ.2.1.1.2.2.2) (rl q)⟩⟩⟩, ⟨⟨⟨fun q => (hJ.2.1.2.1.1.1) (rl q), fun q => (hJ.2.1.2.1.1.2) (rl q)⟩, ⟨fun q => (hJ.2.1.2.1.2.1) (rl q), fun q => (hJ.2.1.2.1.2.2) (rl q)⟩⟩, ⟨⟨fun q => (hJ.2.1.2.2.1.1) (rl q), fun q => (hJ.2.1.2.2.1.2) (rl q)⟩, ⟨fun _ => by first | exact rfl | exact e7, fun _ => rfl⟩⟩⟩⟩, ⟨⟨⟨fun q => (hJ.2.2.1.1.1) (rl q), ⟨fun q => (hJ.2.2.1.1.2.1) (rl q), fun q => (hJ.2.2.1.1.2.2) (rl q)⟩⟩, ⟨⟨fun q => (hJ.2.2.1.2.1.1) (rl q), fun q => (hJ.2.2.1.2.1.2) (rl q)⟩, ⟨fun q => (hJ.2.2.1.2.2.1) (rl q), fun q => (hJ.2.2.1.2.2.2) (rl q)⟩⟩⟩, ⟨⟨⟨fun q => (hJ.2.2.2.1.1.1) (rl q), fun q => (hJ.2.2.2.1.1.2) (rl q)⟩, ⟨fun q => (hJ.2.2.2.1.2.1) (rl q), fun q => (hJ.2.2.2.1.2.2) (rl q)⟩⟩, ⟨⟨fun q => (hJ.2.2.2.2.1.1) (rl q), fun q => (hJ.2.2.2.2.1.2) (rl q)⟩, ⟨fun q => (hJ.2.2.2.2.2.1) (rl q), fun q => (hJ.2.2.2.2.2.2) (rl q)⟩⟩⟩⟩⟩⟩
      refine StepsOk.cons (i := 9) rfl (fun L x G w1 K Q hn hp hJ hK => ?_) ?_
      · skip
        have p6 : L 6 := hp ⟨6, .data⟩ (by simp) rfl
        have e6 := (hJ.2.1.2.2.1.2) p6
        have p8 : L 8 := hp ⟨8, .data⟩ (by simp) rfl
        have e8 := (hJ.2.1.2.2.2.2) p8
        simp only [putAll, Act.put, List.setIfInBounds_toArray, List.set_cons_zero, List.set_cons_succ]
        go_simp
        refine (mul_c _ _ _ b1 b2 d3 d4).mono ?_
        rintro e w2 ⟨rfl, hb⟩
        have hz := hb.size
        try go_simp
        refine hK _ G _ (by kernel_rfl) ?_
        exact ⟨⟨⟨⟨⟨bt (hJ.1.1.1.1.1) hb, ⟨Nat.lt_of_lt_of_le (hJ.1.1.1.1.2.1) hb.size, Blk.keep ((hJ.1.1.1.1.2.2)) hb⟩⟩, ⟨⟨Nat.lt_of_lt_of_le (hJ.1.1.1.2.1.1) hb.size, Blk.keep ((hJ.1.1.1.2.1.2)) hb⟩, ⟨Nat.lt_of_lt_of_le (hJ.1.1.1.2.2.1) hb.size, Blk.keep ((hJ.1.1.1.2.2.2)) hb⟩⟩⟩, ⟨⟨Nat.lt_of_lt_of_le (hJ.1.1.2.1.1) hb.size, ⟨Blk.keep ((hJ.1.1.2.1.2.1)) hb, Nat.lt_of_lt_of_le (hJ.1.1.2.1.2.2) hb.size⟩⟩, ⟨⟨Blk.keep ((hJ.1.1.2.2.1.1)) hb, Nat.lt_of_lt_of_le (hJ.1.1.2.2.1.2) hb.size⟩, ⟨Blk.keep ((hJ.1.1.2.2.2.1)) hb, fun q => ⟨((hJ.1.1.2.2.2.2) (rl q)).1, by have := ((hJ.1.1.2.2.2.2) (rl q)).2.1; omega, ((hJ.1.1.2.2.2.2) (rl q)).2.2⟩⟩⟩⟩⟩, ⟨⟨⟨fun q n => Blk.keep ((hJ.1.2.1.1.1) (rl q) (fun m => n (.inr m))) hb, ⟨fun q => Blk.keep ((hJ.1.2.1.1.2.1) (rl q)) hb, fun q => .inr ((hJ.1.2.1.1.2.2) (rl q))⟩⟩, ⟨⟨fun q => ⟨((hJ.1.2.1.2.1.1) (rl q)).1, by have := ((hJ.1.2.1.2.1.1) (rl q)).2.1; omega, ((hJ.1.2.1.2.1.1) (rl q)).2.2⟩, fun q n => Blk.keep ((hJ.1.2.1.2.1.2) (rl q) (fun m => n (.inr m))) hb⟩, ⟨fun q => Blk.keep ((hJ.1.2.1.2.2.1) (rl q)) hb, fun q => .inr ((hJ.1.2.1.2.2.2) (rl q))⟩⟩⟩, ⟨⟨⟨fun q => ⟨((hJ.1.2.2.1.1.1) (rl q)).1, by have := ((hJ.1.2.2.1.1.1) (rl q)).2.1; omega, ((hJ.1.2.2.1.1.1) (rl q)).2.2⟩, fun q n => Blk.keep ((hJ.1.2.2.1.1.2) (rl q) (fun m => n (.inr m))) hb⟩, ⟨fun q => Blk.keep ((hJ.1.2.2.1.2.1) (rl q)) hb, fun q => .inr ((hJ.1.2.2.1.2.2) (rl q))⟩⟩, ⟨⟨fun q => ⟨((hJ.1.2.2.2.1.1) (rl q)).1, by have := ((hJ.1.2.2.2.1.1) (rl q)).2.1; omega, ((hJ.1.2.2.2.1.1) (rl q)).2.2⟩, fun q n => Blk.keep ((hJ.1.2.2.2.1.2) (rl q) (fun m => n (.inr m))) hb⟩, ⟨fun q => Blk.keep ((hJ.1.2.2.2.2.1) (rl q)) hb, fun q => .inr ((hJ.1.2.2.2.2.2) (rl q))⟩⟩⟩⟩⟩, ⟨⟨⟨⟨fun q r => (hJ.2.1.1.1.1) (rl q) (rl r), ⟨fun q r => (hJ.2.1.1.1.2.1) (rl q) (rl r), fun q r => (hJ.2.1.1.1.2.2) (rl q) (rl r)⟩⟩, ⟨⟨fun q r => (hJ.2.1.1.2.1.1) (rl q) (rl r), fun q r => (hJ.2.1.1.2.1.2) (rl q) (rl r)⟩, ⟨fun q r => (hJ.2.1.1.2.2.1) (rl q) (rl r), fun q => (hJ.2.1.1.2.2.2) (rl q)⟩⟩⟩, ⟨⟨⟨fun q => (hJ.2.1.2.1.1.1) (rl q), fun q => (hJ.2.1.2.1.1.2) (rl q)⟩, ⟨fun q => (hJ.2.1.2.1.2.1) (rl q), fun q => (hJ.2.1.2.1.2.2) (rl q)⟩⟩, ⟨⟨fun q => (hJ.2.1.2.2.1.1) (rl q), fun _ => by first | exact rfl | exact e6⟩, ⟨fun q => (hJ.2.1.2.2.2.1) (rl q), fun _ => by first | exact rfl | exact e8⟩⟩⟩⟩, ⟨⟨⟨fun _ => rfl, ⟨fun q => (hJ.2.2.1.1.2.1) (rl q), fun q => (hJ.2.2.1.1.2.2) (rl q)⟩⟩, ⟨⟨fun q => (hJ.2.2.1.2.1.1) (rl q), fun q => (hJ.2.2.1.2.1.2) (rl q)⟩, ⟨fun q => (hJ.2.2.1.2.2.1) (rl q), fun q => (hJ.2.2.1.2.2.2) (rl q)⟩⟩⟩, ⟨⟨⟨fun q => (hJ.2.2.2.1.1.1) (rl q), fun q => (hJ.2.2.2.1.1.2) (rl q)⟩, ⟨fun q => (hJ.2.2.2.1.2.1) (rl q), fun q => (hJ.2.2.2.1.2.2) (rl q)⟩⟩, ⟨⟨fun q => (hJ.2.2.2.2.1.1) (rl q), fun q => (hJ.2.2.2.2.1.2) (rl q)⟩, ⟨fun q => (hJ.2.2.2.2.2.1) (rl q), fun q => (hJ.2.2.2.2.2.2) (rl q)⟩⟩⟩⟩⟩⟩
      refine StepsOk.cons (i := 10) rfl (fun L x G w1 K Q hn hp hJ hK => ?_) ?_
      · skip
        simp only [putAll, Act.put, List.setIfInBounds_toArray, List.set_cons_zero, List.set_cons_succ]
        go_simp
        refine hK _ G _ (by kernel_rfl) ?_
        exact ⟨⟨⟨⟨⟨(hJ.1.1.1.1.1), ⟨(hJ.1.1.1.1.2.1), (hJ.1.1.1.1.2.2)⟩⟩, ⟨⟨(hJ.1.1.1.2.1.1), (hJ.1.1.1.2.1.2)⟩, ⟨(hJ.1.1.1.2.2.1), (hJ.1.1.1.2.2.2)⟩⟩⟩, ⟨⟨(hJ.1.1.2.1.1), ⟨(hJ.1.1.2.1.2.1), (hJ.1.1.2.1.2.2)⟩⟩, ⟨⟨(hJ.1.1.2.2.1.1), (hJ.1.1.2.2.1.2)⟩, ⟨(hJ.1.1.2.2.2.1), fun q => (hJ.1.1.2.2.2.2) (rl q)⟩⟩⟩⟩, ⟨⟨⟨fun q n => (hJ.1.2.1.1.1) (rl q) (fun m => n (.inr m)), ⟨fun q => (hJ.1.2.1.1.2.1) (rl q), fun q => .inr ((hJ.1.2.1.1.2.2) (rl q))⟩⟩, ⟨⟨fun q => (hJ.1.2.1.2.1.1) (rl q), fun q n => (hJ.1.2.1.2.1.2) (rl q) (fun m => n (.inr m))⟩, ⟨fun q => (hJ.1.2.1.2.2.1) (rl q), fun q => .inr ((hJ.1.2.1.2.2.2) (rl q))⟩⟩⟩, ⟨⟨⟨fun q => (hJ.1.2.2.1.1.1) (rl q), fun q n => (hJ.1.2.2.1.1.2) (rl q) (fun m => n (.inr m))⟩, ⟨fun q => (hJ.1.2.2.1.2.1) (rl q), fun q => .inr ((hJ.1.2.2.1.2.2) (rl q))⟩⟩, ⟨⟨fun q => (hJ.1.2.2.2.1.1) (rl q), fun q n => (hJ.1.2.2.2.1.2) (rl q) (fun m => n (.inr m))⟩, ⟨fun q => (hJ.1.2.2.2.2.1) (rl q), fun q => .inr ((hJ.1.2.2.2.2.2) (rl q))⟩⟩⟩⟩⟩, ⟨⟨⟨⟨fun q r => (hJ.2.1.1.1.1) (rl q) (rl r), ⟨fun q r => (hJ.2.1.1.1.2.1) (rl q) (rl r), fun q r => (hJ.2.1.1.1.2.2) (rl q) (rl r)⟩⟩, ⟨⟨fun q r => (hJ.2.1.1.2.1.1) (rl q) (rl r), fun q r => (hJ.2.1.1.2.1.2) (rl q) (rl r)⟩, ⟨fun q r => (hJ.2.1.1.2.2.1) (rl q) (rl r), fun q => (hJ.2.1.1.2.2.2) (rl q)⟩⟩⟩, ⟨⟨⟨fun q => (hJ.2.1.2.1.1.1) (rl q), fun q => (hJ.2.1.2.1.1.2) (rl q)⟩, ⟨fun q => (hJ.2.1.2.1.2.1) (rl q), fun q => (hJ.2.1.2.1.2.2) (rl q)⟩⟩, ⟨⟨fun q => (hJ.2.1.2.2.1.1) (rl q), fun q => (hJ.2.1.2.2.1.2) (rl q)⟩, ⟨fun q => (hJ.2.1.2.2.2.1) (rl q), fun q => (hJ.2.1.2.2.2.2) (rl q)⟩⟩⟩⟩, ⟨⟨⟨fun q => (hJ.2.2.1.1.1) (rl q), ⟨fun _ => rfl, fun q => (hJ.2.2.1.1.2.2) (rl q)⟩⟩, ⟨⟨fun q => (hJ.2.2.1.2.1.1) (rl q), fun q => (hJ.2.2.1.2.1.2) (rl q)⟩, ⟨fun q => (hJ.2.2.1.2.2.1) (rl q), fun q => (hJ.2.2.1.2.2.2) (rl q)⟩⟩⟩, ⟨⟨⟨fun q => (hJ.2.2.2.1.1.1) (rl q), fun q => (hJ.2.2.2.1.1.2) (rl q)⟩, ⟨fun q => (hJ.2.2.2.1.2.1) (rl q), fun q => (hJ.2.2.2.1.2.2) (rl q)⟩⟩, ⟨⟨fun q => (hJ.2.2.2.2.1.1) (rl q), fun q => (hJ.2.2.2.2.1.2) (rl q)⟩, ⟨fun q => (hJ.2.2.2.2.2.1) (rl q), fun q => (hJ.2.2.2.2.2.2) (rl q)⟩⟩⟩⟩⟩⟩
      refine StepsOk.cons (i := 11) rfl (fun L x G w1 K Q hn hp hJ hK => ?_) ?_
      · skip
        have p10 : L 10 := hp ⟨10, .data⟩ (by simp) rfl
        have e10 := (hJ.2.2.1.1.2.1) p10
        have hc := Blk.open2 ((hJ.1.1.1.1.2.2))
        have c0 := hc.1
        have c1 := hc.2.1
        have c2 := hc.2.2.1
        have c3 := hc.2.2.2
        clear hc
        simp only [putAll, Act.put, List.setIfInBounds_toArray, List.set_cons_zero, List.set_cons_succ]
        go_simp
        refine hK _ G _ (by kernel_rfl) ?_
        exact ⟨⟨⟨⟨⟨(hJ.1.1.1.1.1), ⟨(hJ.1.1.1.1.2.1), (hJ.1.1.1.1.2.2)⟩⟩, ⟨⟨(hJ.1.1.1.2.1.1), (hJ.1.1.1.2.1.2)⟩, ⟨(hJ.1.1.1.2.2.1), (hJ.1.1.1.2.2.2)⟩⟩⟩, ⟨⟨(hJ.1.1.2.1.1), ⟨(hJ.1.1.2.1.2.1), (hJ.1.1.2.1.2.2)⟩⟩, ⟨⟨(hJ.1.1.2.2.1.1), (hJ.1.1.2.2.1.2)⟩, ⟨(hJ.1.1.2.2.2.1), fun q => (hJ.1.1.2.2.2.2) (rl q)⟩⟩⟩⟩, ⟨⟨⟨fun q n => (hJ.1.2.1.1.1) (rl q) (fun m => n (.inr m)), ⟨fun q => (hJ.1.2.1.1.2.1) (rl q), fun q => .inr ((hJ.1.2.1.1.2.2) (rl q))⟩⟩, ⟨⟨fun q => (hJ.1.2.1.2.1.1) (rl q), fun q n => (hJ.1.2.1.2.1.2) (rl q) (fun m => n (.inr m))⟩, ⟨fun q => (hJ.1.2.1.2.2.1) (rl q), fun q => .inr ((hJ.1.2.1.2.2.2) (rl q))⟩⟩⟩, ⟨⟨⟨fun q => (hJ.1.2.2.1.1.1) (rl q), fun q n => (hJ.1.2.2.1.1.2) (rl q) (fun m => n (.inr m))⟩, ⟨fun q => (hJ.1.2.2.1.2.1) (rl q), fun q => .inr ((hJ.1.2.2.1.2.2) (rl q))⟩⟩, ⟨⟨fun q => (hJ.1.2.2.2.1.1) (rl q), fun q n => (hJ.1.2.2.2.1.2) (rl q) (fun m => n (.inr m))⟩, ⟨fun q => (hJ.1.2.2.2.2.1) (rl q), fun q => .inr ((hJ.1.2.2.2.2.2) (rl q))⟩⟩⟩⟩⟩, ⟨⟨⟨⟨fun q r => (hJ.2.1.1.1.1) (rl q) (rl r), ⟨fun q r => (hJ.2.1.1.1.2.1) (rl q) (rl r), fun q r => (hJ.2.1.1.1.2.2) (rl q) (rl r)⟩⟩, ⟨⟨fun q r => (hJ.2.1.1.2.1.1) (rl q) (rl r), fun q r => (hJ.2.1.1.2.1.2) (rl q) (rl r)⟩, ⟨fun q r => (hJ.2.1.1.2.2.1) (rl q) (rl r), fun q => (hJ.2.1.1.2.2.2) (rl q)⟩⟩⟩, ⟨⟨⟨fun q => (hJ.2.1.2.1.1.1) (rl q), fun q => (hJ.2.1.2.1.1.2) (rl q)⟩, ⟨fun q => (hJ.2.1.2.1.2.1) (rl q), fun q => (hJ.2.1.2.1.2.2) (rl q)⟩⟩, ⟨⟨fun q => (hJ.2.1.2.2.1.1) (rl q), fun q => (hJ.2.1.2.2.1.2) (rl q)⟩, ⟨fun q => (hJ.2.1.2.2.2.1) (rl q), fun q => (hJ.2.1.2.2.2.2) (rl q)⟩⟩⟩⟩, ⟨⟨⟨fun q => (hJ.2.2.1.1.1) (rl q), ⟨fun _ => by first | exact rfl | exact e10, fun _ => rfl⟩⟩, ⟨⟨fun q => (hJ.2.2.1.2.1.1) (rl q), fun q => (hJ.2.2.1.2.1.2) (rl q)⟩, ⟨fun q => (hJ.2.2.1.2.2.1) (rl q), fun q => (hJ.2.2.1.2.2.2) (rl q)⟩⟩⟩, ⟨⟨⟨fun q => (hJ.2.2.2.1.1.1) (rl q), fun q => (hJ.2.2.2.1.1.2) (rl q)⟩, ⟨fun q => (hJ.2.2.2.1.2.1) (rl q), fun q => (hJ.2.2.2.1.2.2) (rl q)⟩⟩, ⟨⟨fun q => (hJ.2.2.2.2.1.1) (rl q), fun q => (hJ.2.2.2.2.1.2) (rl q)⟩, ⟨fun q => (hJ.2.2.2.2.2.1) (rl q), fun q => (hJ.2.2.2.2.2.2) (rl q)⟩⟩⟩⟩⟩⟩
      refine StepsOk.cons (i := 12) rfl (fun L x G w1 K Q hn hp hJ hK => ?_) ?_
      · skip
        simp only [putAll, Act.put, List.setIfInBounds_toArray, List.set_cons_zero, List.set_cons_succ]
        go_simp
        refine hK _ G _ (by kernel_rfl) ?_
        exact ⟨⟨⟨⟨⟨(hJ.1.1.1.1.1), ⟨(hJ.1.1.1.1.2.1), (hJ.1.1.1.1.2.2)⟩⟩, ⟨⟨(hJ.1.1.1.2.1.1), (hJ.1.1.1.2.1.2)⟩, ⟨(hJ.1.1.1.2.2.1), (hJ.1.1.1.2.2.2)⟩⟩⟩, ⟨⟨(hJ.1.1.2.1.1), ⟨(hJ.1.1.2.1.2.1), (hJ.1.1.2.1.2.2)⟩⟩, ⟨⟨(hJ.1.1.2.2.1.1), (hJ.1.1.2.2.1.2)⟩, ⟨(hJ.1.1.2.2.2.1), fun q => (hJ.1.1.2.2.2.2) (rl q)⟩⟩⟩⟩, ⟨⟨⟨fun q n => (hJ.1.2.1.1.1) (rl q) (fun m => n (.inr m)), ⟨fun q => (hJ.1.2.1.1.2.1) (rl q), fun q => .inr ((hJ.1.2.1.1.2.2) (rl q))⟩⟩, ⟨⟨fun q => (hJ.1.2.1.2.1.1) (rl q), fun q n => (hJ.1.2.1.2.1.2) (rl q) (fun m => n (.inr m))⟩, ⟨fun q => (hJ.1.2.1.2.2.1) (rl q), fun q => .inr ((hJ.1.2.1.2.2.2) (rl q))⟩⟩⟩, ⟨⟨⟨fun q => (hJ.1.2.2.1.1.1) (rl q), fun q n => (hJ.1.2.2.1.1.2) (rl q) (fun m => n (.inr m))⟩, ⟨fun q => (hJ.1.2.2.1.2.1) (rl q), fun q => .inr ((hJ.1.2.2.1.2.2) (rl q))⟩⟩, ⟨⟨fun q => (hJ.1.2.2.2.1.1) (rl q), fun q n => (hJ.1.2.2.2.1.2) (rl q) (fun m => n (.inr m))⟩, ⟨fun q => (hJ.1.2.2.2.2.1) (rl q), fun q => .inr ((hJ.1.2.2.2.2.2) (rl q))⟩⟩⟩⟩⟩, ⟨⟨⟨⟨fun q r => (hJ.2.1.1.1.1) (rl q) (rl r), ⟨fun q r => (hJ.2.1.1.1.2.1) (rl q) (rl r), fun q r => (hJ.2.1.1.1.2.2) (rl q) (rl r)⟩⟩, ⟨⟨fun q r => (hJ.2.1.1.2.1.1) (rl q) (rl r), fun q r => (hJ.2.1.1.2.1.2) (rl q) (rl r)⟩, ⟨fun q r => (hJ.2.1.1.2.2.1) (rl q) (rl r), fun q => (hJ.2.1.1.2.2.2) (rl q)⟩⟩⟩, ⟨⟨⟨fun q => (hJ.2.1.2.1.1.1) (rl q), fun q => (hJ.2.1.2.1.1.2) (rl q)⟩, ⟨fun q => (hJ.2.1.2.1.2.1) (rl q), fun q => (hJ.2.1.2.1.2.2) (rl q)⟩⟩, ⟨⟨fun q => (hJ.2.1.2.2.1.1) (rl q), fun q => (hJ.2.1.2.2.1.2) (rl q)⟩, ⟨fun q => (hJ.2.1.2.2.2.1) (rl q), fun q => (hJ.2.1.2.2.2.2) (rl q)⟩⟩⟩⟩, ⟨⟨⟨fun q => (hJ.2.2.1.1.1) (rl q), ⟨fun q => (hJ.2.2.1.1.2.1) (rl q), fun q => (hJ.2.2.1.1.2.2) (rl q)⟩⟩, ⟨⟨fun _ => rfl, fun q => (hJ.2.2.1.2.1.2) (rl q)⟩, ⟨fun q => (hJ.2.2.1.2.2.1) (rl q), fun q => (hJ.2.2.1.2.2.2) (rl q)⟩⟩⟩, ⟨⟨⟨fun q => (hJ.2.2.2.1.1.1) (rl q), fun q => (hJ.2.2.2.1.1.2) (rl q)⟩, ⟨fun q => (hJ.2.2.2.1.2.1) (rl q), fun q => (hJ.2.2.2.1.2.2) (rl q)⟩⟩, ⟨⟨fun q => (hJ.2.2.2.2.1.1) (rl q), fun q => (hJ.2.2.2.2.1.2) (rl q)⟩, ⟨fun q => (hJ.2.2.2.2.2.1) (rl q), fun q => (hJ.2.2.2.2.2.2) (rl q)⟩⟩⟩⟩⟩⟩
      refine StepsOk.cons (i := 13) rfl (fun L x G w1 K Q hn hp hJ hK => ?_) ?_
      · skip
        have p12 : L 12 := hp ⟨12, .data⟩ (by simp) rfl
        have e12 := (hJ.2.2.1.2.1.1) p12
        have hc := Blk.open2 ((hJ.1.1.1.2.1.2))
        have c0 := hc.1
        have c1 := hc.2.1
        have c2 := hc.2.2.1
        have c3 := hc.2.2.2
        clear hc
        simp only [putAll, Act.put, List.setIfInBounds_toArray, List.set_cons_zero, List.set_cons_succ]
        go_simp
        refine hK _ G _ (by kernel_rfl) ?_
        exact ⟨⟨⟨⟨⟨(hJ.1.1.1.1.1), ⟨(hJ.1.1.1.1.2.1), (hJ.1.1.1.1.2.2)⟩⟩, ⟨⟨(hJ.1.1.1.2.1.1), (hJ.1.1.1.2.1.2)⟩, ⟨(hJ.1.1.1.2.2.1), (hJ.1.1.1.2.2.2)⟩⟩⟩, ⟨⟨(hJ.1.1.2.1.1), ⟨(hJ.1.1.2.1.2.1), (hJ.1.1.2.1.2.2)⟩⟩, ⟨⟨(hJ.1.1.2.2.1.1), (hJ.1.1.2.2.1.2)⟩, ⟨(hJ.1.1.2.2.2.1), fun q => (hJ.1.1.2.2.2.2) (rl q)⟩⟩⟩⟩, ⟨⟨⟨fun q n => (hJ.1.2.1.1.1) (rl q) (fun m => n (.inr m)), ⟨fun q => (hJ.1.2.1.1.2.1) (rl q), fun q => .inr ((hJ.1.2.1.1.2.2) (rl q))⟩⟩, ⟨⟨fun q => (hJ.1.2.1.2.1.1) (rl q), fun q n => (hJ.1.2.1.2.1.2) (rl q) (fun m => n (.inr m))⟩, ⟨fun q => (hJ.1.2.1.2.2.1) (rl q), fun q => .inr ((hJ.1.2.1.2.2.2) (rl q))⟩⟩⟩, ⟨⟨⟨fun q => (hJ.1.2.2.1.1.1) (rl q), fun q n => (hJ.1.2.2.1.1.2) (rl q) (fun m => n (.inr m))⟩, ⟨fun q => (hJ.1.2.2.1.2.1) (rl q), fun q => .inr ((hJ.1.2.2.1.2.2) (rl q))⟩⟩, ⟨⟨fun q => (hJ.1.2.2.2.1.1) (rl q), fun q n => (hJ.1.2.2.2.1.2) (rl q) (fun m => n (.inr m))⟩, ⟨fun q => (hJ.1.2.2.2.2.1) (rl q), fun q => .inr ((hJ.1.2.2.2.2.2) (rl q))⟩⟩⟩⟩⟩, ⟨⟨⟨⟨fun q r => (hJ.2.1.1.1.1) (rl q) (rl r), ⟨fun q r => (hJ.2.1.1.1.2.1) (rl q) (rl r), fun q r => (hJ.2.1.1.1.2.2) (rl q) (rl r)⟩⟩, ⟨⟨fun q r => (hJ.2.1.1.2.1.1) (rl q) (rl r), fun q r => (hJ.2.1.1.2.1.2) (rl q) (rl r)⟩, ⟨fun q r => (hJ.2.1.1.2.2.1) (rl q) (rl r), fun q => (hJ.2.1.1.2.2.2) (rl q)⟩⟩⟩, ⟨⟨⟨fun q => (hJ.2.1.2.1.1.1) (rl q), fun q => (hJ.2.1.2.1.1.2) (rl q)⟩, ⟨fun q => (hJ.2.1.2.1.2.1) (rl q), fun q => (hJ.2.1.2.1.2.2) (rl q)⟩⟩, ⟨⟨fun q => (hJ.2.1.2.2.1.1) (rl q), fun q => (hJ.2.1.2.2.1.2) (rl q)⟩, ⟨fun q => (hJ.2.1.2.2.2.1) (rl q), fun q => (hJ.2.1.2.2.2.2) (rl q)⟩⟩⟩⟩, ⟨⟨⟨fun q => (hJ.2.2.1.1.1) (rl q), ⟨fun q => (hJ.2.2.1.1.2.1) (rl q), fun q => (hJ.2.2.1.1.2.2) (rl q)⟩⟩, ⟨⟨fun _ => by first | exact rfl | exact e12, fun _ => rfl⟩, ⟨fun q => (hJ.2.2.1.2.2.1) (rl q), fun q => (hJ.2.2.1.2.2.2) (rl q)⟩⟩⟩, ⟨⟨⟨fun q => (hJ.2.2.2.1.1.1) (rl q), fun q => (hJ.2.2.2.1.1.2) (rl q)⟩, ⟨fun q => (hJ.2.2.2.1.2.1) (rl q), fun q => (hJ.2.2.2.1.2.2) (rl q)⟩⟩, ⟨⟨fun q => (hJ.2.2.2.2.1.1) (rl q), fun q => (hJ.2.2.2.2.1.2) (rl q)⟩, ⟨fun q => (hJ.2.2.2.2.2.1) (rl q), fun q => (hJ.2.2.2.2.2.2) (rl q)⟩⟩⟩⟩⟩⟩
      refine StepsOk.cons (i := 14) rfl (fun L x G w1 K Q hn hp hJ hK => ?_) ?_
      · skip
        have p11 : L 11 := hp ⟨11, .data⟩ (by simp) rfl
        have e11 := (hJ.2.2.1.1.2.2) p11
        have p13 : L 13 := hp ⟨13, .data⟩ (by simp) rfl
        have e13 := (hJ.2.2.1.2.1.2) p13
        simp only [putAll, Act.put, List.setIfInBounds_toArray, List.set_cons_zero, List.set_cons_succ]
        go_simp
        refine (mul_c _ _ _ b3 b4 d1 d2).mono ?_
        rintro e w2 ⟨rfl, hb⟩
        have hz := hb.size
        try go_simp
        refine hK _ G _ (by kernel_rfl) ?_
        exact ⟨⟨⟨⟨⟨bt (hJ.1.1.1.1.1) hb, ⟨Nat.lt_of_lt_of_le (hJ.1.1.1.1.2.1) hb.size, Blk.keep ((hJ.1.1.1.1.2.2)) hb⟩⟩, ⟨⟨Nat.lt_of_lt_of_le (hJ.1.1.1.2.1.1) hb.size, Blk.keep ((hJ.1.1.1.2.1.2)) hb⟩, ⟨Nat.lt_of_lt_of_le (hJ.1.1.1.2.2.1) hb.size, Blk.keep ((hJ.1.1.1.2.2.2)) hb⟩⟩⟩, ⟨⟨Nat.lt_of_lt_of_le (hJ.1.1.2.1.1) hb.size, ⟨Blk.keep ((hJ.1.1.2.1.2.1)) hb, Nat.lt_of_lt_of_le (hJ.1.1.2.1.2.2) hb.size⟩⟩, ⟨⟨Blk.keep ((hJ.1.1.2.2.1.1)) hb, Nat.lt_of_lt_of_le (hJ.1.1.2.2.1.2) hb.size⟩, ⟨Blk.keep ((hJ.1.1.2.2.2.1)) hb, fun q => ⟨((hJ.1.1.2.2.2.2) (rl q)).1, by have := ((hJ.1.1.2.2.2.2) (rl q)).2.1; omega, ((hJ.1.1.2.2.2.2) (rl q)).2.2⟩⟩⟩⟩⟩, ⟨⟨⟨fun q n => Blk.keep ((hJ.1.2.1.1.1) (rl q) (fun m => n (.inr m))) hb, ⟨fun q => Blk.keep ((hJ.1.2.1.1.2.1) (rl q)) hb, fun q => .inr ((hJ.1.2.1.1.2.2) (rl q))⟩⟩, ⟨⟨fun q => ⟨((hJ.1.2.1.2.1.1) (rl q)).1, by have := ((hJ.1.2.1.2.1.1) (rl q)).2.1; omega, ((hJ.1.2.1.2.1.1) (rl q)).2.2⟩, fun q n => Blk.keep ((hJ.1.2.1.2.1.2) (rl q) (fun m => n (.inr m))) hb⟩, ⟨fun q => Blk.keep ((hJ.1.2.1.2.2.1) (rl q)) hb, fun q => .inr ((hJ.1.2.1.2.2.2) (rl q))⟩⟩⟩, ⟨⟨⟨fun q => ⟨((hJ.1.2.2.1.1.1) (rl q)).1, by have := ((hJ.1.2.2.1.1.1) (rl q)).2.1; omega, ((hJ.1.2.2.1.1.1) (rl q)).2.2⟩, fun q n => Blk.keep ((hJ.1.2.2.1.1.2) (rl q) (fun m => n (.inr m))) hb⟩, ⟨fun q => Blk.keep ((hJ.1.2.2.1.2.1) (rl q)) hb, fun q => .inr ((hJ.1.2.2.1.2.2) (rl q))⟩⟩, ⟨⟨fun q => ⟨((hJ.1.2.2.2.1.1) (rl q)).1, by have := ((hJ.1.2.2.2.1.1) (rl q)).2.1; omega, ((hJ.1.2.2.2.1.1) (rl q)).2.2⟩, fun q n => Blk.keep ((hJ.1.2.2.2.1.2) (rl q) (fun m => n (.inr m))) hb⟩, ⟨fun q => Blk.keep ((hJ.1.2.2.2.2.1) (rl q)) hb, fun q => .inr ((hJ.1.2.2.2.2.2) (rl q))⟩⟩⟩⟩⟩, ⟨⟨⟨⟨fun q r => (hJ.2.1.1.1.1) (rl q) (rl r), ⟨fun q r => (hJ.2.1.1.1.2.1) (rl q) (rl r), fun q r => (hJ.2.1.1.1.2.2) (rl q) (rl r)⟩⟩, ⟨⟨fun q r => (hJ.2.1.1.2.1.1) (rl q) (rl r), fun q r => (hJ.2.1.1.2.1.2) (rl q) (rl r)⟩, ⟨fun q r => (hJ.2.1.1.2.2.1) (rl q) (rl r), fun q => (hJ.2.1.1.2.2.2) (rl q)⟩⟩⟩, ⟨⟨⟨fun q => (hJ.2.1.2.1.1.1) (rl q), fun q => (hJ.2.1.2.1.1.2) (rl q)⟩, ⟨fun q => (hJ.2.1.2.1.2.1) (rl q), fun q => (hJ.2.1.2.1.2.2) (rl q)⟩⟩, ⟨⟨fun q => (hJ.2.1.2.2.1.1) (rl q), fun q => (hJ.2.1.2.2.1.2) (rl q)⟩, ⟨fun q => (hJ.2.1.2.2.2.1) (rl q), fun q => (hJ.2.1.2.2.2.2) (rl q)⟩⟩⟩⟩, ⟨⟨⟨fun q => (hJ.2.2.1.1.1) (rl q), ⟨fun q => (hJ.2.2.1.1.2.1) (rl q), fun _ => by first | exact rfl | exact e11⟩⟩, ⟨⟨fun q => (hJ.2.2.1.2.1.1) (rl q), fun _ => by first | exact rfl | exact e13⟩, ⟨fun _ => rfl, fun q => (hJ.2.2.1.2.2.2) (rl q)⟩⟩⟩, ⟨⟨⟨fun q => (hJ.2.2.2.1.1.1) (rl q), fun q => (hJ.2.2.2.1.1.2) (rl q)⟩, ⟨fun q => (hJ.2.2.2.1.2.1) (rl q), fun q => (hJ.2.2.2.1.2.2) (rl q)⟩⟩, ⟨⟨fun q => (hJ.2.2.2.2.1.1) (rl q), fun q => (hJ.2.2.2.2.1.2) (rl q)⟩, ⟨fun q => (hJ.2.2.2.2.2.1) (rl q), fun q => (hJ.2.2.2.2.2.2) (rl q)⟩⟩⟩⟩⟩⟩
      refine StepsOk.cons (i := 15) rfl (fun L x G w1 K Q hn hp hJ hK => ?_) ?_
      · skip
        simp only [putAll, Act.put, List.setIfInBounds_toArray, List.set_cons_zero, List.set_cons_succ]
        go_simp
        refine hK _ G _ (by kernel_rfl) ?_
        exact ⟨⟨⟨⟨⟨(hJ.1.1.1.1.1), ⟨(hJ.1.1.1.1.2.1), (hJ.1.1.1.1.2.2)⟩⟩, ⟨⟨(hJ.1.1.1.2.1.1), (hJ.1.1.1.2.1.2)⟩, ⟨(hJ.1.1.1.2.2.1), (hJ.1.1.1.2.2.2)⟩⟩⟩, ⟨⟨(hJ.1.1.2.1.1), ⟨(hJ.1.1.2.1.2.1), (hJ.1.1.2.1.2.2)⟩⟩, ⟨⟨(hJ.1.1.2.2.1.1), (hJ.1.1.2.2.1.2)⟩, ⟨(hJ.1.1.2.2.2.1), fun q => (hJ.1.1.2.2.2.2) (rl q)⟩⟩⟩⟩, ⟨⟨⟨fun q n => (hJ.1.2.1.1.1) (rl q) (fun m => n (.inr m)), ⟨fun q => (hJ.1.2.1.1.2.1) (rl q), fun q => .inr ((hJ.1.2.1.1.2.2) (rl q))⟩⟩, ⟨⟨fun q => (hJ.1.2.1.2.1.1) (rl q), fun q n => (hJ.1.2.1.2.1.2) (rl q) (fun m => n (.inr m))⟩, ⟨fun q => (hJ.1.2.1.2.2.1) (rl q), fun q => .inr ((hJ.1.2.1.2.2.2) (rl q))⟩⟩⟩, ⟨⟨⟨fun q => (hJ.1.2.2.1.1.1) (rl q), fun q n => (hJ.1.2.2.1.1.2) (rl q) (fun m => n (.inr m))⟩, ⟨fun q => (hJ.1.2.2.1.2.1) (rl q), fun q => .inr ((hJ.1.2.2.1.2.2) (rl q))⟩⟩, ⟨⟨fun q => (hJ.1.2.2.2.1.1) (rl q), fun q n => (hJ.1.2.2.2.1.2) (rl q) (fun m => n (.inr m))⟩, ⟨fun q => (hJ.1.2.2.2.2.1) (rl q), fun q => .inr ((hJ.1.2.2.2.2.2) (rl q))⟩⟩⟩⟩⟩, ⟨⟨⟨⟨fun q r => (hJ.2.1.1.1.1) (rl q) (rl r), ⟨fun q r => (hJ.2.1.1.1.2.1) (rl q) (rl r), fun q r => (hJ.2.1.1.1.2.2) (rl q) (rl r)⟩⟩, ⟨⟨fun q r => (hJ.2.1.1.2.1.1) (rl q) (rl r), fun q r => (hJ.2.1.1.2.1.2) (rl q) (rl r)⟩, ⟨fun q r => (hJ.2.1.1.2.2.1) (rl q) (rl r), fun q => (hJ.2.1.1.2.2.2) (rl q)⟩⟩⟩, ⟨⟨⟨fun q => (hJ.2.1.2.1.1.1) (rl q), fun q => (hJ.2.1.2.1.1.2) (rl q)⟩, ⟨fun q => (hJ.2.1.2.1.2.1) (rl q), fun q => (hJ.2.1.2.1.2.2) (rl q)⟩⟩, ⟨⟨fun q => (hJ.2.1.2.2.1.1) (rl q), fun q => (hJ.2.1.2.2.1.2) (rl q)⟩, ⟨fun q => (hJ.2.1.2.2.2.1) (rl q), fun q => (hJ.2.1.2.2.2.2) (rl q)⟩⟩⟩⟩, ⟨⟨⟨fun q => (hJ.2.2.1.1.1) (rl q), ⟨fun q => (hJ.2.2.1.1.2.1) (rl q), fun q => (hJ.2.2.1.1.2.2) (rl q)⟩⟩, ⟨⟨fun q => (hJ.2.2.1.2.1.1) (rl q), fun q => (hJ.2.2.1.2.1.2) (rl q)⟩, ⟨fun q => (hJ.2.2.1.2.2.1) (rl q), fun _ => rfl⟩⟩⟩, ⟨⟨⟨fun q => (hJ.2.2.2.1.1.1) (rl q), fun q => (hJ.2.2.2.1.1.2) (rl q)⟩, ⟨fun q => (hJ.2.2.2.1.2.1) (rl q), fun q => (hJ.2.2.2.1.2.2) (rl q)⟩⟩, ⟨⟨fun q => (hJ.2.2.2.2.1.1) (rl q), fun q => (hJ.2.2.2.2.1.2) (rl q)⟩, ⟨fun q => (hJ.2.2.2.2.2.1) (rl q), fun q => (hJ.2.2.2.2.2.2) (rl q)⟩⟩⟩⟩⟩⟩
      refine StepsOk.cons (i := 16) rfl (fun L x G w1 K Q hn hp hJ hK => ?_) ?_
      · skip
        have p15 : L 15 := hp ⟨15, .data⟩ (by simp) rfl
        have e15 := (hJ.2.2.1.2.2.2) p15
        have hc := Blk.open2 ((hJ.1.1.1.1.2.2))
        have c0 := hc.1
        have c1 := hc.2.1
        have c2 := hc.2.2.1
        have c3 := hc.2.2.2
        clear hc
        simp only [putAll, Act.put, List.setIfInBounds_toArray, List.set_cons_zero, List.set_cons_succ]
        go_simp
        refine hK _ G _ (by kernel_rfl) ?_
        exact ⟨⟨⟨⟨⟨(hJ.1.1.1.1.1), ⟨(hJ.1.1.1.1.2.1), (hJ.1.1.1.1.2.2)⟩⟩, ⟨⟨(hJ.1.1.1.2.1.1), (hJ.1.1.1.2.1.2)⟩, ⟨(hJ.1.1.1.2.2.1), (hJ.1.1.1.2.2.2)⟩⟩⟩, ⟨⟨(hJ.1.1.2.1.1), ⟨(hJ.1.1.2.1.2.1), (hJ.1.1.2.1.2.2)⟩⟩, ⟨⟨(hJ.1.1.2.2.1.1), (hJ.1.1.2.2.1.2)⟩, ⟨(hJ.1.1.2.2.2.1), fun q => (hJ.1.1.2.2.2.2) (rl q)⟩⟩⟩⟩, ⟨⟨⟨fun q n => (hJ.1.2.1.1.1) (rl q) (fun m => n (.inr m)), ⟨fun q => (hJ.1.2.1.1.2.1) (rl q), fun q => .inr ((hJ.1.2.1.1.2.2) (rl q))⟩⟩, ⟨⟨fun q => (hJ.1.2.1.2.1.1) (rl q), fun q n => (hJ.1.2.1.2.1.2) (rl q) (fun m => n (.inr m))⟩, ⟨fun q => (hJ.1.2.1.2.2.1) (rl q), fun q => .inr ((hJ.1.2.1.2.2.2) (rl q))⟩⟩⟩, ⟨⟨⟨fun q => (hJ.1.2.2.1.1.1) (rl q), fun q n => (hJ.1.2.2.1.1.2) (rl q) (fun m => n (.inr m))⟩, ⟨fun q => (hJ.1.2.2.1.2.1) (rl q), fun q => .inr ((hJ.1.2.2.1.2.2) (rl q))⟩⟩, ⟨⟨fun q => (hJ.1.2.2.2.1.1) (rl q), fun q n => (hJ.1.2.2.2.1.2) (rl q) (fun m => n (.inr m))⟩, ⟨fun q => (hJ.1.2.2.2.2.1) (rl q), fun q => .inr ((hJ.1.2.2.2.2.2) (rl q))⟩⟩⟩⟩⟩, ⟨⟨⟨⟨fun q r => (hJ.2.1.1.1.1) (rl q) (rl r), ⟨fun q r => (hJ.2.1.1.1.2.1) (rl q) (rl r), fun q r => (hJ.2.1.1.1.2.2) (rl q) (rl r)⟩⟩, ⟨⟨fun q r => (hJ.2.1.1.2.1.1) (rl q) (rl r), fun q r => (hJ.2.1.1.2.1.2) (rl q) (rl r)⟩, ⟨fun q r => (hJ.2.1.1.2.2.1) (rl q) (rl r), fun q => (hJ.2.1.1.2.2.2) (rl q)⟩⟩⟩, ⟨⟨⟨fun q => (hJ.2.1.2.1.1.1) (rl q), fun q => (hJ.2.1.2.1.1.2) (rl q)⟩, ⟨fun q => (hJ.2.1.2.1.2.1) (rl q), fun q => (hJ.2.1.2.1.2.2) (rl q)⟩⟩, ⟨⟨fun q => (hJ.2.1.2.2.1.1) (rl q), fun q => (hJ.2.1.2.2.1.2) (rl q)⟩, ⟨fun q => (hJ.2.1.2.2.2.1) (rl q), fun q => (hJ.2.1.2.2.2.2) (rl q)⟩⟩⟩⟩, ⟨⟨⟨fun q => (hJ.2.2.1.1.1) (rl q), ⟨fun q => (hJ.2.2.1.1.2.1) (rl q), fun q => (hJ.2.2.1.1.2.2) (rl q)⟩⟩, ⟨⟨fun q => (hJ.2.2.1.2.1.1) (rl q), fun q => (hJ.2.2.1.2.1.2) (rl q)⟩, ⟨fun q => (hJ.2.2.1.2.2.1) (rl q), fun _ => by first | exact rfl | exact e15⟩⟩⟩, ⟨⟨⟨fun _ => rfl, fun q => (hJ.2.2.2.1.1.2) (rl q)⟩, ⟨fun q => (hJ.2.2.2.1.2.1) (rl q), fun q => (hJ.2.2.2.1.2.2) (rl q)⟩⟩, ⟨⟨fun q => (hJ.2.2.2.2.1.1) (rl q), fun q => (hJ.2.2.2.2.1.2) (rl q)⟩, ⟨fun q => (hJ.2.2.2.2.2.1) (rl q), fun q => (hJ.2.2.2.2.2.2) (rl q)⟩⟩⟩⟩⟩⟩
      refine StepsOk.cons (i := 17) rfl (fun L x G w1 K Q hn hp hJ hK => ?_) ?_
      · skip
        simp only [putAll, Act.put, List.setIfInBounds_toArray, List.set_cons_zero, List.set_cons_succ]
        go_simp
        refine hK _ G _ (by kernel_rfl) ?_
        exact ⟨⟨⟨⟨⟨(hJ.1.1.1.1.1), ⟨(hJ.1.1.1.1.2.1), (hJ.1.1.1.1.2.2)⟩⟩, ⟨⟨(hJ.1.1.1.2.1.1), (hJ.1.1.1.2.1.2)⟩, ⟨(hJ.1.1.1.2.2.1), (hJ.1.1.1.2.2.2)⟩⟩⟩, ⟨⟨(hJ.1.1.2.1.1), ⟨(hJ.1.1.2.1.2.1), (hJ.1.1.2.1.2.2)⟩⟩, ⟨⟨(hJ.1.1.2.2.1.1), (hJ.1.1.2.2.1.2)⟩, ⟨(hJ.1.1.2.2.2.1), fun q => (hJ.1.1.2.2.2.2) (rl q)⟩⟩⟩⟩, ⟨⟨⟨fun q n => (hJ.1.2.1.1.1) (rl q) (fun m => n (.inr m)), ⟨fun q => (hJ.1.2.1.1.2.1) (rl q), fun q => .inr ((hJ.1.2.1.1.2.2) (rl q))⟩⟩, ⟨⟨fun q => (hJ.1.2.1.2.1.1) (rl q), fun q n => (hJ.1.2.1.2.1.2) (rl q) (fun m => n (.inr m))⟩, ⟨fun q => (hJ.1.2.1.2.2.1) (rl q), fun q => .inr ((hJ.1.2.1.2.2.2) (rl q))⟩⟩⟩, ⟨⟨⟨fun q => (hJ.1.2.2.1.1.1) (rl q), fun q n => (hJ.1.2.2.1.1.2) (rl q) (fun m => n (.inr m))⟩, ⟨fun q => (hJ.1.2.2.1.2.1) (rl q), fun q => .inr ((hJ.1.2.2.1.2.2) (rl q))⟩⟩, ⟨⟨fun q => (hJ.1.2.2.2.1.1) (rl q), fun q n => (hJ.1.2.2.2.1.2) (rl q) (fun m => n (.inr m))⟩, ⟨fun q => (hJ.1.2.2.2.2.1) (rl q), fun q => .inr ((hJ.1.2.2.2.2.2) (rl q))⟩⟩⟩⟩⟩, ⟨⟨⟨⟨fun q r => (hJ.2.1.1.1.1) (rl q) (rl r), ⟨fun q r => (hJ.2.1.1.1.2.1) (rl q) (rl r), fun q r => (hJ.2.1.1.1.2.2) (rl q) (rl r)⟩⟩, ⟨⟨fun q r => (hJ.2.1.1.2.1.1) (rl q) (rl r), fun q r => (hJ.2.1.1.2.1.2) (rl q) (rl r)⟩, ⟨fun q r => (hJ.2.1.1.2.2.1) (rl q) (rl r), fun q => (hJ.2.1.1.2.2.2) (rl q)⟩⟩⟩, ⟨⟨⟨fun q => (hJ.2.1.2.1.1.1) (rl q), fun q => (hJ.2.1.2.1.1.2) (rl q)⟩, ⟨fun q => (hJ.2.1.2.1.2.1) (rl q), fun q => (hJ.2.1.2.1.2.2) (rl q)⟩⟩, ⟨⟨fun q => (hJ.2.1.2.2.1.1) (rl q), fun q => (hJ.2.1.2.2.1.2) (rl q)⟩, ⟨fun q => (hJ.2.1.2.2.2.1) (rl q), fun q => (hJ.2.1.2.2.2.2) (rl q)⟩⟩⟩⟩, ⟨⟨⟨fun q => (hJ.2.2.1.1.1) (rl q), ⟨fun q => (hJ.2.2.1.1.2.1) (rl q), fun q => (hJ.2.2.1.1.2.2) (rl q)⟩⟩, ⟨⟨fun q => (hJ.2.2.1.2.1.1) (rl q), fun q => (hJ.2.2.1.2.1.2) (rl q)⟩, ⟨fun q => (hJ.2.2.1.2.2.1) (rl q), fun q => (hJ.2.2.1.2.2.2) (rl q)⟩⟩⟩, ⟨⟨⟨fun q => (hJ.2.2.2.1.1.1) (rl q), fun _ => rfl⟩, ⟨fun q => (hJ.2.2.2.1.2.1) (rl q), fun q => (hJ.2.2.2.1.2.2) (rl q)⟩⟩, ⟨⟨fun q => (hJ.2.2.2.2.1.1) (rl q), fun q => (hJ.2.2.2.2.1.2) (rl q)⟩, ⟨fun q => (hJ.2.2.2.2.2.1) (rl q), fun q => (hJ.2.2.2.2.2.2) (rl q)⟩⟩⟩⟩⟩⟩
      refine StepsOk.cons (i := 18) rfl (fun L x G w1 K Q hn hp hJ hK => ?_) ?_
      · skip
        have p17 : L 17 := hp ⟨17, .data⟩ (by simp) rfl
        have e17 := (hJ.2.2.2.1.1.2) p17
        have hc := Blk.open2 ((hJ.1.1.1.2.1.2))
        have c0 := hc.1
        have c1 := hc.2.1
        have c2 := hc.2.2.1
        have c3 := hc.2.2.2
        clear hc
        simp only [putAll, Act.put, List.setIfInBounds_toArray, List.set_cons_zero, List.set_cons_succ]
        go_simp
        refine hK _ G _ (by kernel_rfl) ?_
        exact ⟨⟨⟨⟨⟨(hJ.1.1.1.1.1), ⟨(hJ.1.1.1.1.2.1), (hJ.1.1.1.1.2.2)⟩⟩, ⟨⟨(hJ.1.1.1.2.1.1), (hJ.1.1.1.2.1.2)⟩, ⟨(hJ.1.1.1.2.2.1), (hJ.1.1.1.2.2.2)⟩⟩⟩, ⟨⟨(hJ.1.1.2.1.1), ⟨(hJ.1.1.2.1.2.1), (hJ.1.1.2.1.2.2)⟩⟩, ⟨⟨(hJ.1.1.2.2.1.1), (hJ.1.1.2.2.1.2)⟩, ⟨(hJ.1.1.2.2.2.1), fun q => (hJ.1.1.2.2.2.2) (rl q)⟩⟩⟩⟩, ⟨⟨⟨fun q n => (hJ.1.2.1.1.1) (rl q) (fun m => n (.inr m)), ⟨fun q => (hJ.1.2.1.1.2.1) (rl q), fun q => .inr ((hJ.1.2.1.1.2.2) (rl q))⟩⟩, ⟨⟨fun q => (hJ.1.2.1.2.1.1) (rl q), fun q n => (hJ.1.2.1.2.1.2) (rl q) (fun m => n (.inr m))⟩, ⟨fun q => (hJ.1.2.1.2.2.1) (rl q), fun q => .inr ((hJ.1.2.1.2.2.2) (rl q))⟩⟩⟩, ⟨⟨⟨fun q => (hJ.1.2.2.1.1.1) (rl q), fun q n => (hJ.1.2.2.1.1.2) (rl q) (fun m => n (.inr m))⟩, ⟨fun q => (hJ.1.2.2.1.2.1) (rl q), fun q => .inr ((hJ.1.2.2.1.2.2) (rl q))⟩⟩, ⟨⟨fun q => (hJ.1.2.2.2.1.1) (rl q), fun q n => (hJ.1.2.2.2.1.2) (rl q) (fun m => n (.inr m))⟩, ⟨fun q => (hJ.1.2.2.2.2.1) (rl q), fun q => .inr ((hJ.1.2.2.2.2.2) (rl q))⟩⟩⟩⟩⟩, ⟨⟨⟨⟨fun q r => (hJ.2.1.1.1.1) (rl q) (rl r), ⟨fun q r => (hJ.2.1.1.1.2.1) (rl q) (rl r), fun q r => (hJ.2.1.1.1.2.2) (rl q) (rl r)⟩⟩, ⟨⟨fun q r => (hJ.2.1.1.2.1.1) (rl q) (rl r), fun q r => (hJ.2.1.1.2.1.2) (rl q) (rl r)⟩, ⟨fun q r => (hJ.2.1.1.2.2.1) (rl q) (rl r), fun q => (hJ.2.1.1.2.2.2) (rl q)⟩⟩⟩, ⟨⟨⟨fun q => (hJ.2.1.2.1.1.1) (rl q), fun q => (hJ.2.1.2.1.1.2) (rl q)⟩, ⟨fun q => (hJ.2.1.2.1.2.1) (rl q), fun q => (hJ.2.1.2.1.2.2) (rl q)⟩⟩, ⟨⟨fun q => (hJ.2.1.2.2.1.1) (rl q), fun q => (hJ.2.1.2.2.1.2) (rl q)⟩, ⟨fun q => (hJ.2.1.2.2.2.1) (rl q), fun q => (hJ.2.1.2.2.2.2) (rl q)⟩⟩⟩⟩, ⟨⟨⟨fun q => (hJ.2.2.1.1.1) (rl q), ⟨fun q => (hJ.2.2.1.1.2.1) (rl q), fun q => (hJ.2.2.1.1.2.2) (rl q)⟩⟩, ⟨⟨fun q => (hJ.2.2.1.2.1.1) (rl q), fun q => (hJ.2.2.1.2.1.2) (rl q)⟩, ⟨fun q => (hJ.2.2.1.2.2.1) (rl q), fun q => (hJ.2.2.1.2.2.2) (rl q)⟩⟩⟩, ⟨⟨⟨fun q => (hJ.2.2.2.1.1.1) (rl q), fun _ => by first | exact rfl | exact e17⟩, ⟨fun _ => rfl, fun q => (hJ.2.2.2.1.2.2) (rl q)⟩⟩, ⟨⟨fun q => (hJ.2.2.2.2.1.1) (rl q), fun q => (hJ.2.2.2.2.1.2) (rl q)⟩, ⟨fun q => (hJ.2.2.2.2.2.1) (rl q), fun q => (hJ.2.2.2.2.2.2) (rl q)⟩⟩⟩⟩⟩⟩
      refine StepsOk.cons (i := 19) rfl (fun L x G w1 K Q hn hp hJ hK => ?_) ?_
      · skip
        have p16 : L 16 := hp ⟨16, .data⟩ (by simp) rfl
        have e16 := (hJ.2.2.2.1.1.1) p16
        have p18 : L 18 := hp ⟨18, .data⟩ (by simp) rfl
        have e18 := (hJ.2.2.2.1.2.1) p18
        simp only [putAll, Act.put, List.setIfInBounds_toArray, List.set_cons_zero, List.set_cons_succ]
        go_simp
        refine (mul_c _ _ _ b3 b4 d3 d4).mono ?_
        rintro e w2 ⟨rfl, hb⟩
        have hz := hb.size
        try go_simp
        refine hK _ G _ (by kernel_rfl) ?_
        exact ⟨⟨⟨⟨⟨bt (hJ.1.1.1.1.1) hb, ⟨Nat.lt_of_lt_of_le (hJ.1.1.1.1.2.1) hb.size, Blk.keep ((hJ.1.1.1.1.2.2)) hb⟩⟩, ⟨⟨Nat.lt_of_lt_of_le (hJ.1.1.1.2.1.1) hb.size, Blk.keep ((hJ.1.1.1.2.1.2)) hb⟩, ⟨Nat.lt_of_lt_of_le (hJ.1.1.1.2.2.1) hb.size, Blk.keep ((hJ.1.1.1.2.2.2)) hb⟩⟩⟩, ⟨⟨Nat.lt_of_lt_of_le (hJ.1.1.2.1.1) hb.size, ⟨Blk.keep ((hJ.1.1.2.1.2.1)) hb, Nat.lt_of_lt_of_le (hJ.1.1.2.1.2.2) hb.size⟩⟩, ⟨⟨Blk.keep ((hJ.1.1.2.2.1.1)) hb, Nat.lt_of_lt_of_le (hJ.1.1.2.2.1.2) hb.size⟩, ⟨Blk.keep ((hJ.1.1.2.2.2.1)) hb, fun q => ⟨((hJ.1.1.2.2.2.2) (rl q)).1, by have := ((hJ.1.1.2.2.2.2) (rl q)).2.1; omega, ((hJ.1.1.2.2.2.2) (rl q)).2.2⟩⟩⟩⟩⟩, ⟨⟨⟨fun q n => Blk.keep ((hJ.1.2.1.1.1) (rl q) (fun m => n (.inr m))) hb, ⟨fun q => Blk.keep ((hJ.1.2.1.1.2.1) (rl q)) hb, fun q => .inr ((hJ.1.2.1.1.2.2) (rl q))⟩⟩, ⟨⟨fun q => ⟨((hJ.1.2.1.2.1.1) (rl q)).1, by have := ((hJ.1.2.1.2.1.1) (rl q)).2.1; omega, ((hJ.1.2.1.2.1.1) (rl q)).2.2⟩, fun q n => Blk.keep ((hJ.1.2.1.2.1.2) (rl q) (fun m => n (.inr m))) hb⟩, ⟨fun q => Blk.keep ((hJ.1.2.1.2.2.1) (rl q)) hb, fun q => .inr ((hJ.1.2.1.2.2.2) (rl q))⟩⟩⟩, ⟨⟨⟨fun q => ⟨((hJ.1.2.2.1.1.1) (rl q)).1, by have := ((hJ.1.2.2.1.1.1) (rl q)).2.1; omega, ((hJ.1.2.2.1.1.1) (rl q)).2.2⟩, fun q n => Blk.keep ((hJ.1.2.2.1.1.2) (rl q) (fun m => n (.inr m))) hb⟩, ⟨fun q => Blk.keep ((hJ.1.2.2.1.2.1) (rl q)) hb, fun q => .inr ((hJ.1.2.2.1.2.2) (rl q))⟩⟩, ⟨⟨fun q => ⟨((hJ.1.2.2.2.1.1) (rl q)).1, by have := ((hJ.1.2.2.2.1.1) (rl q)).2.1; omega, ((hJ.1.2.2.2.1.1) (rl q)).2.2⟩, fun q n => Blk.keep ((hJ.1.2.2.2.1.2) (rl q) (fun m => n (.inr m))) hb⟩, ⟨fun q => Blk.keep ((hJ.1.2.2.2.2.1) (rl q)) hb, fun q => .inr ((hJ.1.2.2.2.2.2) (rl q))⟩⟩⟩⟩⟩, ⟨⟨⟨⟨fun q r => (hJ.2.1.1.1.1) (rl q) (rl r), ⟨fun q r => (hJ.2.1.1.1.2.1) (rl q) (rl r), fun q r => (hJ.2.1.1.1.2.2) (rl q) (rl r)⟩⟩, ⟨⟨fun q r => (hJ.2.1.1.2.1.1) (rl q) (rl r), fun q r => (hJ.2.1.1.2.1.2) (rl q) (rl r)⟩, ⟨fun q r => (hJ.2.1.1.2.2.1) (rl q) (rl r), fun q => (hJ.2.1.1.2.2.2) (rl q)⟩⟩⟩, ⟨⟨⟨fun q => (hJ.2.1.2.1.1.1) (rl q), fun q => (hJ.2.1.2.1.1.2) (rl q)⟩, ⟨fun q => (hJ.2.1.2.1.2.1) (rl q), fun q => (hJ.2.1.2.1.2.2) (rl q)⟩⟩, ⟨⟨fun q => (hJ.2.1.2.2.1.1) (rl q), fun q => (hJ.2.1.2.2.1.2) (rl q)⟩, ⟨fun q => (hJ.2.1.2.2.2.1) (rl q), fun q => (hJ.2.1.2.2.2.2) (rl q)⟩⟩⟩⟩, ⟨⟨⟨fun q => (hJ.2.2.1.1.1) (rl q), ⟨fun q => (hJ.2.2.1.1.2.1) (rl q), fun q => (hJ.2.2.1.1.2.2) (rl q)⟩⟩, ⟨⟨fun q => (hJ.2.2.1.2.1.1) (rl q), fun q => (hJ.2.2.1.2.1.2) (rl q)⟩, ⟨fun q => (hJ.2.2.1.2.2.1) (rl q), fun q => (hJ.2.2.1.2.2.2) (rl q)⟩⟩⟩, ⟨⟨⟨fun _ => by first | exact rfl | exact e16, fun q => (hJ.2.2.2.1.1.2) (rl q)⟩, ⟨fun _ => by first | exact rfl | exact e18, fun _ => rfl⟩⟩, ⟨⟨fun q => (hJ.2.2.2.2.1.1) (rl q), fun q => (hJ.2.2.2.2.1.2) (rl q)⟩, ⟨fun q => (hJ.2.2.2.2.2.1) (rl q), fun q => (hJ.2.2.2.2.2.2) (rl q)⟩⟩⟩⟩⟩⟩
      refine StepsOk.cons (i := 20) rfl (fun L x G w1 K Q hn hp hJ hK => ?_) ?_
      · skip
        simp only [putAll, Act.put, List.setIfInBounds_toArray, List.set_cons_zero, List.set_cons_succ]
        go_simp
        refine hK _ (fun t => if t = 20 then w1.heap.size else G t) _ (by kernel_rfl) ?_
        exact ⟨⟨⟨⟨⟨bal (hJ.1.1.1.1.1) _, ⟨by simp; omega, Blk.alloc ((hJ.1.1.1.1.2.2)) _⟩⟩, ⟨⟨by simp; omega, Blk.alloc ((hJ.1.1.1.2.1.2)) _⟩, ⟨by simp; omega, Blk.alloc ((hJ.1.1.1.2.2.2)) _⟩⟩⟩, ⟨⟨by simp; omega, ⟨Blk.alloc ((hJ.1.1.2.1.2.1)) _, by simp; omega⟩⟩, ⟨⟨Blk.alloc ((hJ.1.1.2.2.1.1)) _, by simp; omega⟩, ⟨Blk.alloc ((hJ.1.1.2.2.2.1)) _, fun _ => ⟨(hJ.1.1.1.1.1).size, by simp, Nat.ne_of_lt (hJ.1.1.1.1.2.1), Nat.ne_of_lt (hJ.1.1.1.2.1.1), Nat.ne_of_lt (hJ.1.1.1.2.2.1), Nat.ne_of_lt (hJ.1.1.2.1.1), Nat.ne_of_lt (hJ.1.1.2.1.2.2), Nat.ne_of_lt (hJ.1.1.2.2.1.2)⟩⟩⟩⟩⟩, ⟨⟨⟨fun _ _ => Blk.new w1 _ _, ⟨fun q => absurd ((hJ.1.2.1.1.2.2) (rl q)) hn, fun q => .inr ((hJ.1.2.1.1.2.2) (rl q))⟩⟩, ⟨⟨fun q => ⟨((hJ.1.2.1.2.1.1) (rl q)).1, by have := ((hJ.1.2.1.2.1.1) (rl q)).2.1; simp; omega, ((hJ.1.2.1.2.1.1) (rl q)).2.2⟩, fun q n => Blk.alloc ((hJ.1.2.1.2.1.2) (rl q) (fun m => n (.inr m))) _⟩, ⟨fun q => Blk.alloc ((hJ.1.2.1.2.2.1) (rl q)) _, fun q => .inr ((hJ.1.2.1.2.2.2) (rl q))⟩⟩⟩, ⟨⟨⟨fun q => ⟨((hJ.1.2.2.1.1.1) (rl q)).1, by have := ((hJ.1.2.2.1.1.1) (rl q)).2.1; simp; omega, ((hJ.1.2.2.1.1.1) (rl q)).2.2⟩, fun q n => Blk.alloc ((hJ.1.2.2.1.1.2) (rl q) (fun m => n (.inr m))) _⟩, ⟨fun q => Blk.alloc ((hJ.1.2.2.1.2.1) (rl q)) _, fun q => .inr ((hJ.1.2.2.1.2.2) (rl q))⟩⟩, ⟨⟨fun q => ⟨((hJ.1.2.2.2.1.1) (rl q)).1, by have := ((hJ.1.2.2.2.1.1) (rl q)).2.1; simp; omega, ((hJ.1.2.2.2.1.1) (rl q)).2.2⟩, fun q n => Blk.alloc ((hJ.1.2.2.2.1.2) (rl q) (fun m => n (.inr m))) _⟩, ⟨fun q => Blk.alloc ((hJ.1.2.2.2.2.1) (rl q)) _, fun q => .inr ((hJ.1.2.2.2.2.2) (rl q))⟩⟩⟩⟩⟩, ⟨⟨⟨⟨fun q _ => Nat.ne_of_lt ((hJ.1.2.1.2.1.1) (rl q)).2.1, ⟨fun q _ => Nat.ne_of_lt ((hJ.1.2.2.1.1.1) (rl q)).2.1, fun q r => (hJ.2.1.1.1.2.2) (rl q) (rl r)⟩⟩, ⟨⟨fun q _ => Nat.ne_of_lt ((hJ.1.2.2.2.1.1) (rl q)).2.1, fun q r => (hJ.2.1.1.2.1.2) (rl q) (rl r)⟩, ⟨fun q r => (hJ.2.1.1.2.2.1) (rl q) (rl r), fun q => (hJ.2.1.1.2.2.2) (rl q)⟩⟩⟩, ⟨⟨⟨fun q => (hJ.2.1.2.1.1.1) (rl q), fun q => (hJ.2.1.2.1.1.2) (rl q)⟩, ⟨fun q => (hJ.2.1.2.1.2.1) (rl q), fun q => (hJ.2.1.2.1.2.2) (rl q)⟩⟩, ⟨⟨fun q => (hJ.2.1.2.2.1.1) (rl q), fun q => (hJ.2.1.2.2.1.2) (rl q)⟩, ⟨fun q => (hJ.2.1.2.2.2.1) (rl q), fun q => (hJ.2.1.2.2.2.2) (rl q)⟩⟩⟩⟩, ⟨⟨⟨fun q => (hJ.2.2.1.1.1) (rl q), ⟨fun q => (hJ.2.2.1.1.2.1) (rl q), fun q => (hJ.2.2.1.1.2.2) (rl q)⟩⟩, ⟨⟨fun q => (hJ.2.2.1.2.1.1) (rl q), fun q => (hJ.2.2.1.2.1.2) (rl q)⟩, ⟨fun q => (hJ.2.2.1.2.2.1) (rl q), fun q => (hJ.2.2.1.2.2.2) (rl q)⟩⟩⟩, ⟨⟨⟨fun q => (hJ.2.2.2.1.1.1) (rl q), fun q => (hJ.2.2.2.1.1.2) (rl q)⟩, ⟨fun q => (hJ.2.2.2.1.2.1) (rl q), fun q => (hJ.2.2.2.1.2.2) (rl q)⟩⟩, ⟨⟨fun _ => rfl, fun q => (hJ.2.2.2.2.1.2) (rl q)⟩, ⟨fun q => (hJ.2.2.2.2.2.1) (rl q), fun q => (hJ.2.2.2.2.2.2) (rl q)⟩⟩⟩⟩⟩⟩
      refine StepsOk.cons (i := 21) rfl (fun L x G w1 K Q hn hp hJ hK => ?_) ?_
      · skip
        simp only [putAll, Act.put, List.setIfInBounds_toArray, List.set_cons_zero, List.set_cons_succ]
        go_simp
        refine hK _ (fun t => if t = 21 then w1.heap.size else G t) _ (by kernel_rfl) ?_
        exact ⟨⟨⟨⟨⟨bal (hJ.1.1.1.1.1) _, ⟨by simp; omega, Blk.alloc ((hJ.1.1.1.1.2.2)) _⟩⟩, ⟨⟨by simp; omega, Blk.alloc ((hJ.1.1.1.2.1.2)) _⟩, ⟨by simp; omega, Blk.alloc ((hJ.1.1.1.2.2.2)) _⟩⟩⟩, ⟨⟨by simp; omega, ⟨Blk.alloc ((hJ.1.1.2.1.2.1)) _, by simp; omega⟩⟩, ⟨⟨Blk.alloc ((hJ.1.1.2.2.1.1)) _, by simp; omega⟩, ⟨Blk.alloc ((hJ.1.1.2.2.2.1)) _, fun q => ⟨((hJ.1.1.2.2.2.2) (rl q)).1, by have := ((hJ.1.1.2.2.2.2) (rl q)).2.1; simp; omega, ((hJ.1.1.2.2.2.2) (rl q)).2.2⟩⟩⟩⟩⟩, ⟨⟨⟨fun q n => Blk.alloc ((hJ.1.2.1.1.1) (rl q) (fun m => n (.inr m))) _, ⟨fun q => Blk.alloc ((hJ.1.2.1.1.2.1) (rl q)) _, fun q => .inr ((hJ.1.2.1.1.2.2) (rl q))⟩⟩, ⟨⟨fun _ => ⟨(hJ.1.1.1.1.1).size, by simp, Nat.ne_of_lt (hJ.1.1.1.1.2.1), Nat.ne_of_lt (hJ.1.1.1.2.1.1), Nat.ne_of_lt (hJ.1.1.1.2.2.1), Nat.ne_of_lt (hJ.1.1.2.1.1), Nat.ne_of_lt (hJ.1.1.2.1.2.2), Nat.ne_of_lt (hJ.1.1.2.2.1.2)⟩, fun _ _ => Blk.new w1 _ _⟩, ⟨fun q => absurd ((hJ.1.2.1.2.2.2) (rl q)) hn, fun q => .inr ((hJ.1.2.1.2.2.2) (rl q))⟩⟩⟩, ⟨⟨⟨fun q => ⟨((hJ.1.2.2.1.1.1) (rl q)).1, by have := ((hJ.1.2.2.1.1.1) (rl q)).2.1; simp; omega, ((hJ.1.2.2.1.1.1) (rl q)).2.2⟩, fun q n => Blk.alloc ((hJ.1.2.2.1.1.2) (rl q) (fun m => n (.inr m))) _⟩, ⟨fun q => Blk.alloc ((hJ.1.2.2.1.2.1) (rl q)) _, fun q => .inr ((hJ.1.2.2.1.2.2) (rl q))⟩⟩, ⟨⟨fun q => ⟨((hJ.1.2.2.2.1.1) (rl q)).1, by have := ((hJ.1.2.2.2.1.1) (rl q)).2.1; simp; omega, ((hJ.1.2.2.2.1.1) (rl q)).2.2⟩, fun q n => Blk.alloc ((hJ.1.2.2.2.1.2) (rl q) (fun m => n (.inr m))) _⟩, ⟨fun q => Blk.alloc ((hJ.1.2.2.2.2.1) (rl q)) _, fun q => .inr ((hJ.1.2.2.2.2.2) (rl q))⟩⟩⟩⟩⟩, ⟨⟨⟨⟨fun _ r => Nat.ne_of_gt ((hJ.1.1.2.2.2.2) (rl r)).2.1, ⟨fun q r => (hJ.2.1.1.1.2.1) (rl q) (rl r), fun q _ => Nat.ne_of_lt ((hJ.1.2.2.1.1.1) (rl q)).2.1⟩⟩, ⟨⟨fun q r => (hJ.2.1.1.2.1.1) (rl q) (rl r), fun q _ => Nat.ne_of_lt ((hJ.1.2.2.2.1.1) (rl q)).2.1⟩, ⟨fun q r => (hJ.2.1.1.2.2.1) (rl q) (rl r), fun q => (hJ.2.1.1.2.2.2) (rl q)⟩⟩⟩, ⟨⟨⟨fun q => (hJ.2.1.2.1.1.1) (rl q), fun q => (hJ.2.1.2.1.1.2) (rl q)⟩, ⟨fun q => (hJ.2.1.2.1.2.1) (rl q), fun q => (hJ.2.1.2.1.2.2) (rl q)⟩⟩, ⟨⟨fun q => (hJ.2.1.2.2.1.1) (rl q), fun q => (hJ.2.1.2.2.1.2) (rl q)⟩, ⟨fun q => (hJ.2.1.2.2.2.1) (rl q), fun q => (hJ.2.1.2.2.2.2) (rl q)⟩⟩⟩⟩, ⟨⟨⟨fun q => (hJ.2.2.1.1.1) (rl q), ⟨fun q => (hJ.2.2.1.1.2.1) (rl q), fun q => (hJ.2.2.1.1.2.2) (rl q)⟩⟩, ⟨⟨fun q => (hJ.2.2.1.2.1.1) (rl q), fun q => (hJ.2.2.1.2.1.2) (rl q)⟩, ⟨fun q => (hJ.2.2.1.2.2.1) (rl q), fun q => (hJ.2.2.1.2.2.2) (rl q)⟩⟩⟩, ⟨⟨⟨fun q => (hJ.2.2.2.1.1.1) (rl q), fun q => (hJ.2.2.2.1.1.2) (rl q)⟩, ⟨fun q => (hJ.2.2.2.1.2.1) (rl q), fun q => (hJ.2.2.2.1.2.2) (rl q)⟩⟩, ⟨⟨fun q => (hJ.2.2.2.2.1.1) (rl q), fun _ => rfl⟩, ⟨fun q => (hJ.2.2.2.2.2.1) (rl q), fun q => (hJ.2.2.2.2.2.2) (rl q)⟩⟩⟩⟩⟩⟩
      refine StepsOk.cons (i := 22) rfl (fun L x G w1 K Q hn hp hJ hK => ?_) ?_
      · skip
        simp only [putAll, Act.put, List.setIfInBounds_toArray, List.set_cons_zero, List.set_cons_succ]
        go_simp
        refine hK _ (fun t => if t = 22 then w1.heap.size else G t) _ (by kernel_rfl) ?_
        exact ⟨⟨⟨⟨⟨bal (hJ.1.1.1.1.1) _, ⟨by simp; omega, Blk.alloc ((hJ.1.1.1.1.2.2)) _⟩⟩, ⟨⟨by simp; omega, Blk.alloc ((hJ.1.1.1.2.1.2)) _⟩, ⟨by simp; omega, Blk.alloc ((hJ.1.1.1.2.2.2)) _⟩⟩⟩, ⟨⟨by simp; omega, ⟨Blk.alloc ((hJ.1.1.2.1.2.1)) _, by simp; omega⟩⟩, ⟨⟨Blk.alloc ((hJ.1.1.2.2.1.1)) _, by simp; omega⟩, ⟨Blk.alloc ((hJ.1.1.2.2.2.1)) _, fun q => ⟨((hJ.1.1.2.2.2.2) (rl q)).1, by have := ((hJ.1.1.2.2.2.2) (rl q)).2.1; simp; omega, ((hJ.1.1.2.2.2.2) (rl q)).2.2⟩⟩⟩⟩⟩, ⟨⟨⟨fun q n => Blk.alloc ((hJ.1.2.1.1.1) (rl q) (fun m => n (.inr m))) _, ⟨fun q => Blk.alloc ((hJ.1.2.1.1.2.1) (rl q)) _, fun q => .inr ((hJ.1.2.1.1.2.2) (rl q))⟩⟩, ⟨⟨fun q => ⟨((hJ.1.2.1.2.1.1) (rl q)).1, by have := ((hJ.1.2.1.2.1.1) (rl q)).2.1; simp; omega, ((hJ.1.2.1.2.1.1) (rl q)).2.2⟩, fun q n => Blk.alloc ((hJ.1.2.1.2.1.2) (rl q) (fun m => n (.inr m))) _⟩, ⟨fun q => Blk.alloc ((hJ.1.2.1.2.2.1) (rl q)) _, fun q => .inr ((hJ.1.2.1.2.2.2) (rl q))⟩⟩⟩, ⟨⟨⟨fun _ => ⟨(hJ.1.1.1.1.1).size, by simp, Nat.ne_of_lt (hJ.1.1.1.1.2.1), Nat.ne_of_lt (hJ.1.1.1.2.1.1), Nat.ne_of_lt (hJ.1.1.1.2.2.1), Nat.ne_of_lt (hJ.1.1.2.1.1), Nat.ne_of_lt (hJ.1.1.2.1.2.2), Nat.ne_of_lt (hJ.1.1.2.2.1.2)⟩, fun _ _ => Blk.new w1 _ _⟩, ⟨fun q => absurd ((hJ.1.2.2.1.2.2) (rl q)) hn, fun q => .inr ((hJ.1.2.2.1.2.2) (rl q))⟩⟩, ⟨⟨fun q => ⟨((hJ.1.2.2.2.1.1) (rl q)).1, by have := ((hJ.1.2.2.2.1.1) (rl q)).2.1; simp; omega, ((hJ.1.2.2.2.1.1) (rl q)).2.2⟩, fun q n => Blk.alloc ((hJ.1.2.2.2.1.2) (rl q) (fun m => n (.inr m))) _⟩, ⟨fun q => Blk.alloc ((hJ.1.2.2.2.2.1) (rl q)) _, fun q => .inr ((hJ.1.2.2.2.2.2) (rl q))⟩⟩⟩⟩⟩, ⟨⟨⟨⟨fun q r => (hJ.2.1.1.1.1) (rl q) (rl r), ⟨fun _ r => Nat.ne_of_gt ((hJ.1.1.2.2.2.2) (rl r)).2.1, fun _ r => Nat.ne_of_gt ((hJ.1.2.1.2.1.1) (rl r)).2.1⟩⟩, ⟨⟨fun q r => (hJ.2.1.1.2.1.1) (rl q) (rl r), fun q r => (hJ.2.1.1.2.1.2) (rl q) (rl r)⟩, ⟨fun q _ => Nat.ne_of_lt ((hJ.1.2.2.2.1.1) (rl q)).2.1, fun q => (hJ.2.1.1.2.2.2) (rl q)⟩⟩⟩, ⟨⟨⟨fun q => (hJ.2.1.2.1.1.1) (rl q), fun q => (hJ.2.1.2.1.1.2) (rl q)⟩, ⟨fun q => (hJ.2.1.2.1.2.1) (rl q), fun q => (hJ.2.1.2.1.2.2) (rl q)⟩⟩, ⟨⟨fun q => (hJ.2.1.2.2.1.1) (rl q), fun q => (hJ.2.1.2.2.1.2) (rl q)⟩, ⟨fun q => (hJ.2.1.2.2.2.1) (rl q), fun q => (hJ.2.1.2.2.2.2) (rl q)⟩⟩⟩⟩, ⟨⟨⟨fun q => (hJ.2.2.1.1.1) (rl q), ⟨fun q => (hJ.2.2.1.1.2.1) (rl q), fun q => (hJ.2.2.1.1.2.2) (rl q)⟩⟩, ⟨⟨fun q => (hJ.2.2.1.2.1.1) (rl q), fun q => (hJ.2.2.1.2.1.2) (rl q)⟩, ⟨fun q => (hJ.2.2.1.2.2.1) (rl q), fun q => (hJ.2.2.1.2.2.2) (rl q)⟩⟩⟩, ⟨⟨⟨fun q => (hJ.2.2.2.1.1.1) (rl q), fun q => (hJ.2.2.2.1.1.2) (rl q)⟩, ⟨fun q => (hJ.2.2.2.1.2.1) (rl q), fun q => (hJ.2.2.2.1.2.2) (rl q)⟩⟩, ⟨⟨fun q => (hJ.2.2.2.2.1.1) (rl q), fun q => (hJ.2.2.2.2.1.2) (rl q)⟩, ⟨fun _ => rfl, fun q => (hJ.2.2.2.2.2.2) (rl q)⟩⟩⟩⟩⟩⟩
      refine StepsOk.cons (i := 23) rfl (fun L x G w1 K Q hn hp hJ hK => ?_) ?_
      · skip
        simp only [putAll, Act.put, List.setIfInBounds_toArray, List.set_cons_zero, List.set_cons_succ]
        go_simp
        refine hK _ (fun t => if t = 23 then w1.heap.size else G t) _ (by kernel_rfl) ?_
        exact ⟨⟨⟨⟨⟨bal (hJ.1.1.1.1.1) _, ⟨by simp; omega, Blk.alloc ((hJ.1.1.1.1.2.2)) _⟩⟩, ⟨⟨by simp; omega, Blk.alloc ((hJ.1.1.1.2.1.2)) _⟩, ⟨by simp; omega, Blk.alloc ((hJ.1.1.1.2.2.2)) _⟩⟩⟩, ⟨⟨by simp; omega, ⟨Blk.alloc ((hJ.1.1.2.1.2.1)) _, by simp; omega⟩⟩, ⟨⟨Blk.alloc ((hJ.1.1.2.2.1.1)) _, by simp; omega⟩, ⟨Blk.alloc ((hJ.1.1.2.2.2.1)) _, fun q => ⟨((hJ.1.1.2.2.2.2) (rl q)).1, by have := ((hJ.1.1.2.2.2.2) (rl q)).2.1; simp; omega, ((hJ.1.1.2.2.2.2) (rl q)).2.2⟩⟩⟩⟩⟩, ⟨⟨⟨fun q n => Blk.alloc ((hJ.1.2.1.1.1) (rl q) (fun m => n (.inr m))) _, ⟨fun q => Blk.alloc ((hJ.1.2.1.1.2.1) (rl q)) _, fun q => .inr ((hJ.1.2.1.1.2.2) (rl q))⟩⟩, ⟨⟨fun q => ⟨((hJ.1.2.1.2.1.1) (rl q)).1, by have := ((hJ.1.2.1.2.1.1) (rl q)).2.1; simp; omega, ((hJ.1.2.1.2.1.1) (rl q)).2.2⟩, fun q n => Blk.alloc ((hJ.1.2.1.2.1.2) (rl q) (fun m => n (.inr m))) _⟩, ⟨fun q => Blk.alloc ((hJ.1.2.1.2.2.1) (rl q)) _, fun q => .inr ((hJ.1.2.1.2.2.2) (rl q))⟩⟩⟩, ⟨⟨⟨fun q => ⟨((hJ.1.2.2.1.1.1) (rl q)).1, by have := ((hJ.1.2.2.1.1.1) (rl q)).2.1; simp; omega, ((hJ.1.2.2.1.1.1) (rl q)).2.2⟩, fun q n => Blk.alloc ((hJ.1.2.2.1.1.2) (rl q) (fun m => n (.inr m))) _⟩, ⟨fun q => Blk.alloc ((hJ.1.2.2.1.2.1) (rl q)) _, fun q => .inr ((hJ.1.2.2.1.2.2) (rl q))⟩⟩, ⟨⟨fun _ => ⟨(hJ.1.1.1.1.1).size, by simp, Nat.ne_of_lt (hJ.1.1.1.1.2.1), Nat.ne_of_lt (hJ.1.1.1.2.1.1), Nat.ne_of_lt (hJ.1.1.1.2.2.1), Nat.ne_of_lt (hJ.1.1.2.1.1), Nat.ne_of_lt (hJ.1.1.2.1.2.2), Nat.ne_of_lt (hJ.1.1.2.2.1.2)⟩, fun _ _ => Blk.new w1 _ _⟩, ⟨fun q => absurd ((hJ.1.2.2.2.2.2) (rl q)) hn, fun q => .inr ((hJ.1.2.2.2.2.2) (rl q))⟩⟩⟩⟩⟩, ⟨⟨⟨⟨fun q r => (hJ.2.1.1.1.1) (rl q) (rl r), ⟨fun q r => (hJ.2.1.1.1.2.1) (rl q) (rl r), fun q r => (hJ.2.1.1.1.2.2) (rl q) (rl r)⟩⟩, ⟨⟨fun _ r => Nat.ne_of_gt ((hJ.1.1.2.2.2.2) (rl r)).2.1, fun _ r => Nat.ne_of_gt ((hJ.1.2.1.2.1.1) (rl r)).2.1⟩, ⟨fun _ r => Nat.ne_of_gt ((hJ.1.2.2.1.1.1) (rl r)).2.1, fun q => (hJ.2.1.1.2.2.2) (rl q)⟩⟩⟩, ⟨⟨⟨fun q => (hJ.2.1.2.1.1.1) (rl q), fun q => (hJ.2.1.2.1.1.2) (rl q)⟩, ⟨fun q => (hJ.2.1.2.1.2.1) (rl q), fun q => (hJ.2.1.2.1.2.2) (rl q)⟩⟩, ⟨⟨fun q => (hJ.2.1.2.2.1.1) (rl q), fun q => (hJ.2.1.2.2.1.2) (rl q)⟩, ⟨fun q => (hJ.2.1.2.2.2.1) (rl q), fun q => (hJ.2.1.2.2.2.2) (rl q)⟩⟩⟩⟩, ⟨⟨⟨fun q => (hJ.2.2.1.1.1) (rl q), ⟨fun q => (hJ.2.2.1.1.2.1) (rl q), fun q => (hJ.2.2.1.1.2.2) (rl q)⟩⟩, ⟨⟨fun q => (hJ.2.2.1.2.1.1) (rl q), fun q => (hJ.2.2.1.2.1.2) (rl q)⟩, ⟨fun q => (hJ.2.2.1.2.2.1) (rl q), fun q => (hJ.2.2.1.2.2.2) (rl q)⟩⟩⟩, ⟨⟨⟨fun q => (hJ.2.2.2.1.1.1) (rl q), fun q => (hJ.2.2.2.1.1.2) (rl q)⟩, ⟨fun q => (hJ.2.2.2.1.2.1) (rl q), fun q => (hJ.2.2.2.1.2.2) (rl q)⟩⟩, ⟨⟨fun q => (hJ.2.2.2.2.1.1) (rl q), fun q => (hJ.2.2.2.2.1.2) (rl q)⟩, ⟨fun q => (hJ.2.2.2.2.2.1) (rl q), fun _ => rfl⟩⟩⟩⟩⟩⟩
      refine StepsOk.cons (i := 24) rfl (fun L x G w1 K Q hn hp hJ hK => ?_) ?_
      · skip
        have p4 : L 4 := hp ⟨4, .data⟩ (by simp) rfl
        have e4 := (hJ.2.1.2.1.2.2) p4
        have p20 : L 20 := hp ⟨20, .data⟩ (by simp) rfl
        have e20 := (hJ.2.2.2.2.1.1) p20
        have hc := Blk.open2 (((hJ.1.2.1.1.1) p20 hn))
        have c0 := hc.1
        have c1 := hc.2.1
        have c2 := hc.2.2.1
        have c3 := hc.2.2.2
        clear hc
        simp only [putAll, Act.put, List.setIfInBounds_toArray, List.set_cons_zero, List.set_cons_succ]
        go_simp
        refine hK _ G _ (by kernel_rfl) ?_
        exact ⟨⟨⟨⟨⟨bst (bst ((hJ.1.1.1.1.1)) (p := ⟨G 20, 0, none⟩) ((hJ.1.1.2.2.2.2) p20).1 (.int .i64 (Wi.Hq (l * l')))) (p := ⟨G 20, 1, none⟩) ((hJ.1.1.2.2.2.2) p20).1 (.int .u64 (Wi.Lr (l * l'))), ⟨by simpa using (hJ.1.1.1.1.2.1), Blk.far (Blk.far ((hJ.1.1.1.1.2.2)) (p := ⟨G 20, 0, none⟩) (((hJ.1.1.2.2.2.2) p20).2.2.1) (.int .i64 (Wi.Hq (l * l')))) (p := ⟨G 20, 1, none⟩) (((hJ.1.1.2.2.2.2) p20).2.2.1) (.int .u64 (Wi.Lr (l * l')))⟩⟩, ⟨⟨by simpa using (hJ.1.1.1.2.1.1), Blk.far (Blk.far ((hJ.1.1.1.2.1.2)) (p := ⟨G 20, 0, none⟩) (((hJ.1.1.2.2.2.2) p20).2.2.2.1) (.int .i64 (Wi.Hq (l * l')))) (p := ⟨G 20, 1, none⟩) (((hJ.1.1.2.2.2.2) p20).2.2.2.1) (.int .u64 (Wi.Lr (l * l')))⟩, ⟨by simpa using (hJ.1.1.1.2.2.1), Blk.far (Blk.far ((hJ.1.1.1.2.2.2)) (p := ⟨G 20, 0, none⟩) (((hJ.1.1.2.2.2.2) p20).2.2.2.2.1) (.int .i64 (Wi.Hq (l * l')))) (p := ⟨G 20, 1, none⟩) (((hJ.1.1.2.2.2.2) p20).2.2.2.2.1) (.int .u64 (Wi.Lr (l * l')))⟩⟩⟩, ⟨⟨by simpa using (hJ.1.1.2.1.1), ⟨Blk.far (Blk.far ((hJ.1.1.2.1.2.1)) (p := ⟨G 20, 0, none⟩) (((hJ.1.1.2.2.2.2) p20).2.2.2.2.2.1) (.int .i64 (Wi.Hq (l * l')))) (p := ⟨G 20, 1, none⟩) (((hJ.1.1.2.2.2.2) p20).2.2.2.2.2.1) (.int .u64 (Wi.Lr (l * l'))), by simpa using (hJ.1.1.2.1.2.2)⟩⟩, ⟨⟨Blk.far (Blk.far ((hJ.1.1.2.2.1.1)) (p := ⟨G 20, 0, none⟩) (((hJ.1.1.2.2.2.2) p20).2.2.2.2.2.2.1) (.int .i64 (Wi.Hq (l * l')))) (p := ⟨G 20, 1, none⟩) (((hJ.1.1.2.2.2.2) p20).2.2.2.2.2.2.1) (.int .u64 (Wi.Lr (l * l'))), by simpa using (hJ.1.1.2.2.1.2)⟩, ⟨Blk.far (Blk.far ((hJ.1.1.2.2.2.1)) (p := ⟨G 20, 0, none⟩) (((hJ.1.1.2.2.2.2) p20).2.2.2.2.2.2.2) (.int .i64 (Wi.Hq (l * l')))) (p := ⟨G 20, 1, none⟩) (((hJ.1.1.2.2.2.2) p20).2.2.2.2.2.2.2) (.int .u64 (Wi.Lr (l * l'))), fun q => ⟨((hJ.1.1.2.2.2.2) (rl q)).1, by have := ((hJ.1.1.2.2.2.2) (rl q)).2.1; simpa using this, ((hJ.1.1.2.2.2.2) (rl q)).2.2⟩⟩⟩⟩⟩, ⟨⟨⟨fun _ n => absurd (.inl rfl) n, ⟨fun _ => by simpa using Blk.set_ (Blk.set_ (((hJ.1.2.1.1.1) p20 hn)) 0 (.int .i64 (Wi.Hq (l * l')))) 1 (.int .u64 (Wi.Lr (l * l'))), fun _ => .inr p20⟩⟩, ⟨⟨fun q => ⟨((hJ.1.2.1.2.1.1) (rl q)).1, by have := ((hJ.1.2.1.2.1.1) (rl q)).2.1; simpa using this, ((hJ.1.2.1.2.1.1) (rl q)).2.2⟩, fun q n => Blk.far (Blk.far ((hJ.1.2.1.2.1.2) (rl q) (fun m => n (.inr m))) (p := ⟨G 20, 0, none⟩) ((hJ.2.1.1.1.1) (rl q) p20) (.int .i64 (Wi.Hq (l * l')))) (p := ⟨G 20, 1, none⟩) ((hJ.2.1.1.1.1) (rl q) p20) (.int .u64 (Wi.Lr (l * l')))⟩, ⟨fun q => Blk.far (Blk.far ((hJ.1.2.1.2.2.1) (rl q)) (p := ⟨G 20, 0, none⟩) ((hJ.2.1.1.1.1) ((hJ.1.2.1.2.2.2) (rl q)) p20) (.int .i64 (Wi.Hq (l * l')))) (p := ⟨G 20, 1, none⟩) ((hJ.2.1.1.1.1) ((hJ.1.2.1.2.2.2) (rl q)) p20) (.int .u64 (Wi.Lr (l * l'))), fun q => .inr ((hJ.1.2.1.2.2.2) (rl q))⟩⟩⟩, ⟨⟨⟨fun q => ⟨((hJ.1.2.2.1.1.1) (rl q)).1, by have := ((hJ.1.2.2.1.1.1) (rl q)).2.1; simpa using this, ((hJ.1.2.2.1.1.1) (rl q)).2.2⟩, fun q n => Blk.far (Blk.far ((hJ.1.2.2.1.1.2) (rl q) (fun m => n (.inr m))) (p := ⟨G 20, 0, none⟩) ((hJ.2.1.1.1.2.1) (rl q) p20) (.int .i64 (Wi.Hq (l * l')))) (p := ⟨G 20, 1, none⟩) ((hJ.2.1.1.1.2.1) (rl q) p20) (.int .u64 (Wi.Lr (l * l')))⟩, ⟨fun q => Blk.far (Blk.far ((hJ.1.2.2.1.2.1) (rl q)) (p := ⟨G 20, 0, none⟩) ((hJ.2.1.1.1.2.1) ((hJ.1.2.2.1.2.2) (rl q)) p20) (.int .i64 (Wi.Hq (l * l')))) (p := ⟨G 20, 1, none⟩) ((hJ.2.1.1.1.2.1) ((hJ.1.2.2.1.2.2) (rl q)) p20) (.int .u64 (Wi.Lr (l * l'))), fun q => .inr ((hJ.1.2.2.1.2.2) (rl q))⟩⟩, ⟨⟨fun q => ⟨((hJ.1.2.2.2.1.1) (rl q)).1, by have := ((hJ.1.2.2.2.1.1) (rl q)).2.1; simpa using this, ((hJ.1.2.2.2.1.1) (rl q)).2.2⟩, fun q n => Blk.far (Blk.far ((hJ.1.2.2.2.1.2) (rl q) (fun m => n (.inr m))) (p := ⟨G 20, 0, none⟩) ((hJ.2.1.1.2.1.1) (rl q) p20) (.int .i64 (Wi.Hq (l * l')))) (p := ⟨G 20, 1, none⟩) ((hJ.2.1.1.2.1.1) (rl q) p20) (.int .u64 (Wi.Lr (l * l')))⟩, ⟨fun q => Blk.far (Blk.far ((hJ.1.2.2.2.2.1) (rl q)) (p := ⟨G 20, 0, none⟩) ((hJ.2.1.1.2.1.1) ((hJ.1.2.2.2.2.2) (rl q)) p20) (.int .i64 (Wi.Hq (l * l')))) (p := ⟨G 20, 1, none⟩) ((hJ.2.1.1.2.1.1) ((hJ.1.2.2.2.2.2) (rl q)) p20) (.int .u64 (Wi.Lr (l * l'))), fun q => .inr ((hJ.1.2.2.2.2.2) (rl q))⟩⟩⟩⟩⟩, ⟨⟨⟨⟨fun q r => (hJ.2.1.1.1.1) (rl q) (rl r), ⟨fun q r => (hJ.2.1.1.1.2.1) (rl q) (rl r), fun q r => (hJ.2.1.1.1.2.2) (rl q) (rl r)⟩⟩, ⟨⟨fun q r => (hJ.2.1.1.2.1.1) (rl q) (rl r), fun q r => (hJ.2.1.1.2.1.2) (rl q) (rl r)⟩, ⟨fun q r => (hJ.2.1.1.2.2.1) (rl q) (rl r), fun q => (hJ.2.1.1.2.2.2) (rl q)⟩⟩⟩, ⟨⟨⟨fun q => (hJ.2.1.2.1.1.1) (rl q), fun q => (hJ.2.1.2.1.1.2) (rl q)⟩, ⟨fun q => (hJ.2.1.2.1.2.1) (rl q), fun _ => by first | exact rfl | exact e4⟩⟩, ⟨⟨fun q => (hJ.2.1.2.2.1.1) (rl q), fun q => (hJ.2.1.2.2.1.2) (rl q)⟩, ⟨fun q => (hJ.2.1.2.2.2.1) (rl q), fun q => (hJ.2.1.2.2.2.2) (rl q)⟩⟩⟩⟩, ⟨⟨⟨fun q => (hJ.2.2.1.1.1) (rl q), ⟨fun q => (hJ.2.2.1.1.2.1) (rl q), fun q => (hJ.2.2.1.1.2.2) (rl q)⟩⟩, ⟨⟨fun q => (hJ.2.2.1.2.1.1) (rl q), fun q => (hJ.2.2.1.2.1.2) (rl q)⟩, ⟨fun q => (hJ.2.2.1.2.2.1) (rl q), fun q => (hJ.2.2.1.2.2.2) (rl q)⟩⟩⟩, ⟨⟨⟨fun q => (hJ.2.2.2.1.1.1) (rl q), fun q => (hJ.2.2.2.1.1.2) (rl q)⟩, ⟨fun q => (hJ.2.2.2.1.2.1) (rl q), fun q => (hJ.2.2.2.1.2.2) (rl q)⟩⟩, ⟨⟨fun _ => by first | exact rfl | exact e20, fun q => (hJ.2.2.2.2.1.2) (rl q)⟩, ⟨fun q => (hJ.2.2.2.2.2.1) (rl q), fun q => (hJ.2.2.2.2.2.2) (rl q)⟩⟩⟩⟩⟩⟩
      refine StepsOk.cons (i := 25) rfl (fun L x G w1 K Q hn hp hJ hK => ?_) ?_
      · skip
        have p9 : L 9 := hp ⟨9, .data⟩ (by simp) rfl
        have e9 := (hJ.2.2.1.1.1) p9
        have p21 : L 21 := hp ⟨21, .data⟩ (by simp) rfl
        have e21 := (hJ.2.2.2.2.1.2) p21
        have hc := Blk.open2 (((hJ.1.2.1.2.1.2) p21 hn))
        have c0 := hc.1
        have c1 := hc.2.1
        have c2 := hc.2.2.1
        have c3 := hc.2.2.2
        clear hc
        simp only [putAll, Act.put, List.setIfInBounds_toArray, List.set_cons_zero, List.set_cons_succ]
        go_simp
        refine hK _ G _ (by kernel_rfl) ?_
        exact ⟨⟨⟨⟨⟨bst (bst ((hJ.1.1.1.1.1)) (p := ⟨G 21, 0, none⟩) ((hJ.1.2.1.2.1.1) p21).1 (.int .i64 (Wi.Hq (l * h')))) (p := ⟨G 21, 1, none⟩) ((hJ.1.2.1.2.1.1) p21).1 (.int .u64 (Wi.Lr (l * h'))), ⟨by simpa using (hJ.1.1.1.1.2.1), Blk.far (Blk.far ((hJ.1.1.1.1.2.2)) (p := ⟨G 21, 0, none⟩) (((hJ.1.2.1.2.1.1) p21).2.2.1) (.int .i64 (Wi.Hq (l * h')))) (p := ⟨G 21, 1, none⟩) (((hJ.1.2.1.2.1.1) p21).2.2.1) (.int .u64 (Wi.Lr (l * h')))⟩⟩, ⟨⟨by simpa using (hJ.1.1.1.2.1.1), Blk.far (Blk.far ((hJ.1.1.1.2.1.2)) (p := ⟨G 21, 0, none⟩) (((hJ.1.2.1.2.1.1) p21).2.2.2.1) (.int .i64 (Wi.Hq (l * h')))) (p := ⟨G 21, 1, none⟩) (((hJ.1.2.1.2.1.1) p21).2.2.2.1) (.int .u64 (Wi.Lr (l * h')))⟩, ⟨by simpa using (hJ.1.1.1.2.2.1), Blk.far (Blk.far ((hJ.1.1.1.2.2.2)) (p := ⟨G 21, 0, none⟩) (((hJ.1.2.1.2.1.1) p21).2.2.2.2.1) (.int .i64 (Wi.Hq (l * h')))) (p := ⟨G 21, 1, none⟩) (((hJ.1.2.1.2.1.1) p21).2.2.2.2.1) (.int .u64 (Wi.Lr (l * h')))⟩⟩⟩, ⟨⟨by simpa using (hJ.1.1.2.1.1), ⟨Blk.far (Blk.far ((hJ.1.1.2.1.2.1)) (p := ⟨G 21, 0, none⟩) (((hJ.1.2.1.2.1.1) p21).2.2.2.2.2.1) (.int .i64 (Wi.Hq (l * h')))) (p := ⟨G 21, 1, none⟩) (((hJ.1.2.1.2.1.1) p21).2.2.2.2.2.1) (.int .u64 (Wi.Lr (l * h'))), by simpa using (hJ.1.1.2.1.2.2)⟩⟩, ⟨⟨Blk.far (Blk.far ((hJ.1.1.2.2.1.1)) (p := ⟨G 21, 0, none⟩) (((hJ.1.2.1.2.1.1) p21).2.2.2.2.2.2.1) (.int .i64 (Wi.Hq (l * h')))) (p := ⟨G 21, 1, none⟩) (((hJ.1.2.1.2.1.1) p21).2.2.2.2.2.2.1) (.int .u64 (Wi.Lr (l * h'))), by simpa using (hJ.1.1.2.2.1.2)⟩, ⟨Blk.far (Blk.far ((hJ.1.1.2.2.2.1)) (p := ⟨G 21, 0, none⟩) (((hJ.1.2.1.2.1.1) p21).2.2.2.2.2.2.2) (.int .i64 (Wi.Hq (l * h')))) (p := ⟨G 21, 1, none⟩) (((hJ.1.2.1.2.1.1) p21).2.2.2.2.2.2.2) (.int .u64 (Wi.Lr (l * h'))), fun q => ⟨((hJ.1.1.2.2.2.2) (rl q)).1, by have := ((hJ.1.1.2.2.2.2) (rl q)).2.1; simpa using this, ((hJ.1.1.2.2.2.2) (rl q)).2.2⟩⟩⟩⟩⟩, ⟨⟨⟨fun q n => Blk.far (Blk.far ((hJ.1.2.1.1.1) (rl q) (fun m => n (.inr m))) (p := ⟨G 21, 0, none⟩) (Ne.symm ((hJ.2.1.1.1.1) p21 (rl q))) (.int .i64 (Wi.Hq (l * h')))) (p := ⟨G 21, 1, none⟩) (Ne.symm ((hJ.2.1.1.1.1) p21 (rl q))) (.int .u64 (Wi.Lr (l * h'))), ⟨fun q => Blk.far (Blk.far ((hJ.1.2.1.1.2.1) (rl q)) (p := ⟨G 21, 0, none⟩) (Ne.symm ((hJ.2.1.1.1.1) p21 ((hJ.1.2.1.1.2.2) (rl q)))) (.int .i64 (Wi.Hq (l * h')))) (p := ⟨G 21, 1, none⟩) (Ne.symm ((hJ.2.1.1.1.1) p21 ((hJ.1.2.1.1.2.2) (rl q)))) (.int .u64 (Wi.Lr (l * h'))), fun q => .inr ((hJ.1.2.1.1.2.2) (rl q))⟩⟩, ⟨⟨fun q => ⟨((hJ.1.2.1.2.1.1) (rl q)).1, by have := ((hJ.1.2.1.2.1.1) (rl q)).2.1; simpa using this, ((hJ.1.2.1.2.1.1) (rl q)).2.2⟩, fun _ n => absurd (.inl rfl) n⟩, ⟨fun _ => by simpa using Blk.set_ (Blk.set_ (((hJ.1.2.1.2.1.2) p21 hn)) 0 (.int .i64 (Wi.Hq (l * h')))) 1 (.int .u64 (Wi.Lr (l * h'))), fun _ => .inr p21⟩⟩⟩, ⟨⟨⟨fun q => ⟨((hJ.1.2.2.1.1.1) (rl q)).1, by have := ((hJ.1.2.2.1.1.1) (rl q)).2.1; simpa using this, ((hJ.1.2.2.1.1.1) (rl q)).2.2⟩, fun q n => Blk.far (Blk.far ((hJ.1.2.2.1.1.2) (rl q) (fun m => n (.inr m))) (p := ⟨G 21, 0, none⟩) ((hJ.2.1.1.1.2.2) (rl q) p21) (.int .i64 (Wi.Hq (l * h')))) (p := ⟨G 21, 1, none⟩) ((hJ.2.1.1.1.2.2) (rl q) p21) (.int .u64 (Wi.Lr (l * h')))⟩, ⟨fun q => Blk.far (Blk.far ((hJ.1.2.2.1.2.1) (rl q)) (p := ⟨G 21, 0, none⟩) ((hJ.2.1.1.1.2.2) ((hJ.1.2.2.1.2.2) (rl q)) p21) (.int .i64 (Wi.Hq (l * h')))) (p := ⟨G 21, 1, none⟩) ((hJ.2.1.1.1.2.2) ((hJ.1.2.2.1.2.2) (rl q)) p21) (.int .u64 (Wi.Lr (l * h'))), fun q => .inr ((hJ.1.2.2.1.2.2) (rl q))⟩⟩, ⟨⟨fun q => ⟨((hJ.1.2.2.2.1.1) (rl q)).1, by have := ((hJ.1.2.2.2.1.1) (rl q)).2.1; simpa using this, ((hJ.1.2.2.2.1.1) (rl q)).2.2⟩, fun q n => Blk.far (Blk.far ((hJ.1.2.2.2.1.2) (rl q) (fun m => n (.inr m))) (p := ⟨G 21, 0, none⟩) ((hJ.2.1.1.2.1.2) (rl q) p21) (.int .i64 (Wi.Hq (l * h')))) (p := ⟨G 21, 1, none⟩) ((hJ.2.1.1.2.1.2) (rl q) p21) (.int .u64 (Wi.Lr (l * h')))⟩, ⟨fun q => Blk.far (Blk.far ((hJ.1.2.2.2.2.1) (rl q)) (p := ⟨G 21, 0, none⟩) ((hJ.2.1.1.2.1.2) ((hJ.1.2.2.2.2.2) (rl q)) p21) (.int .i64 (Wi.Hq (l * h')))) (p := ⟨G 21, 1, none⟩) ((hJ.2.1.1.2.1.2) ((hJ.1.2.2.2.2.2) (rl q)) p21) (.int .u64 (Wi.Lr (l * h'))), fun q => .inr ((hJ.1.2.2.2.2.2) (rl q))⟩⟩⟩⟩⟩, ⟨⟨⟨⟨fun q r => (hJ.2.1.1.1.1) (rl q) (rl r), ⟨fun q r => (hJ.2.1.1.1.2.1) (rl q) (rl r), fun q r => (hJ.2.1.1.1.2.2) (rl q) (rl r)⟩⟩, ⟨⟨fun q r => (hJ.2.1.1.2.1.1) (rl q) (rl r), fun q r => (hJ.2.1.1.2.1.2) (rl q) (rl r)⟩, ⟨fun q r => (hJ.2.1.1.2.2.1) (rl q) (rl r), fun q => (hJ.2.1.1.2.2.2) (rl q)⟩⟩⟩, ⟨⟨⟨fun q => (hJ.2.1.2.1.1.1) (rl q), fun q => (hJ.2.1.2.1.1.2) (rl q)⟩, ⟨fun q => (hJ.2.1.2.1.2.1) (rl q), fun q => (hJ.2.1.2.1.2.2) (rl q)⟩⟩, ⟨⟨fun q => (hJ.2.1.2.2.1.1) (rl q), fun q => (hJ.2.1.2.2.1.2) (rl q)⟩, ⟨fun q => (hJ.2.1.2.2.2.1) (rl q), fun q => (hJ.2.1.2.2.2.2) (rl q)⟩⟩⟩⟩, ⟨⟨⟨fun _ => by first | exact rfl | exact e9, ⟨fun q => (hJ.2.2.1.1.2.1) (rl q), fun q => (hJ.2.2.1.1.2.2) (rl q)⟩⟩, ⟨⟨fun q => (hJ.2.2.1.2.1.1) (rl q), fun q => (hJ.2.2.1.2.1.2) (rl q)⟩, ⟨fun q => (hJ.2.2.1.2.2.1) (rl q), fun q => (hJ.2.2.1.2.2.2) (rl q)⟩⟩⟩, ⟨⟨⟨fun q => (hJ.2.2.2.1.1.1) (rl q), fun q => (hJ.2.2.2.1.1.2) (rl q)⟩, ⟨fun q => (hJ.2.2.2.1.2.1) (rl q), fun q => (hJ.2.2.2.1.2.2) (rl q)⟩⟩, ⟨⟨fun q => (hJ.2.2.2.2.1.1) (rl q), fun _ => by first | exact rfl | exact e21⟩, ⟨fun q => (hJ.2.2.2.2.2.1) (rl q), fun q => (hJ.2.2.2.2.2.2) (rl q)⟩⟩⟩⟩⟩⟩
      refine StepsOk.cons (i := 26) rfl (fun L x G w1 K Q hn hp hJ hK => ?_) ?_
      · skip
        have p14 : L 14 := hp ⟨14, .data⟩ (by simp) rfl
        have e14 := (hJ.2.2.1.2.2.1) p14
        have p22 : L 22 := hp ⟨22, .data⟩ (by simp) rfl
        have e22 := (hJ.2.2.2.2.2.1) p22
        have hc := Blk.open2 (((hJ.1.2.2.1.1.2) p22 hn))
        have c0 := hc.1
        have c1 := hc.2.1
        have c2 := hc.2.2.1
        have c3 := hc.2.2.2
        clear hc
        simp only [putAll, Act.put, List.setIfInBounds_toArray, List.set_cons_zero, List.set_cons_succ]
        go_simp
        refine hK _ G _ (by kernel_rfl) ?_
        exact ⟨⟨⟨⟨⟨bst (bst ((hJ.1.1.1.1.1)) (p := ⟨G 22, 0, none⟩) ((hJ.1.2.2.1.1.1) p22).1 (.int .i64 (Wi.Hq (h * l')))) (p := ⟨G 22, 1, none⟩) ((hJ.1.2.2.1.1.1) p22).1 (.int .u64 (Wi.Lr (h * l'))), ⟨by simpa using (hJ.1.1.1.1.2.1), Blk.far (Blk.far ((hJ.1.1.1.1.2.2)) (p := ⟨G 22, 0, none⟩) (((hJ.1.2.2.1.1.1) p22).2.2.1) (.int .i64 (Wi.Hq (h * l')))) (p := ⟨G 22, 1, none⟩) (((hJ.1.2.2.1.1.1) p22).2.2.1) (.int .u64 (Wi.Lr (h * l')))⟩⟩, ⟨⟨by simpa using (hJ.1.1.1.2.1.1), Blk.far (Blk.far ((hJ.1.1.1.2.1.2)) (p := ⟨G 22, 0, none⟩) (((hJ.1.2.2.1.1.1) p22).2.2.2.1) (.int .i64 (Wi.Hq (h * l')))) (p := ⟨G 22, 1, none⟩) (((hJ.1.2.2.1.1.1) p22).2.2.2.1) (.int .u64 (Wi.Lr (h * l')))⟩, ⟨by simpa using (hJ.1.1.1.2.2.1), Blk.far (Blk.far ((hJ.1.1.1.2.2.2)) (p := ⟨G 22, 0, none⟩) (((hJ.1.2.2.1.1.1) p22).2.2.2.2.1) (.int .i64 (Wi.Hq (h * l')))) (p := ⟨G 22, 1, none⟩) (((hJ.1.2.2.1.1.1) p22).2.2.2.2.1) (.int .u64 (Wi.Lr (h * l')))⟩⟩⟩, ⟨⟨by simpa using (hJ.1.1.2.1.1), ⟨Blk.far (Blk.far ((hJ.1.1.2.1.2.1)) (p := ⟨G 22, 0, none⟩) (((hJ.1.2.2.1.1.1) p22).2.2.2.2.2.1) (.int .i64 (Wi.Hq (h * l')))) (p := ⟨G 22, 1, none⟩) (((hJ.1.2.2.1.1.1) p22).2.2.2.2.2.1) (.int .u64 (Wi.Lr (h * l'))), by simpa using (hJ.1.1.2.1.2.2)⟩⟩, ⟨⟨Blk.far (Blk.far ((hJ.1.1.2.2.1.1)) (p := ⟨G 22, 0, none⟩) (((hJ.1.2.2.1.1.1) p22).2.2.2.2.2.2.1) (.int .i64 (Wi.Hq (h * l')))) (p := ⟨G 22, 1, none⟩) (((hJ.1.2.2.1.1.1) p22).2.2.2.2.2.2.1) (.int .u64 (Wi.Lr (h * l'))), by simpa using (hJ.1.1.2.2.1.2)⟩, ⟨Blk.far (Blk.far ((hJ.1.1.2.2.2.1)) (p := ⟨G 22, 0, none⟩) (((hJ.1.2.2.1.1.1) p22).2.2.2.2.2.2.2) (.int .i64 (Wi.Hq (h * l')))) (p := ⟨G 22, 1, none⟩) (((hJ.1.2.2.1.1.1) p22).2.2.2.2.2.2.2) (.int .u64 (Wi.Lr (h * l'))), fun q => ⟨((hJ.1.1.2.2.2.2) (rl q)).1, by have := ((hJ.1.1.2.2.2.2) (rl q)).2.1; simpa using this, ((hJ.1.1.2.2.2.2) (rl q)).2.2⟩⟩⟩⟩⟩, ⟨⟨⟨fun q n => Blk.far (Blk.far ((hJ.1.2.1.1.1) (rl q) (fun m => n (.inr m))) (p := ⟨G 22, 0, none⟩) (Ne.symm ((hJ.2.1.1.1.2.1) p22 (rl q))) (.int .i64 (Wi.Hq (h * l')))) (p := ⟨G 22, 1, none⟩) (Ne.symm ((hJ.2.1.1.1.2.1) p22 (rl q))) (.int .u64 (Wi.Lr (h * l'))), ⟨fun q => Blk.far (Blk.far ((hJ.1.2.1.1.2.1) (rl q)) (p := ⟨G 22, 0, none⟩) (Ne.symm ((hJ.2.1.1.1.2.1) p22 ((hJ.1.2.1.1.2.2) (rl q)))) (.int .i64 (Wi.Hq (h * l')))) (p := ⟨G 22, 1, none⟩) (Ne.symm ((hJ.2.1.1.1.2.1) p22 ((hJ.1.2.1.1.2.2) (rl q)))) (.int .u64 (Wi.Lr (h * l'))), fun q => .inr ((hJ.1.2.1.1.2.2) (rl q))⟩⟩, ⟨⟨fun q => ⟨((hJ.1.2.1.2.1.1) (rl q)).1, by have := ((hJ.1.2.1.2.1.1) (rl q)).2.1; simpa using this, ((hJ.1.2.1.2.1.1) (rl q)).2.2⟩, fun q n => Blk.far (Blk.far ((hJ.1.2.1.2.1.2) (rl q) (fun m => n (.inr m))) (p := ⟨G 22, 0, none⟩) (Ne.symm ((hJ.2.1.1.1.2.2) p22 (rl q))) (.int .i64 (Wi.Hq (h * l')))) (p := ⟨G 22, 1, none⟩) (Ne.symm ((hJ.2.1.1.1.2.2) p22 (rl q))) (.int .u64 (Wi.Lr (h * l')))⟩, ⟨fun q => Blk.far (Blk.far ((hJ.1.2.1.2.2.1) (rl q)) (p := ⟨G 22, 0, none⟩) (Ne.symm ((hJ.2.1.1.1.2.2) p22 ((hJ.1.2.1.2.2.2) (rl q)))) (.int .i64 (Wi.Hq (h * l')))) (p := ⟨G 22, 1, none⟩) (Ne.symm ((hJ.2.1.1.1.2.2) p22 ((hJ.1.2.1.2.2.2) (rl q)))) (.int .u64 (Wi.Lr (h * l'))), fun q => .inr ((hJ.1.2.1.2.2.2) (rl q))⟩⟩⟩, ⟨⟨⟨fun q => ⟨((hJ.1.2.2.1.1.1) (rl q)).1, by have := ((hJ.1.2.2.1.1.1) (rl q)).2.1; simpa using this, ((hJ.1.2.2.1.1.1) (rl q)).2.2⟩, fun _ n => absurd (.inl rfl) n⟩, ⟨fun _ => by simpa using Blk.set_ (Blk.set_ (((hJ.1.2.2.1.1.2) p22 hn)) 0 (.int .i64 (Wi.Hq (h * l')))) 1 (.int .u64 (Wi.Lr (h * l'))), fun _ => .inr p22⟩⟩, ⟨⟨fun q => ⟨((hJ.1.2.2.2.1.1) (rl q)).1, by have := ((hJ.1.2.2.2.1.1) (rl q)).2.1; simpa using this, ((hJ.1.2.2.2.1.1) (rl q)).2.2⟩, fun q n => Blk.far (Blk.far ((hJ.1.2.2.2.1.2) (rl q) (fun m => n (.inr m))) (p := ⟨G 22, 0, none⟩) ((hJ.2.1.1.2.2.1) (rl q) p22) (.int .i64 (Wi.Hq (h * l')))) (p := ⟨G 22, 1, none⟩) ((hJ.2.1.1.2.2.1) (rl q) p22) (.int .u64 (Wi.Lr (h * l')))⟩, ⟨fun q => Blk.far (Blk.far ((hJ.1.2.2.2.2.1) (rl q)) (p := ⟨G 22, 0, none⟩) ((hJ.2.1.1.2.2.1) ((hJ.1.2.2.2.2.2) (rl q)) p22) (.int .i64 (Wi.Hq (h * l')))) (p := ⟨G 22, 1, none⟩) ((hJ.2.1.1.2.2.1) ((hJ.1.2.2.2.2.2) (rl q)) p22) (.int .u64 (Wi.Lr (h * l'))), fun q => .inr ((hJ.1.2.2.2.2.2) (rl q))⟩⟩⟩⟩⟩, ⟨⟨⟨⟨fun q r => (hJ.2.1.1.1.1) (rl q) (rl r), ⟨fun q r => (hJ.2.1.1.1.2.1) (rl q) (rl r), fun q r => (hJ.2.1.1.1.2.2) (rl q) (rl r)⟩⟩, ⟨⟨fun q r => (hJ.2.1.1.2.1.1) (rl q) (rl r), fun q r => (hJ.2.1.1.2.1.2) (rl q) (rl r)⟩, ⟨fun q r => (hJ.2.1.1.2.2.1) (rl q) (rl r), fun q => (hJ.2.1.1.2.2.2) (rl q)⟩⟩⟩, ⟨⟨⟨fun q => (hJ.2.1.2.1.1.1) (rl q), fun q => (hJ.2.1.2.1.1.2) (rl q)⟩, ⟨fun q => (hJ.2.1.2.1.2.1) (rl q), fun q => (hJ.2.1.2.1.2.2) (rl q)⟩⟩, ⟨⟨fun q => (hJ.2.1.2.2.1.1) (rl q), fun q => (hJ.2.1.2.2.1.2) (rl q)⟩, ⟨fun q => (hJ.2.1.2.2.2.1) (rl q), fun q => (hJ.2.1.2.2.2.2) (rl q)⟩⟩⟩⟩, ⟨⟨⟨fun q => (hJ.2.2.1.1.1) (rl q), ⟨fun q => (hJ.2.2.1.1.2.1) (rl q), fun q => (hJ.2.2.1.1.2.2) (rl q)⟩⟩, ⟨⟨fun q => (hJ.2.2.1.2.1.1) (rl q), fun q => (hJ.2.2.1.2.1.2) (rl q)⟩, ⟨fun _ => by first | exact rfl | exact e14, fun q => (hJ.2.2.1.2.2.2) (rl q)⟩⟩⟩, ⟨⟨⟨fun q => (hJ.2.2.2.1.1.1) (rl q), fun q => (hJ.2.2.2.1.1.2) (rl q)⟩, ⟨fun q => (hJ.2.2.2.1.2.1) (rl q), fun q => (hJ.2.2.2.1.2.2) (rl q)⟩⟩, ⟨⟨fun q => (hJ.2.2.2.2.1.1) (rl q), fun q => (hJ.2.2.2.2.1.2) (rl q)⟩, ⟨fun _ => by first | exact rfl | exact e22, fun q => (hJ.2.2.2.2.2.2) (rl q)⟩⟩⟩⟩⟩⟩
      refine StepsOk.cons (i := 27) rfl (fun L x G w1 K Q hn hp hJ hK => ?_) ?_
      · skip
        have p19 : L 19 := hp ⟨19, .data⟩ (by simp) rfl
        have e19 := (hJ.2.2.2.1.2.2) p19
        have p23 : L 23 := hp ⟨23, .data⟩ (by simp) rfl
        have e23 := (hJ.2.2.2.2.2.2) p23
        have hc := Blk.open2 (((hJ.1.2.2.2.1.2) p23 hn))
        have c0 := hc.1
        have c1 := hc.2.1
        have c2 := hc.2.2.1
        have c3 := hc.2.2.2
        clear hc
        simp only [putAll, Act.put, List.setIfInBounds_toArray, List.set_cons_zero, List.set_cons_succ]
        go_simp
        refine hK _ G _ (by kernel_rfl) ?_
        exact ⟨⟨⟨⟨⟨bst (bst ((hJ.1.1.1.1.1)) (p := ⟨G 23, 0, none⟩) ((hJ.1.2.2.2.1.1) p23).1 (.int .i64 (Wi.Hq (h * h')))) (p := ⟨G 23, 1, none⟩) ((hJ.1.2.2.2.1.1) p23).1 (.int .u64 (Wi.Lr (h * h'))), ⟨by simpa using (hJ.1.1.1.1.2.1), Blk.far (Blk.far ((hJ.1.1.1.1.2.2)) (p := ⟨G 23, 0, none⟩) (((hJ.1.2.2.2.1.1) p23).2.2.1) (.int .i64 (Wi.Hq (h * h')))) (p := ⟨G 23, 1, none⟩) (((hJ.1.2.2.2.1.1) p23).2.2.1) (.int .u64 (Wi.Lr (h * h')))⟩⟩, ⟨⟨by simpa using (hJ.1.1.1.2.1.1), Blk.far (Blk.far ((hJ.1.1.1.2.1.2)) (p := ⟨G 23, 0, none⟩) (((hJ.1.2.2.2.1.1) p23).2.2.2.1) (.int .i64 (Wi.Hq (h * h')))) (p := ⟨G 23, 1, none⟩) (((hJ.1.2.2.2.1.1) p23).2.2.2.1) (.int .u64 (Wi.Lr (h * h')))⟩, ⟨by simpa using (hJ.1.1.1.2.2.1), Blk.far (Blk.far ((hJ.1.1.1.2.2.2)) (p := ⟨G 23, 0, none⟩) (((hJ.1.2.2.2.1.1) p23).2.2.2.2.1) (.int .i64 (Wi.Hq (h * h')))) (p := ⟨G 23, 1, none⟩) (((hJ.1.2.2.2.1.1) p23).2.2.2.2.1) (.int .u64 (Wi.Lr (h * h')))⟩⟩⟩, ⟨⟨by simpa using (hJ.1.1.2.1.1), ⟨Blk.far (Blk.far ((hJ.1.1.2.1.2.1)) (p := ⟨G 23, 0, none⟩) (((hJ.1.2.2.2.1.1) p23).2.2.2.2.2.1) (.int .i64 (Wi.Hq (h * h')))) (p := ⟨G 23, 1, none⟩) (((hJ.1.2.2.2.1.1) p23).2.2.2.2.2.1) (.int .u64 (Wi.Lr (h * h'))), by simpa using (hJ.1.1.2.1.2.2)⟩⟩, ⟨⟨Blk.far (Blk.far ((hJ.1.1.2.2.1.1)) (p := ⟨G 23, 0, none⟩) (((hJ.1.2.2.2.1.1) p23).2.2.2.2.2.2.1) (.int .i64 (Wi.Hq (h * h')))) (p := ⟨G 23, 1, none⟩) (((hJ.1.2.2.2.1.1) p23).2.2.2.2.2.2.1) (.int .u64 (Wi.Lr (h * h'))), by simpa using (hJ.1.1.2.2.1.2)⟩, ⟨Blk.far (Blk.far ((hJ.1.1.2.2.2.1)) (p := ⟨G 23, 0, none⟩) (((hJ.1.2.2.2.1.1) p23).2.2.2.2.2.2.2) (.int .i64 (Wi.Hq (h * h')))) (p := ⟨G 23, 1, none⟩) (((hJ.1.2.2.2.1.1) p23).2.2.2.2.2.2.2) (.int .u64 (Wi.Lr (h * h'))), fun q => ⟨((hJ.1.1.2.2.2.2) (rl q)).1, by have := ((hJ.1.1.2.2.2.2) (rl q)).2.1; simpa using this, ((hJ.1.1.2.2.2.2) (rl q)).2.2⟩⟩⟩⟩⟩, ⟨⟨⟨fun q n => Blk.far (Blk.far ((hJ.1.2.1.1.1) (rl q) (fun m => n (.inr m))) (p := ⟨G 23, 0, none⟩) (Ne.symm ((hJ.2.1.1.2.1.1) p23 (rl q))) (.int .i64 (Wi.Hq (h * h')))) (p := ⟨G 23, 1, none⟩) (Ne.symm ((hJ.2.1.1.2.1.1) p23 (rl q))) (.int .u64 (Wi.Lr (h * h'))), ⟨fun q => Blk.far (Blk.far ((hJ.1.2.1.1.2.1) (rl q)) (p := ⟨G 23, 0, none⟩) (Ne.symm ((hJ.2.1.1.2.1.1) p23 ((hJ.1.2.1.1.2.2) (rl q)))) (.int .i64 (Wi.Hq (h * h')))) (p := ⟨G 23, 1, none⟩) (Ne.symm ((hJ.2.1.1.2.1.1) p23 ((hJ.1.2.1.1.2.2) (rl q)))) (.int .u64 (Wi.Lr (h * h'))), fun q => .inr ((hJ.1.2.1.1.2.2) (rl q))⟩⟩, ⟨⟨fun q => ⟨((hJ.1.2.1.2.1.1) (rl q)).1, by have := ((hJ.1.2.1.2.1.1) (rl q)).2.1; simpa using this, ((hJ.1.2.1.2.1.1) (rl q)).2.2⟩, fun q n => Blk.far (Blk.far ((hJ.1.2.1.2.1.2) (rl q) (fun m => n (.inr m))) (p := ⟨G 23, 0, none⟩) (Ne.symm ((hJ.2.1.1.2.1.2) p23 (rl q))) (.int .i64 (Wi.Hq (h * h')))) (p := ⟨G 23, 1, none⟩) (Ne.symm ((hJ.2.1.1.2.1.2) p23 (rl q))) (.int .u64 (Wi.Lr (h * h')))⟩, ⟨fun q => Blk.far (Blk.far ((hJ.1.2.1.2.2.1) (rl q)) (p := ⟨G 23, 0, none⟩) (Ne.symm ((hJ.2.1.1.2.1.2) p23 ((hJ.1.2.1.2.2.2) (rl q)))) (.int .i64 (Wi.Hq (h * h')))) (p := ⟨G 23, 1, none⟩) (Ne.symm ((hJ.2.1.1.2.1.2) p23 ((hJ.1.2.1.2.2.2) (rl q)))) (.int .u64 (Wi.Lr (h * h'))), fun q => .inr ((hJ.1.2.1.2.2.2) (rl q))⟩⟩⟩, ⟨⟨⟨fun q => ⟨((hJ.1.2.2.1.1.1) (rl q)).1, by have := ((hJ.1.2.2.1.1.1) (rl q)).2.1; simpa using this, ((hJ.1.2.2.1.1.1) (rl q)).2.2⟩, fun q n => Blk.far (Blk.far ((hJ.1.2.2.1.1.2) (rl q) (fun m => n (.inr m))) (p := ⟨G 23, 0, none⟩) (Ne.symm ((hJ.2.1.1.2.2.1) p23 (rl q))) (.int .i64 (Wi.Hq (h * h')))) (p := ⟨G 23, 1, none⟩) (Ne.symm ((hJ.2.1.1.2.2.1) p23 (rl q))) (.int .u64 (Wi.Lr (h * h')))⟩, ⟨fun q => Blk.far (Blk.far ((hJ.1.2.2.1.2.1) (rl q)) (p := ⟨G 23, 0, none⟩) (Ne.symm ((hJ.2.1.1.2.2.1) p23 ((hJ.1.2.2.1.2.2) (rl q)))) (.int .i64 (Wi.Hq (h * h')))) (p := ⟨G 23, 1, none⟩) (Ne.symm ((hJ.2.1.1.2.2.1) p23 ((hJ.1.2.2.1.2.2) (rl q)))) (.int .u64 (Wi.Lr (h * h'))), fun q => .inr ((hJ.1.2.2.1.2.2) (rl q))⟩⟩, ⟨⟨fun q => ⟨((hJ.1.2.2.2.1.1) (rl q)).1, by have := ((hJ.1.2.2.2.1.1) (rl q)).2.1; simpa using this, ((hJ.1.2.2.2.1.1) (rl q)).2.2⟩, fun _ n => absurd (.inl rfl) n⟩, ⟨fun _ => by simpa using Blk.set_ (Blk.set_ (((hJ.1.2.2.2.1.2) p23 hn)) 0 (.int .i64 (Wi.Hq (h * h')))) 1 (.int .u64 (Wi.Lr (h * h'))), fun _ => .inr p23⟩⟩⟩⟩⟩, ⟨⟨⟨⟨fun q r => (hJ.2.1.1.1.1) (rl q) (rl r), ⟨fun q r => (hJ.2.1.1.1.2.1) (rl q) (rl r), fun q r => (hJ.2.1.1.1.2.2) (rl q) (rl r)⟩⟩, ⟨⟨fun q r => (hJ.2.1.1.2.1.1) (rl q) (rl r), fun q r => (hJ.2.1.1.2.1.2) (rl q) (rl r)⟩, ⟨fun q r => (hJ.2.1.1.2.2.1) (rl q) (rl r), fun q => (hJ.2.1.1.2.2.2) (rl q)⟩⟩⟩, ⟨⟨⟨fun q => (hJ.2.1.2.1.1.1) (rl q), fun q => (hJ.2.1.2.1.1.2) (rl q)⟩, ⟨fun q => (hJ.2.1.2.1.2.1) (rl q), fun q => (hJ.2.1.2.1.2.2) (rl q)⟩⟩, ⟨⟨fun q => (hJ.2.1.2.2.1.1) (rl q), fun q => (hJ.2.1.2.2.1.2) (rl q)⟩, ⟨fun q => (hJ.2.1.2.2.2.1) (rl q), fun q => (hJ.2.1.2.2.2.2) (rl q)⟩⟩⟩⟩, ⟨⟨⟨fun q => (hJ.2.2.1.1.1) (rl q), ⟨fun q => (hJ.2.2.1.1.2.1) (rl q), fun q => (hJ.2.2.1.1.2.2) (rl q)⟩⟩, ⟨⟨fun q => (hJ.2.2.1.2.1.1) (rl q), fun q => (hJ.2.2.1.2.1.2) (rl q)⟩, ⟨fun q => (hJ.2.2.1.2.2.1) (rl q), fun q => (hJ.2.2.1.2.2.2) (rl q)⟩⟩⟩, ⟨⟨⟨fun q => (hJ.2.2.2.1.1.1) (rl q), fun q => (hJ.2.2.2.1.1.2) (rl q)⟩, ⟨fun q => (hJ.2.2.2.1.2.1) (rl q), fun _ => by first | exact rfl | exact e19⟩⟩, ⟨⟨fun q => (hJ.2.2.2.2.1.1) (rl q), fun q => (hJ.2.2.2.2.1.2) (rl q)⟩, ⟨fun q => (hJ.2.2.2.2.2.1) (rl q), fun _ => by first | exact rfl | exact e23⟩⟩⟩⟩⟩⟩
      exact StepsOk.nil
    case fin =>
      intro L x G w5 hall hJ
      replace X := (hJ.1.1.1.1.2.2)
      replace Y := (hJ.1.1.1.2.1.2)
      replace A := (hJ.1.1.1.2.2.2)
      replace C := (hJ.1.1.2.1.2.1)
      replace LO := (hJ.1.1.2.2.1.1)
      replace HI := (hJ.1.1.2.2.2.1)
      obtain ⟨haP1, hlP1, hnP1X, hnP1Y, hnP1A, hnP1C, hnP1LO, hnP1HI⟩ := (hJ.1.1.2.2.2.2) (hall 20 (by decide))
      have P1 := (hJ.1.2.1.1.2.1) (hall 24 (by decide))
      obtain ⟨haP2, hlP2, hnP2X, hnP2Y, hnP2A, hnP2C, hnP2LO, hnP2HI⟩ := (hJ.1.2.1.2.1.1) (hall 21 (by decide))
      have P2 := (hJ.1.2.1.2.2.1) (hall 25 (by decide))
      obtain ⟨haP3, hlP3, hnP3X, hnP3Y, hnP3A, hnP3C, hnP3LO, hnP3HI⟩ := (hJ.1.2.2.1.1.1) (hall 22 (by decide))
      have P3 := (hJ.1.2.2.1.2.1) (hall 26 (by decide))
      obtain ⟨haP4, hlP4, hnP4X, hnP4Y, hnP4A, hnP4C, hnP4LO, hnP4HI⟩ := (hJ.1.2.2.2.1.1) (hall 23 (by decide))
      have P4 := (hJ.1.2.2.2.2.1) (hall 27 (by decide))
      have n_dP2P1 := (hJ.2.1.1.1.1) (hall 21 (by decide)) (hall 20 (by decide))
      have n_dP3P1 := (hJ.2.1.1.1.2.1) (hall 22 (by decide)) (hall 20 (by decide))
      have n_dP3P2 := (hJ.2.1.1.1.2.2) (hall 22 (by decide)) (hall 21 (by decide))
      have n_dP4P1 := (hJ.2.1.1.2.1.1) (hall 23 (by decide)) (hall 20 (by decide))
      have n_dP4P2 := (hJ.2.1.1.2.1.2) (hall 23 (by decide)) (hall 21 (by decide))
      have n_dP4P3 := (hJ.2.1.1.2.2.1) (hall 23 (by decide)) (hall 22 (by decide))
      have u0 := hJ.2.1.1.2.2.2 (hall 0 (by decide))
      have u1 := hJ.2.1.2.1.1.1 (hall 1 (by decide))
      have u2 := hJ.2.1.2.1.1.2 (hall 2 (by decide))
      have u3 := hJ.2.1.2.1.2.1 (hall 3 (by decide))
      have u4 := hJ.2.1.2.1.2.2 (hall 4 (by decide))
      have u5 := hJ.2.1.2.2.1.1 (hall 5 (by decide))
      have u6 := hJ.2.1.2.2.1.2 (hall 6 (by decide))
      have u7 := hJ.2.1.2.2.2.1 (hall 7 (by decide))
      have u8 := hJ.2.1.2.2.2.2 (hall 8 (by decide))
      have u9 := hJ.2.2.1.1.1 (hall 9 (by decide))
      have u10 := hJ.2.2.1.1.2.1 (hall 10 (by decide))
      have u11 := hJ.2.2.1.1.2.2 (hall 11 (by decide))
      have u12 := hJ.2.2.1.2.1.1 (hall 12 (by decide))
      have u13 := hJ.2.2.1.2.1.2 (hall 13 (by decide))
      have u14 := hJ.2.2.1.2.2.1 (hall 14 (by decide))
      have u15 := hJ.2.2.1.2.2.2 (hall 15 (by decide))
      have u16 := hJ.2.2.2.1.1.1 (hall 16 (by decide))
      have u17 := hJ.2.2.2.1.1.2 (hall 17 (by decide))
      have u18 := hJ.2.2.2.1.2.1 (hall 18 (by decide))
      have u19 := hJ.2.2.2.1.2.2 (hall 19 (by decide))
      have u20 := hJ.2.2.2.2.1.1 (hall 20 (by decide))
      have u21 := hJ.2.2.2.2.1.2 (hall 21 (by decide))
      have u22 := hJ.2.2.2.2.2.1 (hall 22 (by decide))
      have u23 := hJ.2.2.2.2.2.2 (hall 23 (by decide))
      replace hB := hJ.1.1.1.1.1
      simp only [putAll, Act.put, List.setIfInBounds_toArray, List.set_cons_zero, List.set_cons_succ]
      simp only [u0, u1, u2, u3, u4, u5, u6, u7, u8, u9, u10, u11, u12, u13, u14, u15, u16, u17, u18, u19, u20, u21, u22, u23]
      clear hall hJ u0 u1 u2 u3 u4 u5 u6 u7 u8 u9 u10 u11 u12 u13 u14 u15 u16 u17 u18 u19 u20 u21 u22 u23
      generalize G 20 = gP1 at *
      generalize G 21 = gP2 at *
      generalize G 22 = gP3 at *
      generalize G 23 = gP4 at *
      obtain ⟨c00, c01, c02, c03⟩ := LO.open2
      obtain ⟨c10, c11, c12, c13⟩ := HI.open2
      obtain ⟨c20, c21, c22, c23⟩ := P1.open2
      obtain ⟨c30, c31, c32, c33⟩ := P2.open2
      obtain ⟨c40, c41, c42, c43⟩ := P3.open2
      obtain ⟨c50, c51, c52, c53⟩ := P4.open2
      clear X Y A C LO HI P1 P2 P3 P4
      clear hm0 k0_
      clear M1 b1 b2 b3 b4 d1 d2 d3 d4 n1 n2 n3 n4
      have K1 := i1.out
      have K2 := i2.out
      clear i1 i2
      rcases K1 with K1 | K1 | K1 | K1 <;> rcases K2 with K2 | K2 | K2 | K2
      · replace K1 := Lib.hid K1
        replace K2 := Lib.hid K2
        have dl0 : decide (mlo = l * l') = true := decide_eq_true K1.out
        have dh0 : decide (mhi = l * l') = true := decide_eq_true K2.out
        clear K1 K2
        go_wp2_with fail
        go_returns
        exact ⟨rfl, hB⟩
      · replace K1 := Lib.hid K1
        replace K2 := Lib.hid K2
        have dl0 : decide (mlo = l * l') = true := decide_eq_true K1.out
        have dh0 : decide (mhi = l * l') = false := decide_eq_false K2.out.1
        have dh1 : decide (mhi = l * h') = true := decide_eq_true K2.out.2
        clear K1 K2
        go_wp2_with fail
        go_returns
        exact ⟨rfl, hB⟩
      · replace K1 := Lib.hid K1
        replace K2 := Lib.hid K2
        have dl0 : decide (mlo = l * l') = true := decide_eq_true K1.out
        have dh0 : decide (mhi = l * l') = false := decide_eq_false K2.out.1
        have dh1 : decide (mhi = l * h') = false := decide_eq_false K2.out.2.1
        have dh2 : decide (mhi = h * l') = true := decide_eq_true K2.out.2.2
        clear K1 K2
        go_wp2_with fail
        go_returns
        exact ⟨rfl, hB⟩
      · replace K1 := Lib.hid K1
        replace K2 := Lib.hid K2
        have dl0 : decide (mlo = l * l') = true := decide_eq_true K1.out
        have dh0 : decide (mhi = l * l') = false := decide_eq_false K2.out.1
        have dh1 : decide (mhi = l * h') = false := decide_eq_false K2.out.2.1
        have dh2 : decide (mhi = h * l') = false := decide_eq_false K2.out.2.2.1
        have dh3 : decide (mhi = h * h') = true := decide_eq_true K2.out.2.2.2
        clear K1 K2
        go_wp2_with fail
        go_returns
        exact ⟨rfl, hB⟩
      · replace K1 := Lib.hid K1
        replace K2 := Lib.hid K2
        have dl0 : decide (mlo = l * l') = false := decide_eq_false K1.out.1
        have dl1 : decide (mlo = l * h') = true := decide_eq_true K1.out.2
        have dh0 : decide (mhi = l * l') = true := decide_eq_true K2.out
        clear K1 K2
        go_wp2_with fail
        go_returns
        exact ⟨rfl, hB⟩
      · replace K1 := Lib.hid K1
        replace K2 := Lib.hid K2
        have dl0 : decide (mlo = l * l') = false := decide_eq_false K1.out.1
        have dl1 : decide (mlo = l * h') = true := decide_eq_true K1.out.2
        have dh0 : decide (mhi = l * l') = false := decide_eq_false K2.out.1
        have dh1 : decide (mhi = l * h') = true := decide_eq_true K2.out.2
        clear K1 K2
        go_wp2_with fail
        go_returns
        exact ⟨rfl, hB⟩
      · replace K1 := Lib.hid K1
        replace K2 := Lib.hid K2
        have dl0 : decide (mlo = l * l') = false := decide_eq_false K1.out.1
        have dl1 : decide (mlo = l * h') = true := decide_eq_true K1.out.2
        have dh0 : decide (mhi = l * l') = false := decide_eq_false K2.out.1
        have dh1 : decide (mhi = l * h') = false := decide_eq_false K2.out.2.1
        have dh2 : decide (mhi = h * l') = true := decide_eq_true K2.out.2.2
        clear K1 K2
        go_wp2_with fail
        go_returns
        exact ⟨rfl, hB⟩
      · replace K1 := Lib.hid K1
        replace K2 := Lib.hid K2
        have dl0 : decide (mlo = l * l') = false := decide_eq_false K1.out.1
        have dl1 : decide (mlo = l * h') = true := decide_eq_true K1.out.2
        have dh0 : decide (mhi = l * l') = false := decide_eq_false K2.out.1
        have dh1 : decide (mhi = l * h') = false := decide_eq_false K2.out.2.1
        have dh2 : decide (mhi = h * l') = false := decide_eq_false K2.out.2.2.1
        have dh3 : decide (mhi = h * h') = true := decide_eq_true K2.out.2.2.2
        clear K1 K2
        go_wp2_with fail
        go_returns
        exact ⟨rfl, hB⟩
      · replace K1 := Lib.hid K1
        replace K2 := Lib.hid K2
        have dl0 : decide (mlo = l * l') = false := decide_eq_false K1.out.1
        have dl1 : decide (mlo = l * h') = false := decide_eq_false K1.out.2.1
        have dl2 : decide (mlo = h * l') = true := decide_eq_true K1.out.2.2
        have dh0 : decide (mhi = l * l') = true := decide_eq_true K2.out
        clear K1 K2
        go_wp2_with fail
        go_returns
        exact ⟨rfl, hB⟩
      · replace K1 := Lib.hid K1
        replace K2 := Lib.hid K2
        have dl0 : decide (mlo = l * l') = false := decide_eq_false K1.out.1
        have dl1 : decide (mlo = l * h') = false := decide_eq_false K1.out.2.1
        have dl2 : decide (mlo = h * l') = true := decide_eq_true K1.out.2.2
        have dh0 : decide (mhi = l * l') = false := decide_eq_false K2.out.1
        have dh1 : decide (mhi = l * h') = true := decide_eq_true K2.out.2
        clear K1 K2
        go_wp2_with fail
        go_returns
        exact ⟨rfl, hB⟩
      · replace K1 := Lib.hid K1
        replace K2 := Lib.hid K2
        have dl0 : decide (mlo = l * l') = false := decide_eq_false K1.out.1
        have dl1 : decide (mlo = l * h') = false := decide_eq_false K1.out.2.1
        have dl2 : decide (mlo = h * l') = true := decide_eq_true K1.out.2.2
        have dh0 : decide (mhi = l * l') = false := decide_eq_false K2.out.1
        have dh1 : decide (mhi = l * h') = false := decide_eq_false K2.out.2.1
        have dh2 : decide (mhi = h * l') = true := decide_eq_true K2.out.2.2
        clear K1 K2
        go_wp2_with fail
        go_returns
        exact ⟨rfl, hB⟩
      · replace K1 := Lib.hid K1
        replace K2 := Lib.hid K2
        have dl0 : decide (mlo = l * l') = false := decide_eq_false K1.out.1
        have dl1 : decide (mlo = l * h') = false := decide_eq_false K1.out.2.1
        have dl2 : decide (mlo = h * l') = true := decide_eq_true K1.out.2.2
        have dh0 : decide (mhi = l * l') = false := decide_eq_false K2.out.1
        have dh1 : decide (mhi = l * h') = false := decide_eq_false K2.out.2.1
        have dh2 : decide (mhi = h * l') = false := decide_eq_false K2.out.2.2.1
        have dh3 : decide (mhi = h * h') = true := decide_eq_true K2.out.2.2.2
        clear K1 K2
        go_wp2_with fail
        go_returns
        exact ⟨rfl, hB⟩
      · replace K1 := Lib.hid K1
        replace K2 := Lib.hid K2
        have dl0 : decide (mlo = l * l') = false := decide_eq_false K1.out.1
        have dl1 : decide (mlo = l * h') = false := decide_eq_false K1.out.2.1
        have dl2 : decide (mlo = h * l') = false := decide_eq_false K1.out.2.2.1
        have dl3 : decide (mlo = h * h') = true := decide_eq_true K1.out.2.2.2
        have dh0 : decide (mhi = l * l') = true := decide_eq_true K2.out
        clear K1 K2
        go_wp2_with fail
        go_returns
        exact ⟨rfl, hB⟩
      · replace K1 := Lib.hid K1
        replace K2 := Lib.hid K2
        have dl0 : decide (mlo = l * l') = false := decide_eq_false K1.out.1
        have dl1 : decide (mlo = l * h') = false := decide_eq_false K1.out.2.1
        have dl2 : decide (mlo = h * l') = false := decide_eq_false K1.out.2.2.1
        have dl3 : decide (mlo = h * h') = true := decide_eq_true K1.out.2.2.2
        have dh0 : decide (mhi = l * l') = false := decide_eq_false K2.out.1
        have dh1 : decide (mhi = l * h') = true := decide_eq_true K2.out.2
        clear K1 K2
        go_wp2_with fail
        go_returns
        exact ⟨rfl, hB⟩
      · replace K1 := Lib.hid K1
        replace K2 := Lib.hid K2
        have dl0 : decide (mlo = l * l') = false := decide_eq_false K1.out.1
        have dl1 : decide (mlo = l * h') = false := decide_eq_false K1.out.2.1
        have dl2 : decide (mlo = h * l') = false := decide_eq_false K1.out.2.2.1
        have dl3 : decide (mlo = h * h') = true := decide_eq_true K1.out.2.2.2
        have dh0 : decide (mhi = l * l') = false := decide_eq_false K2.out.1
        have dh1 : decide (mhi = l * h') = false := decide_eq_false K2.out.2.1
        have dh2 : decide (mhi = h * l') = true := decide_eq_true K2.out.2.2
        clear K1 K2
        go_wp2_with fail
        go_returns
        exact ⟨rfl, hB⟩
      · replace K1 := Lib.hid K1
        replace K2 := Lib.hid K2
        have dl0 : decide (mlo = l * l') = false := decide_eq_false K1.out.1
        have dl1 : decide (mlo = l * h') = false := decide_eq_false K1.out.2.1
        have dl2 : decide (mlo = h * l') = false := decide_eq_false K1.out.2.2.1
        have dl3 : decide (mlo = h * h') = true := decide_eq_true K1.out.2.2.2
        have dh0 : decide (mhi = l * l') = false := decide_eq_false K2.out.1
        have dh1 : decide (mhi = l * h') = false := decide_eq_false K2.out.2.1
        have dh2 : decide (mhi = h * l') = false := decide_eq_false K2.out.2.2.1
        have dh3 : decide (mhi = h * h') = true := decide_eq_true K2.out.2.2.2
        clear K1 K2
        go_wp2_with fail
        go_returns
        exact ⟨rfl, hB⟩
end Go.Proofs.Ytclohghongpfkaa
