/-
  Contracts: the nearest integer.
-/
import Derived.Test.YtcgcocingfhleaaQ5
import Derived.Test.YtcgcocingfhleaaInv
import Derived.Test.YtcgcocingfhleaaW12
import Derived.Test.YtcgcocingfhleaaW14
namespace Go.Proofs.Ytcgcocingfhleaa
set_option linter.unusedVariables false
set_option linter.unusedSimpArgs false
open Go.RowKit

theorem nr_facts {x d : Int} (hd : 0 < d) (h1 : -9444732965739290427392 ≤ x) (h2 : x ≤ 9444732965739290427392) : Wi.dV x d 0 = Lq.nr x d ∧ Wi.dB x d 0 = true ∧ Wi.inW (Lq.nr x d) := by
  have b := Lq.nr_bd hd (by omega) (show -9444732965739290427392 ≤ x ∧ x ≤ 9444732965739290427392 from ⟨h1, h2⟩)
  have hi : Wi.inW (Lq.nr x d) := by unfold Wi.inW; omega
  have e : Wi.dv x d 0 = Lq.nr x d := Lq.near_pos hd
  rw [Wi.dV_n (by omega), Wi.dB_n (by omega), e]
  exact ⟨Wi.rv_yes hi, Wi.okb_yes hi, hi⟩
set_option maxRecDepth 100000 in
set_option maxHeartbeats 4000000 in
theorem near1_c (h l v d : Int) (w : World) (H : Wi.Wd h l v) (hd : 0 < d) (d2 : d ≤ 9223372036854775807) (v1 : -9444732965739290427392 ≤ v) (v2 : v ≤ 9444732965739290427392) :
    Calls Try.prog 39 #[.agg #[.int .i64 h, .int .u64 l], .int .i64 d] w fun e w' => e = .returned (.tuple #[.int .i64 (Wi.iv (Lq.nr v d)), .bool (Wi.ib (Lq.nr v d))]) ∧ Below w.heap.size w w' := by
  obtain ⟨e1, e2, hi⟩ := nr_facts hd v1 v2
  have E1 := Lib.hid e1
  have E2 := Lib.hid e2
  have HD : Wi.Wd (Wi.Hq d) (Wi.Lr d) d := Wi.wd_self (by unfold Wi.inW; omega)
  have HN : Wi.Wd (Wi.Hq (Lq.nr v d)) (Wi.Lr (Lq.nr v d)) (Lq.nr v d) := Wi.wd_self hi
  have d1 : -9223372036854775808 ≤ d := by omega
  clear e1 e2 hi
  go_enter Try.func39, Try.ntmps39
  have X := Blk.new w 34 #[.int .i64 (h), .int .u64 (l)]
  have hB := ba w (.cells #[.int .i64 (h), .int .u64 (l)] 34)
  go_wp2_with fail
  refine wp_region_inv (fun L x G wx => Below w.heap.size w wx
        ∧ w.heap.size < wx.heap.size
        ∧ Blk wx (w.heap.size) 34 #[.int .i64 (h), .int .u64 (l)]
        ∧ (L 7 → w.heap.size ≤ G 7 ∧ G 7 < wx.heap.size ∧ w.heap.size ≠ G 7)
        ∧ (L 7 → ¬ L 8 → Blk wx (G 7) 34 #[.int .i64 (0), .int .u64 (0)])
        ∧ (L 8 → Blk wx (G 7) 34 #[.int .i64 (Wi.Hq (Lq.nr v d)), .int .u64 (Wi.Lr (Lq.nr v d))])
        ∧ (L 8 → L 7)
        ∧ (L 0 → x 9 = .agg #[.int .i64 (h), .int .u64 (l)])
        ∧ (L 1 → x 10 = .int .i64 (d))
        ∧ (L 2 → x 11 = .agg #[.int .i64 (Wi.Hq (d)), .int .u64 (Wi.Lr (d))])
        ∧ (L 3 → x 12 = .tuple #[.agg #[.int .i64 (Wi.Hq (Lq.nr v d)), .int .u64 (Wi.Lr (Lq.nr v d))], .bool (true)])
        ∧ (L 4 → x 8 = .tuple #[.agg #[.int .i64 (Wi.Hq (Lq.nr v d)), .int .u64 (Wi.Lr (Lq.nr v d))], .bool (true)])
        ∧ (L 5 → x 13 = .agg #[.int .i64 (Wi.Hq (Lq.nr v d)), .int .u64 (Wi.Lr (Lq.nr v d))])
        ∧ (L 6 → x 14 = .bool (true))
        ∧ (L 7 → x 6 = .pointer (some ⟨G 7, 0, none⟩))
        ∧ (L 9 → x 7 = .bool (true))) [9, 10, 11, 12, 8, 13, 14, 6, 7] 10 (by kernel_rfl) (by kernel_rfl) (by kernel_rfl) ?h0 ?st ?fin
  case h0 =>
    exact ⟨bdr hB, Blk.lt X.drew, X.drew, fun q => q.elim, fun q => q.elim, fun q => q.elim, fun q => q.elim, fun q => q.elim, fun q => q.elim, fun q => q.elim, fun q => q.elim, fun q => q.elim, fun q => q.elim, fun q => q.elim, fun q => q.elim, fun q => q.elim⟩
  case st =>
    refine StepsOk.cons (i := 0) rfl (fun L x G w1 K Q hn hp hJ hK => ?_) ?_
    · skip
      have hc := Blk.open2 ((hJ.2.2.1))
      have c0 := hc.1
      have c1 := hc.2.1
      have c2 := hc.2.2.1
      have c3 := hc.2.2.2
      clear hc
      simp only [putAll, Act.put, List.setIfInBounds_toArray, List.set_cons_zero, List.set_cons_succ]
      go_simp
      refine hK _ G _ (by kernel_rfl) ?_
      exact ⟨(hJ.1),
        (hJ.2.1),
        (hJ.2.2.1),
        fun q => (hJ.2.2.2.1) (q.resolve_left (by decide)),
        fun q n => (hJ.2.2.2.2.1) (q.resolve_left (by decide)) (fun m => n (.inr m)),
        fun q => (hJ.2.2.2.2.2.1) (q.resolve_left (by decide)),
        fun q => .inr ((hJ.2.2.2.2.2.2.1) (q.resolve_left (by decide))),
        fun _ => rfl,
        fun q => (hJ.2.2.2.2.2.2.2.2.1) (q.resolve_left (by decide)),
        fun q => (hJ.2.2.2.2.2.2.2.2.2.1) (q.resolve_left (by decide)),
        fun q => (hJ.2.2.2.2.2.2.2.2.2.2.1) (q.resolve_left (by decide)),
        fun q => (hJ.2.2.2.2.2.2.2.2.2.2.2.1) (q.resolve_left (by decide)),
        fun q => (hJ.2.2.2.2.2.2.2.2.2.2.2.2.1) (q.resolve_left (by decide)),
        fun q => (hJ.2.2.2.2.2.2.2.2.2.2.2.2.2.1) (q.resolve_left (by decide)),
        fun q => (hJ.2.2.2.2.2.2.2.2.2.2.2.2.2.2.1) (q.resolve_left (by decide)),
        fun q => (hJ.2.2.2.2.2.2.2.2.2.2.2.2.2.2.2) (q.resolve_left (by decide))⟩
    refine StepsOk.cons (i := 1) rfl (fun L x G w1 K Q hn hp hJ hK => ?_) ?_
    · skip
      simp only [putAll, Act.put, List.setIfInBounds_toArray, List.set_cons_zero, List.set_cons_succ]
      go_simp
      refine hK _ G _ (by kernel_rfl) ?_
      exact ⟨(hJ.1),
        (hJ.2.1),
        (hJ.2.2.1),
        fun q => (hJ.2.2.2.1) (q.resolve_left (by decide)),
        fun q n => (hJ.2.2.2.2.1) (q.resolve_left (by decide)) (fun m => n (.inr m)),
        fun q => (hJ.2.2.2.2.2.1) (q.resolve_left (by decide)),
        fun q => .inr ((hJ.2.2.2.2.2.2.1) (q.resolve_left (by decide))),
        fun q => (hJ.2.2.2.2.2.2.2.1) (q.resolve_left (by decide)),
        fun _ => rfl,
        fun q => (hJ.2.2.2.2.2.2.2.2.2.1) (q.resolve_left (by decide)),
        fun q => (hJ.2.2.2.2.2.2.2.2.2.2.1) (q.resolve_left (by decide)),
        fun q => (hJ.2.2.2.2.2.2.2.2.2.2.2.1) (q.resolve_left (by decide)),
        fun q => (hJ.2.2.2.2.2.2.2.2.2.2.2.2.1) (q.resolve_left (by decide)),
        fun q => (hJ.2.2.2.2.2.2.2.2.2.2.2.2.2.1) (q.resolve_left (by decide)),
        fun q => (hJ.2.2.2.2.2.2.2.2.2.2.2.2.2.2.1) (q.resolve_left (by decide)),
        fun q => (hJ.2.2.2.2.2.2.2.2.2.2.2.2.2.2.2) (q.resolve_left (by decide))⟩
    refine StepsOk.cons (i := 2) rfl (fun L x G w1 K Q hn hp hJ hK => ?_) ?_
    · skip
      have p1 : L 1 := hp ⟨1, .data⟩ (by simp) rfl
      have e1 := (hJ.2.2.2.2.2.2.2.2.1) p1
      simp only [putAll, Act.put, List.setIfInBounds_toArray, List.set_cons_zero, List.set_cons_succ]
      go_simp
      refine (of_c _ _ d1 d2).mono ?_
      rintro e w2 ⟨rfl, hb⟩
      have hz := hb.size
      try go_simp
      refine hK _ G _ (by kernel_rfl) ?_
      exact ⟨bt (hJ.1) hb,
        Nat.lt_of_lt_of_le (hJ.2.1) hb.size,
        Blk.keep ((hJ.2.2.1)) hb,
        fun q => ⟨((hJ.2.2.2.1) (q.resolve_left (by decide))).1, by have := ((hJ.2.2.2.1) (q.resolve_left (by decide))).2.1; omega, ((hJ.2.2.2.1) (q.resolve_left (by decide))).2.2⟩,
        fun q n => Blk.keep ((hJ.2.2.2.2.1) (q.resolve_left (by decide)) (fun m => n (.inr m))) hb,
        fun q => Blk.keep ((hJ.2.2.2.2.2.1) (q.resolve_left (by decide))) hb,
        fun q => .inr ((hJ.2.2.2.2.2.2.1) (q.resolve_left (by decide))),
        fun q => (hJ.2.2.2.2.2.2.2.1) (q.resolve_left (by decide)),
        fun _ => by first | exact rfl | exact e1,
        fun _ => rfl,
        fun q => (hJ.2.2.2.2.2.2.2.2.2.2.1) (q.resolve_left (by decide)),
        fun q => (hJ.2.2.2.2.2.2.2.2.2.2.2.1) (q.resolve_left (by decide)),
        fun q => (hJ.2.2.2.2.2.2.2.2.2.2.2.2.1) (q.resolve_left (by decide)),
        fun q => (hJ.2.2.2.2.2.2.2.2.2.2.2.2.2.1) (q.resolve_left (by decide)),
        fun q => (hJ.2.2.2.2.2.2.2.2.2.2.2.2.2.2.1) (q.resolve_left (by decide)),
        fun q => (hJ.2.2.2.2.2.2.2.2.2.2.2.2.2.2.2) (q.resolve_left (by decide))⟩
    refine StepsOk.cons (i := 3) rfl (fun L x G w1 K Q hn hp hJ hK => ?_) ?_
    · skip
      have p0 : L 0 := hp ⟨0, .data⟩ (by simp) rfl
      have e0 := (hJ.2.2.2.2.2.2.2.1) p0
      have p2 : L 2 := hp ⟨2, .data⟩ (by simp) rfl
      have e2 := (hJ.2.2.2.2.2.2.2.2.2.1) p2
      simp only [putAll, Act.put, List.setIfInBounds_toArray, List.set_cons_zero, List.set_cons_succ]
      go_simp
      refine (near_c _ _ _ _ _ _ _ H HD).mono ?_
      rw [E1.out, E2.out]
      rintro e w2 ⟨rfl, hb⟩
      have hz := hb.size
      try go_simp
      refine hK _ G _ (by kernel_rfl) ?_
      exact ⟨bt (hJ.1) hb,
        Nat.lt_of_lt_of_le (hJ.2.1) hb.size,
        Blk.keep ((hJ.2.2.1)) hb,
        fun q => ⟨((hJ.2.2.2.1) (q.resolve_left (by decide))).1, by have := ((hJ.2.2.2.1) (q.resolve_left (by decide))).2.1; omega, ((hJ.2.2.2.1) (q.resolve_left (by decide))).2.2⟩,
        fun q n => Blk.keep ((hJ.2.2.2.2.1) (q.resolve_left (by decide)) (fun m => n (.inr m))) hb,
        fun q => Blk.keep ((hJ.2.2.2.2.2.1) (q.resolve_left (by decide))) hb,
        fun q => .inr ((hJ.2.2.2.2.2.2.1) (q.resolve_left (by decide))),
        fun _ => by first | exact rfl | exact e0,
        fun q => (hJ.2.2.2.2.2.2.2.2.1) (q.resolve_left (by decide)),
        fun _ => by first | exact rfl | exact e2,
        fun _ => rfl,
        fun q => (hJ.2.2.2.2.2.2.2.2.2.2.2.1) (q.resolve_left (by decide)),
        fun q => (hJ.2.2.2.2.2.2.2.2.2.2.2.2.1) (q.resolve_left (by decide)),
        fun q => (hJ.2.2.2.2.2.2.2.2.2.2.2.2.2.1) (q.resolve_left (by decide)),
        fun q => (hJ.2.2.2.2.2.2.2.2.2.2.2.2.2.2.1) (q.resolve_left (by decide)),
        fun q => (hJ.2.2.2.2.2.2.2.2.2.2.2.2.2.2.2) (q.resolve_left (by decide))⟩
    refine StepsOk.cons (i := 4) rfl (fun L x G w1 K Q hn hp hJ hK => ?_) ?_
    · skip
      have p3 : L 3 := hp ⟨3, .data⟩ (by simp) rfl
      have e3 := (hJ.2.2.2.2.2.2.2.2.2.2.1) p3
      simp only [putAll, Act.put, List.setIfInBounds_toArray, List.set_cons_zero, List.set_cons_succ]
      go_simp
      refine hK _ G _ (by kernel_rfl) ?_
      exact ⟨(hJ.1),
        (hJ.2.1),
        (hJ.2.2.1),
        fun q => (hJ.2.2.2.1) (q.resolve_left (by decide)),
        fun q n => (hJ.2.2.2.2.1) (q.resolve_left (by decide)) (fun m => n (.inr m)),
        fun q => (hJ.2.2.2.2.2.1) (q.resolve_left (by decide)),
        fun q => .inr ((hJ.2.2.2.2.2.2.1) (q.resolve_left (by decide))),
        fun q => (hJ.2.2.2.2.2.2.2.1) (q.resolve_left (by decide)),
        fun q => (hJ.2.2.2.2.2.2.2.2.1) (q.resolve_left (by decide)),
        fun q => (hJ.2.2.2.2.2.2.2.2.2.1) (q.resolve_left (by decide)),
        fun _ => by first | exact rfl | exact e3,
        fun _ => rfl,
        fun q => (hJ.2.2.2.2.2.2.2.2.2.2.2.2.1) (q.resolve_left (by decide)),
        fun q => (hJ.2.2.2.2.2.2.2.2.2.2.2.2.2.1) (q.resolve_left (by decide)),
        fun q => (hJ.2.2.2.2.2.2.2.2.2.2.2.2.2.2.1) (q.resolve_left (by decide)),
        fun q => (hJ.2.2.2.2.2.2.2.2.2.2.2.2.2.2.2) (q.resolve_left (by decide))⟩
    refine StepsOk.cons (i := 5) rfl (fun L x G w1 K Q hn hp hJ hK => ?_) ?_
    · skip
      have p4 : L 4 := hp ⟨4, .data⟩ (by simp) rfl
      have e4 := (hJ.2.2.2.2.2.2.2.2.2.2.2.1) p4
      simp only [putAll, Act.put, List.setIfInBounds_toArray, List.set_cons_zero, List.set_cons_succ]
      go_simp
      refine hK _ G _ (by kernel_rfl) ?_
      exact ⟨(hJ.1),
        (hJ.2.1),
        (hJ.2.2.1),
        fun q => (hJ.2.2.2.1) (q.resolve_left (by decide)),
        fun q n => (hJ.2.2.2.2.1) (q.resolve_left (by decide)) (fun m => n (.inr m)),
        fun q => (hJ.2.2.2.2.2.1) (q.resolve_left (by decide)),
        fun q => .inr ((hJ.2.2.2.2.2.2.1) (q.resolve_left (by decide))),
        fun q => (hJ.2.2.2.2.2.2.2.1) (q.resolve_left (by decide)),
        fun q => (hJ.2.2.2.2.2.2.2.2.1) (q.resolve_left (by decide)),
        fun q => (hJ.2.2.2.2.2.2.2.2.2.1) (q.resolve_left (by decide)),
        fun q => (hJ.2.2.2.2.2.2.2.2.2.2.1) (q.resolve_left (by decide)),
        fun _ => by first | exact rfl | exact e4,
        fun _ => rfl,
        fun q => (hJ.2.2.2.2.2.2.2.2.2.2.2.2.2.1) (q.resolve_left (by decide)),
        fun q => (hJ.2.2.2.2.2.2.2.2.2.2.2.2.2.2.1) (q.resolve_left (by decide)),
        fun q => (hJ.2.2.2.2.2.2.2.2.2.2.2.2.2.2.2) (q.resolve_left (by decide))⟩
    refine StepsOk.cons (i := 6) rfl (fun L x G w1 K Q hn hp hJ hK => ?_) ?_
    · skip
      have p4 : L 4 := hp ⟨4, .data⟩ (by simp) rfl
      have e4 := (hJ.2.2.2.2.2.2.2.2.2.2.2.1) p4
      simp only [putAll, Act.put, List.setIfInBounds_toArray, List.set_cons_zero, List.set_cons_succ]
      go_simp
      refine hK _ G _ (by kernel_rfl) ?_
      exact ⟨(hJ.1),
        (hJ.2.1),
        (hJ.2.2.1),
        fun q => (hJ.2.2.2.1) (q.resolve_left (by decide)),
        fun q n => (hJ.2.2.2.2.1) (q.resolve_left (by decide)) (fun m => n (.inr m)),
        fun q => (hJ.2.2.2.2.2.1) (q.resolve_left (by decide)),
        fun q => .inr ((hJ.2.2.2.2.2.2.1) (q.resolve_left (by decide))),
        fun q => (hJ.2.2.2.2.2.2.2.1) (q.resolve_left (by decide)),
        fun q => (hJ.2.2.2.2.2.2.2.2.1) (q.resolve_left (by decide)),
        fun q => (hJ.2.2.2.2.2.2.2.2.2.1) (q.resolve_left (by decide)),
        fun q => (hJ.2.2.2.2.2.2.2.2.2.2.1) (q.resolve_left (by decide)),
        fun _ => by first | exact rfl | exact e4,
        fun q => (hJ.2.2.2.2.2.2.2.2.2.2.2.2.1) (q.resolve_left (by decide)),
        fun _ => rfl,
        fun q => (hJ.2.2.2.2.2.2.2.2.2.2.2.2.2.2.1) (q.resolve_left (by decide)),
        fun q => (hJ.2.2.2.2.2.2.2.2.2.2.2.2.2.2.2) (q.resolve_left (by decide))⟩
    refine StepsOk.cons (i := 7) rfl (fun L x G w1 K Q hn hp hJ hK => ?_) ?_
    · skip
      simp only [putAll, Act.put, List.setIfInBounds_toArray, List.set_cons_zero, List.set_cons_succ]
      go_simp
      refine hK _ (fun t => if t = 7 then w1.heap.size else G t) _ (by kernel_rfl) ?_
      exact ⟨bal (hJ.1) _,
        by simp; omega,
        Blk.alloc ((hJ.2.2.1)) _,
        fun _ => ⟨(hJ.1).size, by simp, Nat.ne_of_lt (hJ.2.1)⟩,
        fun _ _ => Blk.new w1 _ _,
        fun q => absurd ((hJ.2.2.2.2.2.2.1) (q.resolve_left (by decide))) hn,
        fun q => .inr ((hJ.2.2.2.2.2.2.1) (q.resolve_left (by decide))),
        fun q => (hJ.2.2.2.2.2.2.2.1) (q.resolve_left (by decide)),
        fun q => (hJ.2.2.2.2.2.2.2.2.1) (q.resolve_left (by decide)),
        fun q => (hJ.2.2.2.2.2.2.2.2.2.1) (q.resolve_left (by decide)),
        fun q => (hJ.2.2.2.2.2.2.2.2.2.2.1) (q.resolve_left (by decide)),
        fun q => (hJ.2.2.2.2.2.2.2.2.2.2.2.1) (q.resolve_left (by decide)),
        fun q => (hJ.2.2.2.2.2.2.2.2.2.2.2.2.1) (q.resolve_left (by decide)),
        fun q => (hJ.2.2.2.2.2.2.2.2.2.2.2.2.2.1) (q.resolve_left (by decide)),
        fun _ => rfl,
        fun q => (hJ.2.2.2.2.2.2.2.2.2.2.2.2.2.2.2) (q.resolve_left (by decide))⟩
    refine StepsOk.cons (i := 8) rfl (fun L x G w1 K Q hn hp hJ hK => ?_) ?_
    · skip
      have p5 : L 5 := hp ⟨5, .data⟩ (by simp) rfl
      have e5 := (hJ.2.2.2.2.2.2.2.2.2.2.2.2.1) p5
      have p7 : L 7 := hp ⟨7, .data⟩ (by simp) rfl
      have e7 := (hJ.2.2.2.2.2.2.2.2.2.2.2.2.2.2.1) p7
      have hc := Blk.open2 (((hJ.2.2.2.2.1) p7 hn))
      have c0 := hc.1
      have c1 := hc.2.1
      have c2 := hc.2.2.1
      have c3 := hc.2.2.2
      clear hc
      simp only [putAll, Act.put, List.setIfInBounds_toArray, List.set_cons_zero, List.set_cons_succ]
      go_simp
      refine hK _ G _ (by kernel_rfl) ?_
      exact ⟨bst (bst ((hJ.1)) (p := ⟨G 7, 0, none⟩) ((hJ.2.2.2.1) p7).1 (.int .i64 (Wi.Hq (Lq.nr v d)))) (p := ⟨G 7, 1, none⟩) ((hJ.2.2.2.1) p7).1 (.int .u64 (Wi.Lr (Lq.nr v d))),
        by simpa using (hJ.2.1),
        Blk.far (Blk.far ((hJ.2.2.1)) (p := ⟨G 7, 0, none⟩) (((hJ.2.2.2.1) p7).2.2) (.int .i64 (Wi.Hq (Lq.nr v d)))) (p := ⟨G 7, 1, none⟩) (((hJ.2.2.2.1) p7).2.2) (.int .u64 (Wi.Lr (Lq.nr v d))),
        fun q => ⟨((hJ.2.2.2.1) (q.resolve_left (by decide))).1, by have := ((hJ.2.2.2.1) (q.resolve_left (by decide))).2.1; simpa using this, ((hJ.2.2.2.1) (q.resolve_left (by decide))).2.2⟩,
        fun _ n => absurd (.inl rfl) n,
        fun _ => by simpa using Blk.set_ (Blk.set_ (((hJ.2.2.2.2.1) p7 hn)) 0 (.int .i64 (Wi.Hq (Lq.nr v d)))) 1 (.int .u64 (Wi.Lr (Lq.nr v d))),
        fun _ => .inr p7,
        fun q => (hJ.2.2.2.2.2.2.2.1) (q.resolve_left (by decide)),
        fun q => (hJ.2.2.2.2.2.2.2.2.1) (q.resolve_left (by decide)),
        fun q => (hJ.2.2.2.2.2.2.2.2.2.1) (q.resolve_left (by decide)),
        fun q => (hJ.2.2.2.2.2.2.2.2.2.2.1) (q.resolve_left (by decide)),
        fun q => (hJ.2.2.2.2.2.2.2.2.2.2.2.1) (q.resolve_left (by decide)),
        fun _ => by first | exact rfl | exact e5,
        fun q => (hJ.2.2.2.2.2.2.2.2.2.2.2.2.2.1) (q.resolve_left (by decide)),
        fun _ => by first | exact rfl | exact e7,
        fun q => (hJ.2.2.2.2.2.2.2.2.2.2.2.2.2.2.2) (q.resolve_left (by decide))⟩
    refine StepsOk.cons (i := 9) rfl (fun L x G w1 K Q hn hp hJ hK => ?_) ?_
    · skip
      have p6 : L 6 := hp ⟨6, .data⟩ (by simp) rfl
      have e6 := (hJ.2.2.2.2.2.2.2.2.2.2.2.2.2.1) p6
      simp only [putAll, Act.put, List.setIfInBounds_toArray, List.set_cons_zero, List.set_cons_succ]
      go_simp
      refine hK _ G _ (by kernel_rfl) ?_
      exact ⟨(hJ.1),
        (hJ.2.1),
        (hJ.2.2.1),
        fun q => (hJ.2.2.2.1) (q.resolve_left (by decide)),
        fun q n => (hJ.2.2.2.2.1) (q.resolve_left (by decide)) (fun m => n (.inr m)),
        fun q => (hJ.2.2.2.2.2.1) (q.resolve_left (by decide)),
        fun q => .inr ((hJ.2.2.2.2.2.2.1) (q.resolve_left (by decide))),
        fun q => (hJ.2.2.2.2.2.2.2.1) (q.resolve_left (by decide)),
        fun q => (hJ.2.2.2.2.2.2.2.2.1) (q.resolve_left (by decide)),
        fun q => (hJ.2.2.2.2.2.2.2.2.2.1) (q.resolve_left (by decide)),
        fun q => (hJ.2.2.2.2.2.2.2.2.2.2.1) (q.resolve_left (by decide)),
        fun q => (hJ.2.2.2.2.2.2.2.2.2.2.2.1) (q.resolve_left (by decide)),
        fun q => (hJ.2.2.2.2.2.2.2.2.2.2.2.2.1) (q.resolve_left (by decide)),
        fun _ => by first | exact rfl | exact e6,
        fun q => (hJ.2.2.2.2.2.2.2.2.2.2.2.2.2.2.1) (q.resolve_left (by decide)),
        fun _ => rfl⟩
    exact StepsOk.nil
  case fin =>
    intro L x G w1 hall hJ
    replace X := (hJ.2.2.1)
    obtain ⟨haS, hlS, hnSX⟩ := (hJ.2.2.2.1) (hall 7 (by decide))
    have S := (hJ.2.2.2.2.2.1) (hall 8 (by decide))
    have u0 := hJ.2.2.2.2.2.2.2.1 (hall 0 (by decide))
    have u1 := hJ.2.2.2.2.2.2.2.2.1 (hall 1 (by decide))
    have u2 := hJ.2.2.2.2.2.2.2.2.2.1 (hall 2 (by decide))
    have u3 := hJ.2.2.2.2.2.2.2.2.2.2.1 (hall 3 (by decide))
    have u4 := hJ.2.2.2.2.2.2.2.2.2.2.2.1 (hall 4 (by decide))
    have u5 := hJ.2.2.2.2.2.2.2.2.2.2.2.2.1 (hall 5 (by decide))
    have u6 := hJ.2.2.2.2.2.2.2.2.2.2.2.2.2.1 (hall 6 (by decide))
    have u7 := hJ.2.2.2.2.2.2.2.2.2.2.2.2.2.2.1 (hall 7 (by decide))
    have u9 := hJ.2.2.2.2.2.2.2.2.2.2.2.2.2.2.2 (hall 9 (by decide))
    replace hB := hJ.1
    simp only [putAll, Act.put, List.setIfInBounds_toArray, List.set_cons_zero, List.set_cons_succ]
    simp only [u0, u1, u2, u3, u4, u5, u6, u7, u9]
    clear hall hJ u0 u1 u2 u3 u4 u5 u6 u7 u9
    generalize G 7 = gS at *
    obtain ⟨c00, c01, c02, c03⟩ := S.open2
    go_wp2_with fail
    refine (int_c _ _ _ _ HN).mono ?_
    rintro e w2 ⟨rfl, hb⟩
    clear c00 c01 c02 c03
    replace X := X.keep hb
    replace S := S.keep hb
    replace hB := bt hB hb
    clear hb
    go_wp2_with fail
    go_returns
    exact ⟨rfl, hB⟩
set_option maxRecDepth 100000 in
set_option maxHeartbeats 4000000 in
theorem rnear1_c (h l v d : Int) (w : World) (H : Wi.Wd h l v) (hd : 0 < d) (d2 : d ≤ 9223372036854775807) (v1 : -9444732965739290427392 ≤ v) (v2 : v ≤ 9444732965739290427392) :
    Calls Try.prog 41 #[.agg #[.int .i64 h, .int .u64 l], .int .i64 d] w fun e w' => e = .returned (.tuple #[.int .i64 (Wi.iv (Lq.nr v d)), .bool (Wi.ib (Lq.nr v d))]) ∧ Below w.heap.size w w' := by
  obtain ⟨e1, e2, hi⟩ := nr_facts hd v1 v2
  have E1 := Lib.hid e1
  have E2 := Lib.hid e2
  have HD : Wi.Wd (Wi.Hq d) (Wi.Lr d) d := Wi.wd_self (by unfold Wi.inW; omega)
  have HN : Wi.Wd (Wi.Hq (Lq.nr v d)) (Wi.Lr (Lq.nr v d)) (Lq.nr v d) := Wi.wd_self hi
  have d1 : -9223372036854775808 ≤ d := by omega
  clear e1 e2 hi
  go_enter Try.func41, Try.ntmps41
  have X := Blk.new w 34 #[.int .i64 (h), .int .u64 (l)]
  have hB := ba w (.cells #[.int .i64 (h), .int .u64 (l)] 34)
  go_wp2_with fail
  refine wp_region_inv (fun L x G wx => Below w.heap.size w wx
        ∧ w.heap.size < wx.heap.size
        ∧ Blk wx (w.heap.size) 34 #[.int .i64 (h), .int .u64 (l)]
        ∧ (L 7 → w.heap.size ≤ G 7 ∧ G 7 < wx.heap.size ∧ w.heap.size ≠ G 7)
        ∧ (L 7 → ¬ L 8 → Blk wx (G 7) 34 #[.int .i64 (0), .int .u64 (0)])
        ∧ (L 8 → Blk wx (G 7) 34 #[.int .i64 (Wi.Hq (Lq.nr v d)), .int .u64 (Wi.Lr (Lq.nr v d))])
        ∧ (L 8 → L 7)
        ∧ (L 0 → x 9 = .agg #[.int .i64 (h), .int .u64 (l)])
        ∧ (L 1 → x 10 = .int .i64 (d))
        ∧ (L 2 → x 11 = .agg #[.int .i64 (Wi.Hq (d)), .int .u64 (Wi.Lr (d))])
        ∧ (L 3 → x 12 = .tuple #[.agg #[.int .i64 (Wi.Hq (Lq.nr v d)), .int .u64 (Wi.Lr (Lq.nr v d))], .bool (true)])
        ∧ (L 4 → x 8 = .tuple #[.agg #[.int .i64 (Wi.Hq (Lq.nr v d)), .int .u64 (Wi.Lr (Lq.nr v d))], .bool (true)])
        ∧ (L 5 → x 13 = .agg #[.int .i64 (Wi.Hq (Lq.nr v d)), .int .u64 (Wi.Lr (Lq.nr v d))])
        ∧ (L 6 → x 14 = .bool (true))
        ∧ (L 7 → x 6 = .pointer (some ⟨G 7, 0, none⟩))
        ∧ (L 9 → x 7 = .bool (true))) [9, 10, 11, 12, 8, 13, 14, 6, 7] 10 (by kernel_rfl) (by kernel_rfl) (by kernel_rfl) ?h0 ?st ?fin
  case h0 =>
    exact ⟨bdr hB, Blk.lt X.drew, X.drew, fun q => q.elim, fun q => q.elim, fun q => q.elim, fun q => q.elim, fun q => q.elim, fun q => q.elim, fun q => q.elim, fun q => q.elim, fun q => q.elim, fun q => q.elim, fun q => q.elim, fun q => q.elim, fun q => q.elim⟩
  case st =>
    refine StepsOk.cons (i := 0) rfl (fun L x G w1 K Q hn hp hJ hK => ?_) ?_
    · skip
      have hc := Blk.open2 ((hJ.2.2.1))
      have c0 := hc.1
      have c1 := hc.2.1
      have c2 := hc.2.2.1
      have c3 := hc.2.2.2
      clear hc
      simp only [putAll, Act.put, List.setIfInBounds_toArray, List.set_cons_zero, List.set_cons_succ]
      go_simp
      refine hK _ G _ (by kernel_rfl) ?_
      exact ⟨(hJ.1),
        (hJ.2.1),
        (hJ.2.2.1),
        fun q => (hJ.2.2.2.1) (q.resolve_left (by decide)),
        fun q n => (hJ.2.2.2.2.1) (q.resolve_left (by decide)) (fun m => n (.inr m)),
        fun q => (hJ.2.2.2.2.2.1) (q.resolve_left (by decide)),
        fun q => .inr ((hJ.2.2.2.2.2.2.1) (q.resolve_left (by decide))),
        fun _ => rfl,
        fun q => (hJ.2.2.2.2.2.2.2.2.1) (q.resolve_left (by decide)),
        fun q => (hJ.2.2.2.2.2.2.2.2.2.1) (q.resolve_left (by decide)),
        fun q => (hJ.2.2.2.2.2.2.2.2.2.2.1) (q.resolve_left (by decide)),
        fun q => (hJ.2.2.2.2.2.2.2.2.2.2.2.1) (q.resolve_left (by decide)),
        fun q => (hJ.2.2.2.2.2.2.2.2.2.2.2.2.1) (q.resolve_left (by decide)),
        fun q => (hJ.2.2.2.2.2.2.2.2.2.2.2.2.2.1) (q.resolve_left (by decide)),
        fun q => (hJ.2.2.2.2.2.2.2.2.2.2.2.2.2.2.1) (q.resolve_left (by decide)),
        fun q => (hJ.2.2.2.2.2.2.2.2.2.2.2.2.2.2.2) (q.resolve_left (by decide))⟩
    refine StepsOk.cons (i := 1) rfl (fun L x G w1 K Q hn hp hJ hK => ?_) ?_
    · skip
      simp only [putAll, Act.put, List.setIfInBounds_toArray, List.set_cons_zero, List.set_cons_succ]
      go_simp
      refine hK _ G _ (by kernel_rfl) ?_
      exact ⟨(hJ.1),
        (hJ.2.1),
        (hJ.2.2.1),
        fun q => (hJ.2.2.2.1) (q.resolve_left (by decide)),
        fun q n => (hJ.2.2.2.2.1) (q.resolve_left (by decide)) (fun m => n (.inr m)),
        fun q => (hJ.2.2.2.2.2.1) (q.resolve_left (by decide)),
        fun q => .inr ((hJ.2.2.2.2.2.2.1) (q.resolve_left (by decide))),
        fun q => (hJ.2.2.2.2.2.2.2.1) (q.resolve_left (by decide)),
        fun _ => rfl,
        fun q => (hJ.2.2.2.2.2.2.2.2.2.1) (q.resolve_left (by decide)),
        fun q => (hJ.2.2.2.2.2.2.2.2.2.2.1) (q.resolve_left (by decide)),
        fun q => (hJ.2.2.2.2.2.2.2.2.2.2.2.1) (q.resolve_left (by decide)),
        fun q => (hJ.2.2.2.2.2.2.2.2.2.2.2.2.1) (q.resolve_left (by decide)),
        fun q => (hJ.2.2.2.2.2.2.2.2.2.2.2.2.2.1) (q.resolve_left (by decide)),
        fun q => (hJ.2.2.2.2.2.2.2.2.2.2.2.2.2.2.1) (q.resolve_left (by decide)),
        fun q => (hJ.2.2.2.2.2.2.2.2.2.2.2.2.2.2.2) (q.resolve_left (by decide))⟩
    refine StepsOk.cons (i := 2) rfl (fun L x G w1 K Q hn hp hJ hK => ?_) ?_
    · skip
      have p1 : L 1 := hp ⟨1, .data⟩ (by simp) rfl
      have e1 := (hJ.2.2.2.2.2.2.2.2.1) p1
      simp only [putAll, Act.put, List.setIfInBounds_toArray, List.set_cons_zero, List.set_cons_succ]
      go_simp
      refine (rof_c _ _ d1 d2).mono ?_
      rintro e w2 ⟨rfl, hb⟩
      have hz := hb.size
      try go_simp
      refine hK _ G _ (by kernel_rfl) ?_
      exact ⟨bt (hJ.1) hb,
        Nat.lt_of_lt_of_le (hJ.2.1) hb.size,
        Blk.keep ((hJ.2.2.1)) hb,
        fun q => ⟨((hJ.2.2.2.1) (q.resolve_left (by decide))).1, by have := ((hJ.2.2.2.1) (q.resolve_left (by decide))).2.1; omega, ((hJ.2.2.2.1) (q.resolve_left (by decide))).2.2⟩,
        fun q n => Blk.keep ((hJ.2.2.2.2.1) (q.resolve_left (by decide)) (fun m => n (.inr m))) hb,
        fun q => Blk.keep ((hJ.2.2.2.2.2.1) (q.resolve_left (by decide))) hb,
        fun q => .inr ((hJ.2.2.2.2.2.2.1) (q.resolve_left (by decide))),
        fun q => (hJ.2.2.2.2.2.2.2.1) (q.resolve_left (by decide)),
        fun _ => by first | exact rfl | exact e1,
        fun _ => rfl,
        fun q => (hJ.2.2.2.2.2.2.2.2.2.2.1) (q.resolve_left (by decide)),
        fun q => (hJ.2.2.2.2.2.2.2.2.2.2.2.1) (q.resolve_left (by decide)),
        fun q => (hJ.2.2.2.2.2.2.2.2.2.2.2.2.1) (q.resolve_left (by decide)),
        fun q => (hJ.2.2.2.2.2.2.2.2.2.2.2.2.2.1) (q.resolve_left (by decide)),
        fun q => (hJ.2.2.2.2.2.2.2.2.2.2.2.2.2.2.1) (q.resolve_left (by decide)),
        fun q => (hJ.2.2.2.2.2.2.2.2.2.2.2.2.2.2.2) (q.resolve_left (by decide))⟩
    refine StepsOk.cons (i := 3) rfl (fun L x G w1 K Q hn hp hJ hK => ?_) ?_
    · skip
      have p0 : L 0 := hp ⟨0, .data⟩ (by simp) rfl
      have e0 := (hJ.2.2.2.2.2.2.2.1) p0
      have p2 : L 2 := hp ⟨2, .data⟩ (by simp) rfl
      have e2 := (hJ.2.2.2.2.2.2.2.2.2.1) p2
      simp only [putAll, Act.put, List.setIfInBounds_toArray, List.set_cons_zero, List.set_cons_succ]
      go_simp
      refine (rnear_c _ _ _ _ _ _ _ H HD).mono ?_
      rw [E1.out, E2.out]
      rintro e w2 ⟨rfl, hb⟩
      have hz := hb.size
      try go_simp
      refine hK _ G _ (by kernel_rfl) ?_
      exact ⟨bt (hJ.1) hb,
        Nat.lt_of_lt_of_le (hJ.2.1) hb.size,
        Blk.keep ((hJ.2.2.1)) hb,
        fun q => ⟨((hJ.2.2.2.1) (q.resolve_left (by decide))).1, by have := ((hJ.2.2.2.1) (q.resolve_left (by decide))).2.1; omega, ((hJ.2.2.2.1) (q.resolve_left (by decide))).2.2⟩,
        fun q n => Blk.keep ((hJ.2.2.2.2.1) (q.resolve_left (by decide)) (fun m => n (.inr m))) hb,
        fun q => Blk.keep ((hJ.2.2.2.2.2.1) (q.resolve_left (by decide))) hb,
        fun q => .inr ((hJ.2.2.2.2.2.2.1) (q.resolve_left (by decide))),
        fun _ => by first | exact rfl | exact e0,
        fun q => (hJ.2.2.2.2.2.2.2.2.1) (q.resolve_left (by decide)),
        fun _ => by first | exact rfl | exact e2,
        fun _ => rfl,
        fun q => (hJ.2.2.2.2.2.2.2.2.2.2.2.1) (q.resolve_left (by decide)),
        fun q => (hJ.2.2.2.2.2.2.2.2.2.2.2.2.1) (q.resolve_left (by decide)),
        fun q => (hJ.2.2.2.2.2.2.2.2.2.2.2.2.2.1) (q.resolve_left (by decide)),
        fun q => (hJ.2.2.2.2.2.2.2.2.2.2.2.2.2.2.1) (q.resolve_left (by decide)),
        fun q => (hJ.2.2.2.2.2.2.2.2.2.2.2.2.2.2.2) (q.resolve_left (by decide))⟩
    refine StepsOk.cons (i := 4) rfl (fun L x G w1 K Q hn hp hJ hK => ?_) ?_
    · skip
      have p3 : L 3 := hp ⟨3, .data⟩ (by simp) rfl
      have e3 := (hJ.2.2.2.2.2.2.2.2.2.2.1) p3
      simp only [putAll, Act.put, List.setIfInBounds_toArray, List.set_cons_zero, List.set_cons_succ]
      go_simp
      refine hK _ G _ (by kernel_rfl) ?_
      exact ⟨(hJ.1),
        (hJ.2.1),
        (hJ.2.2.1),
        fun q => (hJ.2.2.2.1) (q.resolve_left (by decide)),
        fun q n => (hJ.2.2.2.2.1) (q.resolve_left (by decide)) (fun m => n (.inr m)),
        fun q => (hJ.2.2.2.2.2.1) (q.resolve_left (by decide)),
        fun q => .inr ((hJ.2.2.2.2.2.2.1) (q.resolve_left (by decide))),
        fun q => (hJ.2.2.2.2.2.2.2.1) (q.resolve_left (by decide)),
        fun q => (hJ.2.2.2.2.2.2.2.2.1) (q.resolve_left (by decide)),
        fun q => (hJ.2.2.2.2.2.2.2.2.2.1) (q.resolve_left (by decide)),
        fun _ => by first | exact rfl | exact e3,
        fun _ => rfl,
        fun q => (hJ.2.2.2.2.2.2.2.2.2.2.2.2.1) (q.resolve_left (by decide)),
        fun q => (hJ.2.2.2.2.2.2.2.2.2.2.2.2.2.1) (q.resolve_left (by decide)),
        fun q => (hJ.2.2.2.2.2.2.2.2.2.2.2.2.2.2.1) (q.resolve_left (by decide)),
        fun q => (hJ.2.2.2.2.2.2.2.2.2.2.2.2.2.2.2) (q.resolve_left (by decide))⟩
    refine StepsOk.cons (i := 5) rfl (fun L x G w1 K Q hn hp hJ hK => ?_) ?_
    · skip
      have p4 : L 4 := hp ⟨4, .data⟩ (by simp) rfl
      have e4 := (hJ.2.2.2.2.2.2.2.2.2.2.2.1) p4
      simp only [putAll, Act.put, List.setIfInBounds_toArray, List.set_cons_zero, List.set_cons_succ]
      go_simp
      refine hK _ G _ (by kernel_rfl) ?_
      exact ⟨(hJ.1),
        (hJ.2.1),
        (hJ.2.2.1),
        fun q => (hJ.2.2.2.1) (q.resolve_left (by decide)),
        fun q n => (hJ.2.2.2.2.1) (q.resolve_left (by decide)) (fun m => n (.inr m)),
        fun q => (hJ.2.2.2.2.2.1) (q.resolve_left (by decide)),
        fun q => .inr ((hJ.2.2.2.2.2.2.1) (q.resolve_left (by decide))),
        fun q => (hJ.2.2.2.2.2.2.2.1) (q.resolve_left (by decide)),
        fun q => (hJ.2.2.2.2.2.2.2.2.1) (q.resolve_left (by decide)),
        fun q => (hJ.2.2.2.2.2.2.2.2.2.1) (q.resolve_left (by decide)),
        fun q => (hJ.2.2.2.2.2.2.2.2.2.2.1) (q.resolve_left (by decide)),
        fun _ => by first | exact rfl | exact e4,
        fun _ => rfl,
        fun q => (hJ.2.2.2.2.2.2.2.2.2.2.2.2.2.1) (q.resolve_left (by decide)),
        fun q => (hJ.2.2.2.2.2.2.2.2.2.2.2.2.2.2.1) (q.resolve_left (by decide)),
        fun q => (hJ.2.2.2.2.2.2.2.2.2.2.2.2.2.2.2) (q.resolve_left (by decide))⟩
    refine StepsOk.cons (i := 6) rfl (fun L x G w1 K Q hn hp hJ hK => ?_) ?_
    · skip
      have p4 : L 4 := hp ⟨4, .data⟩ (by simp) rfl
      have e4 := (hJ.2.2.2.2.2.2.2.2.2.2.2.1) p4
      simp only [putAll, Act.put, List.setIfInBounds_toArray, List.set_cons_zero, List.set_cons_succ]
      go_simp
      refine hK _ G _ (by kernel_rfl) ?_
      exact ⟨(hJ.1),
        (hJ.2.1),
        (hJ.2.2.1),
        fun q => (hJ.2.2.2.1) (q.resolve_left (by decide)),
        fun q n => (hJ.2.2.2.2.1) (q.resolve_left (by decide)) (fun m => n (.inr m)),
        fun q => (hJ.2.2.2.2.2.1) (q.resolve_left (by decide)),
        fun q => .inr ((hJ.2.2.2.2.2.2.1) (q.resolve_left (by decide))),
        fun q => (hJ.2.2.2.2.2.2.2.1) (q.resolve_left (by decide)),
        fun q => (hJ.2.2.2.2.2.2.2.2.1) (q.resolve_left (by decide)),
        fun q => (hJ.2.2.2.2.2.2.2.2.2.1) (q.resolve_left (by decide)),
        fun q => (hJ.2.2.2.2.2.2.2.2.2.2.1) (q.resolve_left (by decide)),
        fun _ => by first | exact rfl | exact e4,
        fun q => (hJ.2.2.2.2.2.2.2.2.2.2.2.2.1) (q.resolve_left (by decide)),
        fun _ => rfl,
        fun q => (hJ.2.2.2.2.2.2.2.2.2.2.2.2.2.2.1) (q.resolve_left (by decide)),
        fun q => (hJ.2.2.2.2.2.2.2.2.2.2.2.2.2.2.2) (q.resolve_left (by decide))⟩
    refine StepsOk.cons (i := 7) rfl (fun L x G w1 K Q hn hp hJ hK => ?_) ?_
    · skip
      simp only [putAll, Act.put, List.setIfInBounds_toArray, List.set_cons_zero, List.set_cons_succ]
      go_simp
      refine hK _ (fun t => if t = 7 then w1.heap.size else G t) _ (by kernel_rfl) ?_
      exact ⟨bal (hJ.1) _,
        by simp; omega,
        Blk.alloc ((hJ.2.2.1)) _,
        fun _ => ⟨(hJ.1).size, by simp, Nat.ne_of_lt (hJ.2.1)⟩,
        fun _ _ => Blk.new w1 _ _,
        fun q => absurd ((hJ.2.2.2.2.2.2.1) (q.resolve_left (by decide))) hn,
        fun q => .inr ((hJ.2.2.2.2.2.2.1) (q.resolve_left (by decide))),
        fun q => (hJ.2.2.2.2.2.2.2.1) (q.resolve_left (by decide)),
        fun q => (hJ.2.2.2.2.2.2.2.2.1) (q.resolve_left (by decide)),
        fun q => (hJ.2.2.2.2.2.2.2.2.2.1) (q.resolve_left (by decide)),
        fun q => (hJ.2.2.2.2.2.2.2.2.2.2.1) (q.resolve_left (by decide)),
        fun q => (hJ.2.2.2.2.2.2.2.2.2.2.2.1) (q.resolve_left (by decide)),
        fun q => (hJ.2.2.2.2.2.2.2.2.2.2.2.2.1) (q.resolve_left (by decide)),
        fun q => (hJ.2.2.2.2.2.2.2.2.2.2.2.2.2.1) (q.resolve_left (by decide)),
        fun _ => rfl,
        fun q => (hJ.2.2.2.2.2.2.2.2.2.2.2.2.2.2.2) (q.resolve_left (by decide))⟩
    refine StepsOk.cons (i := 8) rfl (fun L x G w1 K Q hn hp hJ hK => ?_) ?_
    · skip
      have p5 : L 5 := hp ⟨5, .data⟩ (by simp) rfl
      have e5 := (hJ.2.2.2.2.2.2.2.2.2.2.2.2.1) p5
      have p7 : L 7 := hp ⟨7, .data⟩ (by simp) rfl
      have e7 := (hJ.2.2.2.2.2.2.2.2.2.2.2.2.2.2.1) p7
      have hc := Blk.open2 (((hJ.2.2.2.2.1) p7 hn))
      have c0 := hc.1
      have c1 := hc.2.1
      have c2 := hc.2.2.1
      have c3 := hc.2.2.2
      clear hc
      simp only [putAll, Act.put, List.setIfInBounds_toArray, List.set_cons_zero, List.set_cons_succ]
      go_simp
      refine hK _ G _ (by kernel_rfl) ?_
      exact ⟨bst (bst ((hJ.1)) (p := ⟨G 7, 0, none⟩) ((hJ.2.2.2.1) p7).1 (.int .i64 (Wi.Hq (Lq.nr v d)))) (p := ⟨G 7, 1, none⟩) ((hJ.2.2.2.1) p7).1 (.int .u64 (Wi.Lr (Lq.nr v d))),
        by simpa using (hJ.2.1),
        Blk.far (Blk.far ((hJ.2.2.1)) (p := ⟨G 7, 0, none⟩) (((hJ.2.2.2.1) p7).2.2) (.int .i64 (Wi.Hq (Lq.nr v d)))) (p := ⟨G 7, 1, none⟩) (((hJ.2.2.2.1) p7).2.2) (.int .u64 (Wi.Lr (Lq.nr v d))),
        fun q => ⟨((hJ.2.2.2.1) (q.resolve_left (by decide))).1, by have := ((hJ.2.2.2.1) (q.resolve_left (by decide))).2.1; simpa using this, ((hJ.2.2.2.1) (q.resolve_left (by decide))).2.2⟩,
        fun _ n => absurd (.inl rfl) n,
        fun _ => by simpa using Blk.set_ (Blk.set_ (((hJ.2.2.2.2.1) p7 hn)) 0 (.int .i64 (Wi.Hq (Lq.nr v d)))) 1 (.int .u64 (Wi.Lr (Lq.nr v d))),
        fun _ => .inr p7,
        fun q => (hJ.2.2.2.2.2.2.2.1) (q.resolve_left (by decide)),
        fun q => (hJ.2.2.2.2.2.2.2.2.1) (q.resolve_left (by decide)),
        fun q => (hJ.2.2.2.2.2.2.2.2.2.1) (q.resolve_left (by decide)),
        fun q => (hJ.2.2.2.2.2.2.2.2.2.2.1) (q.resolve_left (by decide)),
        fun q => (hJ.2.2.2.2.2.2.2.2.2.2.2.1) (q.resolve_left (by decide)),
        fun _ => by first | exact rfl | exact e5,
        fun q => (hJ.2.2.2.2.2.2.2.2.2.2.2.2.2.1) (q.resolve_left (by decide)),
        fun _ => by first | exact rfl | exact e7,
        fun q => (hJ.2.2.2.2.2.2.2.2.2.2.2.2.2.2.2) (q.resolve_left (by decide))⟩
    refine StepsOk.cons (i := 9) rfl (fun L x G w1 K Q hn hp hJ hK => ?_) ?_
    · skip
      have p6 : L 6 := hp ⟨6, .data⟩ (by simp) rfl
      have e6 := (hJ.2.2.2.2.2.2.2.2.2.2.2.2.2.1) p6
      simp only [putAll, Act.put, List.setIfInBounds_toArray, List.set_cons_zero, List.set_cons_succ]
      go_simp
      refine hK _ G _ (by kernel_rfl) ?_
      exact ⟨(hJ.1),
        (hJ.2.1),
        (hJ.2.2.1),
        fun q => (hJ.2.2.2.1) (q.resolve_left (by decide)),
        fun q n => (hJ.2.2.2.2.1) (q.resolve_left (by decide)) (fun m => n (.inr m)),
        fun q => (hJ.2.2.2.2.2.1) (q.resolve_left (by decide)),
        fun q => .inr ((hJ.2.2.2.2.2.2.1) (q.resolve_left (by decide))),
        fun q => (hJ.2.2.2.2.2.2.2.1) (q.resolve_left (by decide)),
        fun q => (hJ.2.2.2.2.2.2.2.2.1) (q.resolve_left (by decide)),
        fun q => (hJ.2.2.2.2.2.2.2.2.2.1) (q.resolve_left (by decide)),
        fun q => (hJ.2.2.2.2.2.2.2.2.2.2.1) (q.resolve_left (by decide)),
        fun q => (hJ.2.2.2.2.2.2.2.2.2.2.2.1) (q.resolve_left (by decide)),
        fun q => (hJ.2.2.2.2.2.2.2.2.2.2.2.2.1) (q.resolve_left (by decide)),
        fun _ => by first | exact rfl | exact e6,
        fun q => (hJ.2.2.2.2.2.2.2.2.2.2.2.2.2.2.1) (q.resolve_left (by decide)),
        fun _ => rfl⟩
    exact StepsOk.nil
  case fin =>
    intro L x G w1 hall hJ
    replace X := (hJ.2.2.1)
    obtain ⟨haS, hlS, hnSX⟩ := (hJ.2.2.2.1) (hall 7 (by decide))
    have S := (hJ.2.2.2.2.2.1) (hall 8 (by decide))
    have u0 := hJ.2.2.2.2.2.2.2.1 (hall 0 (by decide))
    have u1 := hJ.2.2.2.2.2.2.2.2.1 (hall 1 (by decide))
    have u2 := hJ.2.2.2.2.2.2.2.2.2.1 (hall 2 (by decide))
    have u3 := hJ.2.2.2.2.2.2.2.2.2.2.1 (hall 3 (by decide))
    have u4 := hJ.2.2.2.2.2.2.2.2.2.2.2.1 (hall 4 (by decide))
    have u5 := hJ.2.2.2.2.2.2.2.2.2.2.2.2.1 (hall 5 (by decide))
    have u6 := hJ.2.2.2.2.2.2.2.2.2.2.2.2.2.1 (hall 6 (by decide))
    have u7 := hJ.2.2.2.2.2.2.2.2.2.2.2.2.2.2.1 (hall 7 (by decide))
    have u9 := hJ.2.2.2.2.2.2.2.2.2.2.2.2.2.2.2 (hall 9 (by decide))
    replace hB := hJ.1
    simp only [putAll, Act.put, List.setIfInBounds_toArray, List.set_cons_zero, List.set_cons_succ]
    simp only [u0, u1, u2, u3, u4, u5, u6, u7, u9]
    clear hall hJ u0 u1 u2 u3 u4 u5 u6 u7 u9
    generalize G 7 = gS at *
    obtain ⟨c00, c01, c02, c03⟩ := S.open2
    go_wp2_with fail
    refine (rint_c _ _ _ _ HN).mono ?_
    rintro e w2 ⟨rfl, hb⟩
    clear c00 c01 c02 c03
    replace X := X.keep hb
    replace S := S.keep hb
    replace hB := bt hB hb
    clear hb
    go_wp2_with fail
    go_returns
    exact ⟨rfl, hB⟩
end Go.Proofs.Ytcgcocingfhleaa
