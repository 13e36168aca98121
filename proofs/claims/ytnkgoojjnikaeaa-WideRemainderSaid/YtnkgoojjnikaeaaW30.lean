/-
  The walk of WideRemainder.
-/
import Derived.Test.YtnkgoojjnikaeaaW23
import Derived.Test.YtnkgoojjnikaeaaBlk
import Derived.Test.YtnkgoojjnikaeaaPlain9
import Derived.Test.YtnkgoojjnikaeaaInv2
namespace Go.Proofs.Ytnkgoojjnikaeaa
set_option linter.unusedVariables false
set_option linter.unusedSimpArgs false
open Go.RowKit
attribute [local irreducible] World.setCell World.cell?

set_option maxRecDepth 100000 in
set_option maxHeartbeats 4000000 in
theorem rem_1 (h l xx a : Int) (w : World) (H : Wi.Wd h l xx) (a1 : -9223372036854775808 ≤ a) (a2 : a ≤ 9223372036854775807) (ha : a = 0) : Calls Try.prog 11 #[.agg #[.int .i64 h, .int .u64 l], .int .i64 a] w fun e w' =>
    e = .returned (.bool true) ∧ Below w.heap.size w w' := by
  have oa : Wi.Wd (Wi.Hq a) (Wi.Lr a) a := Wi.wd_self (by unfold Wi.inW; omega)
  subst ha
  have z1 := Lib.hid (show Wi.Hq 0 = 0 by decide)
  have z2 := Lib.hid (show Wi.Lr 0 = 0 by decide)
  go_enter Try.func11, Try.ntmps11
  try simp only [List.append_eq, List.cons_append, List.nil_append]
  have X := Blk.new w 24 #[.int .i64 (h), .int .u64 (l)]
  have hB := ba w (.cells #[.int .i64 (h), .int .u64 (l)] 24)
  go_wp2_with fail
  refine (awake_c _).mono ?_
  rintro e w1 ⟨rfl, hb⟩
  replace X := X.keep hb
  replace hB := bt hB hb
  clear hb
  go_wp2_with fail
  refine wp_region_inv (fun L x G wx => Below w.heap.size w wx
        ∧ w.heap.size < wx.heap.size
        ∧ Blk wx (w.heap.size) 24 #[.int .i64 (h), .int .u64 (l)]
        ∧ (L 7 → w.heap.size ≤ G 7 ∧ G 7 < wx.heap.size ∧ w.heap.size ≠ G 7)
        ∧ (L 7 → ¬ L 8 → Blk wx (G 7) 24 #[.int .i64 (0), .int .u64 (0)])
        ∧ (L 8 → Blk wx (G 7) 24 #[.int .i64 (Wi.Hq (0)), .int .u64 (Wi.Lr (0))])
        ∧ (L 8 → L 7)
        ∧ (L 0 → x 14 = .agg #[.int .i64 (h), .int .u64 (l)])
        ∧ (L 1 → x 15 = .int .i64 (0))
        ∧ (L 2 → x 16 = .agg #[.int .i64 (Wi.Hq (0)), .int .u64 (Wi.Lr (0))])
        ∧ (L 3 → x 17 = .tuple #[.agg #[.int .i64 (Wi.Hq (0)), .int .u64 (Wi.Lr (0))], .bool (false)])
        ∧ (L 4 → x 13 = .tuple #[.agg #[.int .i64 (Wi.Hq (0)), .int .u64 (Wi.Lr (0))], .bool (false)])
        ∧ (L 5 → x 18 = .agg #[.int .i64 (Wi.Hq (0)), .int .u64 (Wi.Lr (0))])
        ∧ (L 6 → x 19 = .bool (false))
        ∧ (L 7 → x 5 = .pointer (some ⟨G 7, 0, none⟩))
        ∧ (L 9 → x 6 = .bool (false))) [14, 15, 16, 17, 13, 18, 19, 5, 6] 10 (by kernel_rfl) (by kernel_rfl) (by kernel_rfl) ?h0 ?st ?fin
  case h0 =>
    exact ⟨bdr hB, Blk.lt X.drew, X.drew, fun q => q.elim, fun q => q.elim, fun q => q.elim, fun q => q.elim, fun q => q.elim, fun q => q.elim, fun q => q.elim, fun q => q.elim, fun q => q.elim, fun q => q.elim, fun q => q.elim, fun q => q.elim, fun q => q.elim⟩
  case st =>
    refine StepsOk.cons (i := 0) rfl (fun L x G w1 K Q hn hp hJ hK => ?_) ?_
    · skip
      have hc := Blk.open2 ((hJ.2.2.1))
      have c0 := hc.1
      have c1 := hc.2.1
      have c2 := hc.2.2.1
      have c3 := hc.2.2.2
      clear hc
      simp only [putAll, Act.put, List.setIfInBounds_toArray, List.set_cons_zero, List.set_cons_succ]
      go_simp
      refine hK _ G _ (by kernel_rfl) ?_
      exact ⟨(hJ.1),
        (hJ.2.1),
        (hJ.2.2.1),
        fun q => (hJ.2.2.2.1) (q.resolve_left (by decide)),
        fun q n => (hJ.2.2.2.2.1) (q.resolve_left (by decide)) (fun m => n (.inr m)),
        fun q => (hJ.2.2.2.2.2.1) (q.resolve_left (by decide)),
        fun q => .inr ((hJ.2.2.2.2.2.2.1) (q.resolve_left (by decide))),
        fun _ => rfl,
        fun q => (hJ.2.2.2.2.2.2.2.2.1) (q.resolve_left (by decide)),
        fun q => (hJ.2.2.2.2.2.2.2.2.2.1) (q.resolve_left (by decide)),
        fun q => (hJ.2.2.2.2.2.2.2.2.2.2.1) (q.resolve_left (by decide)),
        fun q => (hJ.2.2.2.2.2.2.2.2.2.2.2.1) (q.resolve_left (by decide)),
        fun q => (hJ.2.2.2.2.2.2.2.2.2.2.2.2.1) (q.resolve_left (by decide)),
        fun q => (hJ.2.2.2.2.2.2.2.2.2.2.2.2.2.1) (q.resolve_left (by decide)),
        fun q => (hJ.2.2.2.2.2.2.2.2.2.2.2.2.2.2.1) (q.resolve_left (by decide)),
        fun q => (hJ.2.2.2.2.2.2.2.2.2.2.2.2.2.2.2) (q.resolve_left (by decide))⟩
    refine StepsOk.cons (i := 1) rfl (fun L x G w1 K Q hn hp hJ hK => ?_) ?_
    · skip
      simp only [putAll, Act.put, List.setIfInBounds_toArray, List.set_cons_zero, List.set_cons_succ]
      go_simp
      refine hK _ G _ (by kernel_rfl) ?_
      exact ⟨(hJ.1),
        (hJ.2.1),
        (hJ.2.2.1),
        fun q => (hJ.2.2.2.1) (q.resolve_left (by decide)),
        fun q n => (hJ.2.2.2.2.1) (q.resolve_left (by decide)) (fun m => n (.inr m)),
        fun q => (hJ.2.2.2.2.2.1) (q.resolve_left (by decide)),
        fun q => .inr ((hJ.2.2.2.2.2.2.1) (q.resolve_left (by decide))),
        fun q => (hJ.2.2.2.2.2.2.2.1) (q.resolve_left (by decide)),
        fun _ => rfl,
        fun q => (hJ.2.2.2.2.2.2.2.2.2.1) (q.resolve_left (by decide)),
        fun q => (hJ.2.2.2.2.2.2.2.2.2.2.1) (q.resolve_left (by decide)),
        fun q => (hJ.2.2.2.2.2.2.2.2.2.2.2.1) (q.resolve_left (by decide)),
        fun q => (hJ.2.2.2.2.2.2.2.2.2.2.2.2.1) (q.resolve_left (by decide)),
        fun q => (hJ.2.2.2.2.2.2.2.2.2.2.2.2.2.1) (q.resolve_left (by decide)),
        fun q => (hJ.2.2.2.2.2.2.2.2.2.2.2.2.2.2.1) (q.resolve_left (by decide)),
        fun q => (hJ.2.2.2.2.2.2.2.2.2.2.2.2.2.2.2) (q.resolve_left (by decide))⟩
    refine StepsOk.cons (i := 2) rfl (fun L x G w1 K Q hn hp hJ hK => ?_) ?_
    · skip
      have p1 : L 1 := hp ⟨1, .data⟩ (by simp) rfl
      have e1 := (hJ.2.2.2.2.2.2.2.2.1) p1
      simp only [putAll, Act.put, List.setIfInBounds_toArray, List.set_cons_zero, List.set_cons_succ]
      go_simp
      refine (of_c _ _ a1 a2).mono ?_
      rintro e w2 ⟨rfl, hb⟩
      have hz := hb.size
      try go_simp
      refine hK _ G _ (by kernel_rfl) ?_
      exact ⟨bt (hJ.1) hb,
        Nat.lt_of_lt_of_le (hJ.2.1) hb.size,
        Blk.keep ((hJ.2.2.1)) hb,
        fun q => ⟨((hJ.2.2.2.1) (q.resolve_left (by decide))).1, by have := ((hJ.2.2.2.1) (q.resolve_left (by decide))).2.1; omega, ((hJ.2.2.2.1) (q.resolve_left (by decide))).2.2⟩,
        fun q n => Blk.keep ((hJ.2.2.2.2.1) (q.resolve_left (by decide)) (fun m => n (.inr m))) hb,
        fun q => Blk.keep ((hJ.2.2.2.2.2.1) (q.resolve_left (by decide))) hb,
        fun q => .inr ((hJ.2.2.2.2.2.2.1) (q.resolve_left (by decide))),
        fun q => (hJ.2.2.2.2.2.2.2.1) (q.resolve_left (by decide)),
        fun _ => by first | exact rfl | exact e1,
        fun _ => rfl,
        fun q => (hJ.2.2.2.2.2.2.2.2.2.2.1) (q.resolve_left (by decide)),
        fun q => (hJ.2.2.2.2.2.2.2.2.2.2.2.1) (q.resolve_left (by decide)),
        fun q => (hJ.2.2.2.2.2.2.2.2.2.2.2.2.1) (q.resolve_left (by decide)),
        fun q => (hJ.2.2.2.2.2.2.2.2.2.2.2.2.2.1) (q.resolve_left (by decide)),
        fun q => (hJ.2.2.2.2.2.2.2.2.2.2.2.2.2.2.1) (q.resolve_left (by decide)),
        fun q => (hJ.2.2.2.2.2.2.2.2.2.2.2.2.2.2.2) (q.resolve_left (by decide))⟩
    refine StepsOk.cons (i := 3) rfl (fun L x G w1 K Q hn hp hJ hK => ?_) ?_
    · skip
      have p0 : L 0 := hp ⟨0, .data⟩ (by simp) rfl
      have e0 := (hJ.2.2.2.2.2.2.2.1) p0
      have p2 : L 2 := hp ⟨2, .data⟩ (by simp) rfl
      have e2 := (hJ.2.2.2.2.2.2.2.2.2.1) p2
      simp only [putAll, Act.put, List.setIfInBounds_toArray, List.set_cons_zero, List.set_cons_succ]
      go_simp
      refine (div_c _ _ _ _ _ _ _ H oa).mono ?_
      rw [Wi.dV_0, Wi.dB_0]
      rintro e w2 ⟨rfl, hb⟩
      have hz := hb.size
      try go_simp
      refine hK _ G _ (by kernel_rfl) ?_
      exact ⟨bt (hJ.1) hb,
        Nat.lt_of_lt_of_le (hJ.2.1) hb.size,
        Blk.keep ((hJ.2.2.1)) hb,
        fun q => ⟨((hJ.2.2.2.1) (q.resolve_left (by decide))).1, by have := ((hJ.2.2.2.1) (q.resolve_left (by decide))).2.1; omega, ((hJ.2.2.2.1) (q.resolve_left (by decide))).2.2⟩,
        fun q n => Blk.keep ((hJ.2.2.2.2.1) (q.resolve_left (by decide)) (fun m => n (.inr m))) hb,
        fun q => Blk.keep ((hJ.2.2.2.2.2.1) (q.resolve_left (by decide))) hb,
        fun q => .inr ((hJ.2.2.2.2.2.2.1) (q.resolve_left (by decide))),
        fun _ => by first | exact rfl | exact e0,
        fun q => (hJ.2.2.2.2.2.2.2.2.1) (q.resolve_left (by decide)),
        fun _ => by first | exact rfl | exact e2,
        fun _ => rfl,
        fun q => (hJ.2.2.2.2.2.2.2.2.2.2.2.1) (q.resolve_left (by decide)),
        fun q => (hJ.2.2.2.2.2.2.2.2.2.2.2.2.1) (q.resolve_left (by decide)),
        fun q => (hJ.2.2.2.2.2.2.2.2.2.2.2.2.2.1) (q.resolve_left (by decide)),
        fun q => (hJ.2.2.2.2.2.2.2.2.2.2.2.2.2.2.1) (q.resolve_left (by decide)),
        fun q => (hJ.2.2.2.2.2.2.2.2.2.2.2.2.2.2.2) (q.resolve_left (by decide))⟩
    refine StepsOk.cons (i := 4) rfl (fun L x G w1 K Q hn hp hJ hK => ?_) ?_
    · skip
      have p3 : L 3 := hp ⟨3, .data⟩ (by simp) rfl
      have e3 := (hJ.2.2.2.2.2.2.2.2.2.2.1) p3
      simp only [putAll, Act.put, List.setIfInBounds_toArray, List.set_cons_zero, List.set_cons_succ]
      go_simp
      refine hK _ G _ (by kernel_rfl) ?_
      exact ⟨(hJ.1),
        (hJ.2.1),
        (hJ.2.2.1),
        fun q => (hJ.2.2.2.1) (q.resolve_left (by decide)),
        fun q n => (hJ.2.2.2.2.1) (q.resolve_left (by decide)) (fun m => n (.inr m)),
        fun q => (hJ.2.2.2.2.2.1) (q.resolve_left (by decide)),
        fun q => .inr ((hJ.2.2.2.2.2.2.1) (q.resolve_left (by decide))),
        fun q => (hJ.2.2.2.2.2.2.2.1) (q.resolve_left (by decide)),
        fun q => (hJ.2.2.2.2.2.2.2.2.1) (q.resolve_left (by decide)),
        fun q => (hJ.2.2.2.2.2.2.2.2.2.1) (q.resolve_left (by decide)),
        fun _ => by first | exact rfl | exact e3,
        fun _ => rfl,
        fun q => (hJ.2.2.2.2.2.2.2.2.2.2.2.2.1) (q.resolve_left (by decide)),
        fun q => (hJ.2.2.2.2.2.2.2.2.2.2.2.2.2.1) (q.resolve_left (by decide)),
        fun q => (hJ.2.2.2.2.2.2.2.2.2.2.2.2.2.2.1) (q.resolve_left (by decide)),
        fun q => (hJ.2.2.2.2.2.2.2.2.2.2.2.2.2.2.2) (q.resolve_left (by decide))⟩
    refine StepsOk.cons (i := 5) rfl (fun L x G w1 K Q hn hp hJ hK => ?_) ?_
    · skip
      have p4 : L 4 := hp ⟨4, .data⟩ (by simp) rfl
      have e4 := (hJ.2.2.2.2.2.2.2.2.2.2.2.1) p4
      simp only [putAll, Act.put, List.setIfInBounds_toArray, List.set_cons_zero, List.set_cons_succ]
      go_simp
      refine hK _ G _ (by kernel_rfl) ?_
      exact ⟨(hJ.1),
        (hJ.2.1),
        (hJ.2.2.1),
        fun q => (hJ.2.2.2.1) (q.resolve_left (by decide)),
        fun q n => (hJ.2.2.2.2.1) (q.resolve_left (by decide)) (fun m => n (.inr m)),
        fun q => (hJ.2.2.2.2.2.1) (q.resolve_left (by decide)),
        fun q => .inr ((hJ.2.2.2.2.2.2.1) (q.resolve_left (by decide))),
        fun q => (hJ.2.2.2.2.2.2.2.1) (q.resolve_left (by decide)),
        fun q => (hJ.2.2.2.2.2.2.2.2.1) (q.resolve_left (by decide)),
        fun q => (hJ.2.2.2.2.2.2.2.2.2.1) (q.resolve_left (by decide)),
        fun q => (hJ.2.2.2.2.2.2.2.2.2.2.1) (q.resolve_left (by decide)),
        fun _ => by first | exact rfl | exact e4,
        fun _ => rfl,
        fun q => (hJ.2.2.2.2.2.2.2.2.2.2.2.2.2.1) (q.resolve_left (by decide)),
        fun q => (hJ.2.2.2.2.2.2.2.2.2.2.2.2.2.2.1) (q.resolve_left (by decide)),
        fun q => (hJ.2.2.2.2.2.2.2.2.2.2.2.2.2.2.2) (q.resolve_left (by decide))⟩
    refine StepsOk.cons (i := 6) rfl (fun L x G w1 K Q hn hp hJ hK => ?_) ?_
    · skip
      have p4 : L 4 := hp ⟨4, .data⟩ (by simp) rfl
      have e4 := (hJ.2.2.2.2.2.2.2.2.2.2.2.1) p4
      simp only [putAll, Act.put, List.setIfInBounds_toArray, List.set_cons_zero, List.set_cons_succ]
      go_simp
      refine hK _ G _ (by kernel_rfl) ?_
      exact ⟨(hJ.1),
        (hJ.2.1),
        (hJ.2.2.1),
        fun q => (hJ.2.2.2.1) (q.resolve_left (by decide)),
        fun q n => (hJ.2.2.2.2.1) (q.resolve_left (by decide)) (fun m => n (.inr m)),
        fun q => (hJ.2.2.2.2.2.1) (q.resolve_left (by decide)),
        fun q => .inr ((hJ.2.2.2.2.2.2.1) (q.resolve_left (by decide))),
        fun q => (hJ.2.2.2.2.2.2.2.1) (q.resolve_left (by decide)),
        fun q => (hJ.2.2.2.2.2.2.2.2.1) (q.resolve_left (by decide)),
        fun q => (hJ.2.2.2.2.2.2.2.2.2.1) (q.resolve_left (by decide)),
        fun q => (hJ.2.2.2.2.2.2.2.2.2.2.1) (q.resolve_left (by decide)),
        fun _ => by first | exact rfl | exact e4,
        fun q => (hJ.2.2.2.2.2.2.2.2.2.2.2.2.1) (q.resolve_left (by decide)),
        fun _ => rfl,
        fun q => (hJ.2.2.2.2.2.2.2.2.2.2.2.2.2.2.1) (q.resolve_left (by decide)),
        fun q => (hJ.2.2.2.2.2.2.2.2.2.2.2.2.2.2.2) (q.resolve_left (by decide))⟩
    refine StepsOk.cons (i := 7) rfl (fun L x G w1 K Q hn hp hJ hK => ?_) ?_
    · skip
      simp only [putAll, Act.put, List.setIfInBounds_toArray, List.set_cons_zero, List.set_cons_succ]
      go_simp
      refine hK _ (fun t => if t = 7 then w1.heap.size else G t) _ (by kernel_rfl) ?_
      exact ⟨bal (hJ.1) _,
        by simp; omega,
        Blk.alloc ((hJ.2.2.1)) _,
        fun _ => ⟨(hJ.1).size, by simp, Nat.ne_of_lt (hJ.2.1)⟩,
        fun _ _ => Blk.new w1 _ _,
        fun q => absurd ((hJ.2.2.2.2.2.2.1) (q.resolve_left (by decide))) hn,
        fun q => .inr ((hJ.2.2.2.2.2.2.1) (q.resolve_left (by decide))),
        fun q => (hJ.2.2.2.2.2.2.2.1) (q.resolve_left (by decide)),
        fun q => (hJ.2.2.2.2.2.2.2.2.1) (q.resolve_left (by decide)),
        fun q => (hJ.2.2.2.2.2.2.2.2.2.1) (q.resolve_left (by decide)),
        fun q => (hJ.2.2.2.2.2.2.2.2.2.2.1) (q.resolve_left (by decide)),
        fun q => (hJ.2.2.2.2.2.2.2.2.2.2.2.1) (q.resolve_left (by decide)),
        fun q => (hJ.2.2.2.2.2.2.2.2.2.2.2.2.1) (q.resolve_left (by decide)),
        fun q => (hJ.2.2.2.2.2.2.2.2.2.2.2.2.2.1) (q.resolve_left (by decide)),
        fun _ => rfl,
        fun q => (hJ.2.2.2.2.2.2.2.2.2.2.2.2.2.2.2) (q.resolve_left (by decide))⟩
    refine StepsOk.cons (i := 8) rfl (fun L x G w1 K Q hn hp hJ hK => ?_) ?_
    · skip
      have p5 : L 5 := hp ⟨5, .data⟩ (by simp) rfl
      have e5 := (hJ.2.2.2.2.2.2.2.2.2.2.2.2.1) p5
      have p7 : L 7 := hp ⟨7, .data⟩ (by simp) rfl
      have e7 := (hJ.2.2.2.2.2.2.2.2.2.2.2.2.2.2.1) p7
      have hc := Blk.open2 (((hJ.2.2.2.2.1) p7 hn))
      have c0 := hc.1
      have c1 := hc.2.1
      have c2 := hc.2.2.1
      have c3 := hc.2.2.2
      clear hc
      simp only [putAll, Act.put, List.setIfInBounds_toArray, List.set_cons_zero, List.set_cons_succ]
      go_simp
      refine hK _ G _ (by kernel_rfl) ?_
      exact ⟨bst (bst ((hJ.1)) (p := ⟨G 7, 0, none⟩) ((hJ.2.2.2.1) p7).1 (.int .i64 (Wi.Hq (0)))) (p := ⟨G 7, 1, none⟩) ((hJ.2.2.2.1) p7).1 (.int .u64 (Wi.Lr (0))),
        by simpa using (hJ.2.1),
        Blk.far (Blk.far ((hJ.2.2.1)) (p := ⟨G 7, 0, none⟩) (((hJ.2.2.2.1) p7).2.2) (.int .i64 (Wi.Hq (0)))) (p := ⟨G 7, 1, none⟩) (((hJ.2.2.2.1) p7).2.2) (.int .u64 (Wi.Lr (0))),
        fun q => ⟨((hJ.2.2.2.1) (q.resolve_left (by decide))).1, by have := ((hJ.2.2.2.1) (q.resolve_left (by decide))).2.1; simpa using this, ((hJ.2.2.2.1) (q.resolve_left (by decide))).2.2⟩,
        fun _ n => absurd (.inl rfl) n,
        fun _ => by simpa using Blk.set_ (Blk.set_ (((hJ.2.2.2.2.1) p7 hn)) 0 (.int .i64 (Wi.Hq (0)))) 1 (.int .u64 (Wi.Lr (0))),
        fun _ => .inr p7,
        fun q => (hJ.2.2.2.2.2.2.2.1) (q.resolve_left (by decide)),
        fun q => (hJ.2.2.2.2.2.2.2.2.1) (q.resolve_left (by decide)),
        fun q => (hJ.2.2.2.2.2.2.2.2.2.1) (q.resolve_left (by decide)),
        fun q => (hJ.2.2.2.2.2.2.2.2.2.2.1) (q.resolve_left (by decide)),
        fun q => (hJ.2.2.2.2.2.2.2.2.2.2.2.1) (q.resolve_left (by decide)),
        fun _ => by first | exact rfl | exact e5,
        fun q => (hJ.2.2.2.2.2.2.2.2.2.2.2.2.2.1) (q.resolve_left (by decide)),
        fun _ => by first | exact rfl | exact e7,
        fun q => (hJ.2.2.2.2.2.2.2.2.2.2.2.2.2.2.2) (q.resolve_left (by decide))⟩
    refine StepsOk.cons (i := 9) rfl (fun L x G w1 K Q hn hp hJ hK => ?_) ?_
    · skip
      have p6 : L 6 := hp ⟨6, .data⟩ (by simp) rfl
      have e6 := (hJ.2.2.2.2.2.2.2.2.2.2.2.2.2.1) p6
      simp only [putAll, Act.put, List.setIfInBounds_toArray, List.set_cons_zero, List.set_cons_succ]
      go_simp
      refine hK _ G _ (by kernel_rfl) ?_
      exact ⟨(hJ.1),
        (hJ.2.1),
        (hJ.2.2.1),
        fun q => (hJ.2.2.2.1) (q.resolve_left (by decide)),
        fun q n => (hJ.2.2.2.2.1) (q.resolve_left (by decide)) (fun m => n (.inr m)),
        fun q => (hJ.2.2.2.2.2.1) (q.resolve_left (by decide)),
        fun q => .inr ((hJ.2.2.2.2.2.2.1) (q.resolve_left (by decide))),
        fun q => (hJ.2.2.2.2.2.2.2.1) (q.resolve_left (by decide)),
        fun q => (hJ.2.2.2.2.2.2.2.2.1) (q.resolve_left (by decide)),
        fun q => (hJ.2.2.2.2.2.2.2.2.2.1) (q.resolve_left (by decide)),
        fun q => (hJ.2.2.2.2.2.2.2.2.2.2.1) (q.resolve_left (by decide)),
        fun q => (hJ.2.2.2.2.2.2.2.2.2.2.2.1) (q.resolve_left (by decide)),
        fun q => (hJ.2.2.2.2.2.2.2.2.2.2.2.2.1) (q.resolve_left (by decide)),
        fun _ => by first | exact rfl | exact e6,
        fun q => (hJ.2.2.2.2.2.2.2.2.2.2.2.2.2.2.1) (q.resolve_left (by decide)),
        fun _ => rfl⟩
    exact StepsOk.nil
  case fin =>
    intro L x G w2 hall hJ
    replace X := (hJ.2.2.1)
    obtain ⟨haP, hlP, hnPX⟩ := (hJ.2.2.2.1) (hall 7 (by decide))
    have P := (hJ.2.2.2.2.2.1) (hall 8 (by decide))
    have u0 := hJ.2.2.2.2.2.2.2.1 (hall 0 (by decide))
    have u1 := hJ.2.2.2.2.2.2.2.2.1 (hall 1 (by decide))
    have u2 := hJ.2.2.2.2.2.2.2.2.2.1 (hall 2 (by decide))
    have u3 := hJ.2.2.2.2.2.2.2.2.2.2.1 (hall 3 (by decide))
    have u4 := hJ.2.2.2.2.2.2.2.2.2.2.2.1 (hall 4 (by decide))
    have u5 := hJ.2.2.2.2.2.2.2.2.2.2.2.2.1 (hall 5 (by decide))
    have u6 := hJ.2.2.2.2.2.2.2.2.2.2.2.2.2.1 (hall 6 (by decide))
    have u7 := hJ.2.2.2.2.2.2.2.2.2.2.2.2.2.2.1 (hall 7 (by decide))
    have u9 := hJ.2.2.2.2.2.2.2.2.2.2.2.2.2.2.2 (hall 9 (by decide))
    replace hB := hJ.1
    simp only [putAll, Act.put, List.setIfInBounds_toArray, List.set_cons_zero, List.set_cons_succ]
    simp only [u0, u1, u2, u3, u4, u5, u6, u7, u9]
    clear hall hJ u0 u1 u2 u3 u4 u5 u6 u7 u9
    generalize G 7 = gP at *
    obtain ⟨c00, c01, c02, c03⟩ := X.open2
    obtain ⟨c10, c11, c12, c13⟩ := P.open2
    go_wp2_with fail
    go_returns
    exact ⟨rfl, hB⟩
set_option maxRecDepth 100000 in
set_option maxHeartbeats 4000000 in
theorem rem_2 (h l xx a : Int) (w : World) (H : Wi.Wd h l xx) (a1 : -9223372036854775808 ≤ a) (a2 : a ≤ 9223372036854775807) (ha : a < 0) : Calls Try.prog 11 #[.agg #[.int .i64 h, .int .u64 l], .int .i64 a] w fun e w' =>
    e = .returned (.bool true) ∧ Below w.heap.size w w' := by
  have oa : Wi.Wd (Wi.Hq a) (Wi.Lr a) a := Wi.wd_self (by unfold Wi.inW; omega)
  have t1 : a < 1 := by omega
  have t2 : (a != 0) = true := by simp; omega
  clear ha
  go_enter Try.func11, Try.ntmps11
  try simp only [List.append_eq, List.cons_append, List.nil_append]
  have X := Blk.new w 24 #[.int .i64 (h), .int .u64 (l)]
  have hB := ba w (.cells #[.int .i64 (h), .int .u64 (l)] 24)
  go_wp2_with fail
  refine (awake_c _).mono ?_
  rintro e w1 ⟨rfl, hb⟩
  replace X := X.keep hb
  replace hB := bt hB hb
  clear hb
  go_wp2_with fail
  refine wp_region_inv (fun L x G wx => Below w.heap.size w wx
        ∧ w.heap.size < wx.heap.size
        ∧ Blk wx (w.heap.size) 24 #[.int .i64 (h), .int .u64 (l)]
        ∧ (L 7 → w.heap.size ≤ G 7 ∧ G 7 < wx.heap.size ∧ w.heap.size ≠ G 7)
        ∧ (L 7 → ¬ L 8 → Blk wx (G 7) 24 #[.int .i64 (0), .int .u64 (0)])
        ∧ (L 8 → Blk wx (G 7) 24 #[.int .i64 (Wi.Hq (Wi.dV xx a (-1))), .int .u64 (Wi.Lr (Wi.dV xx a (-1)))])
        ∧ (L 8 → L 7)
        ∧ (L 0 → x 14 = .agg #[.int .i64 (h), .int .u64 (l)])
        ∧ (L 1 → x 15 = .int .i64 (a))
        ∧ (L 2 → x 16 = .agg #[.int .i64 (Wi.Hq (a)), .int .u64 (Wi.Lr (a))])
        ∧ (L 3 → x 17 = .tuple #[.agg #[.int .i64 (Wi.Hq (Wi.dV xx a (-1))), .int .u64 (Wi.Lr (Wi.dV xx a (-1)))], .bool (Wi.dB xx a (-1))])
        ∧ (L 4 → x 13 = .tuple #[.agg #[.int .i64 (Wi.Hq (Wi.dV xx a (-1))), .int .u64 (Wi.Lr (Wi.dV xx a (-1)))], .bool (Wi.dB xx a (-1))])
        ∧ (L 5 → x 18 = .agg #[.int .i64 (Wi.Hq (Wi.dV xx a (-1))), .int .u64 (Wi.Lr (Wi.dV xx a (-1)))])
        ∧ (L 6 → x 19 = .bool (Wi.dB xx a (-1)))
        ∧ (L 7 → x 5 = .pointer (some ⟨G 7, 0, none⟩))
        ∧ (L 9 → x 6 = .bool (Wi.dB xx a (-1)))) [14, 15, 16, 17, 13, 18, 19, 5, 6] 10 (by kernel_rfl) (by kernel_rfl) (by kernel_rfl) ?h0 ?st ?fin
  case h0 =>
    exact ⟨bdr hB, Blk.lt X.drew, X.drew, fun q => q.elim, fun q => q.elim, fun q => q.elim, fun q => q.elim, fun q => q.elim, fun q => q.elim, fun q => q.elim, fun q => q.elim, fun q => q.elim, fun q => q.elim, fun q => q.elim, fun q => q.elim, fun q => q.elim⟩
  case st =>
    refine StepsOk.cons (i := 0) rfl (fun L x G w1 K Q hn hp hJ hK => ?_) ?_
    · skip
      have hc := Blk.open2 ((hJ.2.2.1))
      have c0 := hc.1
      have c1 := hc.2.1
      have c2 := hc.2.2.1
      have c3 := hc.2.2.2
      clear hc
      simp only [putAll, Act.put, List.setIfInBounds_toArray, List.set_cons_zero, List.set_cons_succ]
      go_simp
      refine hK _ G _ (by kernel_rfl) ?_
      exact ⟨(hJ.1),
        (hJ.2.1),
        (hJ.2.2.1),
        fun q => (hJ.2.2.2.1) (q.resolve_left (by decide)),
        fun q n => (hJ.2.2.2.2.1) (q.resolve_left (by decide)) (fun m => n (.inr m)),
        fun q => (hJ.2.2.2.2.2.1) (q.resolve_left (by decide)),
        fun q => .inr ((hJ.2.2.2.2.2.2.1) (q.resolve_left (by decide))),
        fun _ => rfl,
        fun q => (hJ.2.2.2.2.2.2.2.2.1) (q.resolve_left (by decide)),
        fun q => (hJ.2.2.2.2.2.2.2.2.2.1) (q.resolve_left (by decide)),
        fun q => (hJ.2.2.2.2.2.2.2.2.2.2.1) (q.resolve_left (by decide)),
        fun q => (hJ.2.2.2.2.2.2.2.2.2.2.2.1) (q.resolve_left (by decide)),
        fun q => (hJ.2.2.2.2.2.2.2.2.2.2.2.2.1) (q.resolve_left (by decide)),
        fun q => (hJ.2.2.2.2.2.2.2.2.2.2.2.2.2.1) (q.resolve_left (by decide)),
        fun q => (hJ.2.2.2.2.2.2.2.2.2.2.2.2.2.2.1) (q.resolve_left (by decide)),
        fun q => (hJ.2.2.2.2.2.2.2.2.2.2.2.2.2.2.2) (q.resolve_left (by decide))⟩
    refine StepsOk.cons (i := 1) rfl (fun L x G w1 K Q hn hp hJ hK => ?_) ?_
    · skip
      simp only [putAll, Act.put, List.setIfInBounds_toArray, List.set_cons_zero, List.set_cons_succ]
      go_simp
      refine hK _ G _ (by kernel_rfl) ?_
      exact ⟨(hJ.1),
        (hJ.2.1),
        (hJ.2.2.1),
        fun q => (hJ.2.2.2.1) (q.resolve_left (by decide)),
        fun q n => (hJ.2.2.2.2.1) (q.resolve_left (by decide)) (fun m => n (.inr m)),
        fun q => (hJ.2.2.2.2.2.1) (q.resolve_left (by decide)),
        fun q => .inr ((hJ.2.2.2.2.2.2.1) (q.resolve_left (by decide))),
        fun q => (hJ.2.2.2.2.2.2.2.1) (q.resolve_left (by decide)),
        fun _ => rfl,
        fun q => (hJ.2.2.2.2.2.2.2.2.2.1) (q.resolve_left (by decide)),
        fun q => (hJ.2.2.2.2.2.2.2.2.2.2.1) (q.resolve_left (by decide)),
        fun q => (hJ.2.2.2.2.2.2.2.2.2.2.2.1) (q.resolve_left (by decide)),
        fun q => (hJ.2.2.2.2.2.2.2.2.2.2.2.2.1) (q.resolve_left (by decide)),
        fun q => (hJ.2.2.2.2.2.2.2.2.2.2.2.2.2.1) (q.resolve_left (by decide)),
        fun q => (hJ.2.2.2.2.2.2.2.2.2.2.2.2.2.2.1) (q.resolve_left (by decide)),
        fun q => (hJ.2.2.2.2.2.2.2.2.2.2.2.2.2.2.2) (q.resolve_left (by decide))⟩
    refine StepsOk.cons (i := 2) rfl (fun L x G w1 K Q hn hp hJ hK => ?_) ?_
    · skip
      have p1 : L 1 := hp ⟨1, .data⟩ (by simp) rfl
      have e1 := (hJ.2.2.2.2.2.2.2.2.1) p1
      simp only [putAll, Act.put, List.setIfInBounds_toArray, List.set_cons_zero, List.set_cons_succ]
      go_simp
      refine (of_c _ _ a1 a2).mono ?_
      rintro e w2 ⟨rfl, hb⟩
      have hz := hb.size
      try go_simp
      refine hK _ G _ (by kernel_rfl) ?_
      exact ⟨bt (hJ.1) hb,
        Nat.lt_of_lt_of_le (hJ.2.1) hb.size,
        Blk.keep ((hJ.2.2.1)) hb,
        fun q => ⟨((hJ.2.2.2.1) (q.resolve_left (by decide))).1, by have := ((hJ.2.2.2.1) (q.resolve_left (by decide))).2.1; omega, ((hJ.2.2.2.1) (q.resolve_left (by decide))).2.2⟩,
        fun q n => Blk.keep ((hJ.2.2.2.2.1) (q.resolve_left (by decide)) (fun m => n (.inr m))) hb,
        fun q => Blk.keep ((hJ.2.2.2.2.2.1) (q.resolve_left (by decide))) hb,
        fun q => .inr ((hJ.2.2.2.2.2.2.1) (q.resolve_left (by decide))),
        fun q => (hJ.2.2.2.2.2.2.2.1) (q.resolve_left (by decide)),
        fun _ => by first | exact rfl | exact e1,
        fun _ => rfl,
        fun q => (hJ.2.2.2.2.2.2.2.2.2.2.1) (q.resolve_left (by decide)),
        fun q => (hJ.2.2.2.2.2.2.2.2.2.2.2.1) (q.resolve_left (by decide)),
        fun q => (hJ.2.2.2.2.2.2.2.2.2.2.2.2.1) (q.resolve_left (by decide)),
        fun q => (hJ.2.2.2.2.2.2.2.2.2.2.2.2.2.1) (q.resolve_left (by decide)),
        fun q => (hJ.2.2.2.2.2.2.2.2.2.2.2.2.2.2.1) (q.resolve_left (by decide)),
        fun q => (hJ.2.2.2.2.2.2.2.2.2.2.2.2.2.2.2) (q.resolve_left (by decide))⟩
    refine StepsOk.cons (i := 3) rfl (fun L x G w1 K Q hn hp hJ hK => ?_) ?_
    · skip
      have p0 : L 0 := hp ⟨0, .data⟩ (by simp) rfl
      have e0 := (hJ.2.2.2.2.2.2.2.1) p0
      have p2 : L 2 := hp ⟨2, .data⟩ (by simp) rfl
      have e2 := (hJ.2.2.2.2.2.2.2.2.2.1) p2
      simp only [putAll, Act.put, List.setIfInBounds_toArray, List.set_cons_zero, List.set_cons_succ]
      go_simp
      refine (div_c _ _ _ _ _ _ _ H oa).mono ?_
      rintro e w2 ⟨rfl, hb⟩
      have hz := hb.size
      try go_simp
      refine hK _ G _ (by kernel_rfl) ?_
      exact ⟨bt (hJ.1) hb,
        Nat.lt_of_lt_of_le (hJ.2.1) hb.size,
        Blk.keep ((hJ.2.2.1)) hb,
        fun q => ⟨((hJ.2.2.2.1) (q.resolve_left (by decide))).1, by have := ((hJ.2.2.2.1) (q.resolve_left (by decide))).2.1; omega, ((hJ.2.2.2.1) (q.resolve_left (by decide))).2.2⟩,
        fun q n => Blk.keep ((hJ.2.2.2.2.1) (q.resolve_left (by decide)) (fun m => n (.inr m))) hb,
        fun q => Blk.keep ((hJ.2.2.2.2.2.1) (q.resolve_left (by decide))) hb,
        fun q => .inr ((hJ.2.2.2.2.2.2.1) (q.resolve_left (by decide))),
        fun _ => by first | exact rfl | exact e0,
        fun q => (hJ.2.2.2.2.2.2.2.2.1) (q.resolve_left (by decide)),
        fun _ => by first | exact rfl | exact e2,
        fun _ => rfl,
        fun q => (hJ.2.2.2.2.2.2.2.2.2.2.2.1) (q.resolve_left (by decide)),
        fun q => (hJ.2.2.2.2.2.2.2.2.2.2.2.2.1) (q.resolve_left (by decide)),
        fun q => (hJ.2.2.2.2.2.2.2.2.2.2.2.2.2.1) (q.resolve_left (by decide)),
        fun q => (hJ.2.2.2.2.2.2.2.2.2.2.2.2.2.2.1) (q.resolve_left (by decide)),
        fun q => (hJ.2.2.2.2.2.2.2.2.2.2.2.2.2.2.2) (q.resolve_left (by decide))⟩
    refine StepsOk.cons (i := 4) rfl (fun L x G w1 K Q hn hp hJ hK => ?_) ?_
    · skip
      have p3 : L 3 := hp ⟨3, .data⟩ (by simp) rfl
      have e3 := (hJ.2.2.2.2.2.2.2.2.2.2.1) p3
      simp only [putAll, Act.put, List.setIfInBounds_toArray, List.set_cons_zero, List.set_cons_succ]
      go_simp
      refine hK _ G _ (by kernel_rfl) ?_
      exact ⟨(hJ.1),
        (hJ.2.1),
        (hJ.2.2.1),
        fun q => (hJ.2.2.2.1) (q.resolve_left (by decide)),
        fun q n => (hJ.2.2.2.2.1) (q.resolve_left (by decide)) (fun m => n (.inr m)),
        fun q => (hJ.2.2.2.2.2.1) (q.resolve_left (by decide)),
        fun q => .inr ((hJ.2.2.2.2.2.2.1) (q.resolve_left (by decide))),
        fun q => (hJ.2.2.2.2.2.2.2.1) (q.resolve_left (by decide)),
        fun q => (hJ.2.2.2.2.2.2.2.2.1) (q.resolve_left (by decide)),
        fun q => (hJ.2.2.2.2.2.2.2.2.2.1) (q.resolve_left (by decide)),
        fun _ => by first | exact rfl | exact e3,
        fun _ => rfl,
        fun q => (hJ.2.2.2.2.2.2.2.2.2.2.2.2.1) (q.resolve_left (by decide)),
        fun q => (hJ.2.2.2.2.2.2.2.2.2.2.2.2.2.1) (q.resolve_left (by decide)),
        fun q => (hJ.2.2.2.2.2.2.2.2.2.2.2.2.2.2.1) (q.resolve_left (by decide)),
        fun q => (hJ.2.2.2.2.2.2.2.2.2.2.2.2.2.2.2) (q.resolve_left (by decide))⟩
    refine StepsOk.cons (i := 5) rfl (fun L x G w1 K Q hn hp hJ hK => ?_) ?_
    · skip
      have p4 : L 4 := hp ⟨4, .data⟩ (by simp) rfl
      have e4 := (hJ.2.2.2.2.2.2.2.2.2.2.2.1) p4
      simp only [putAll, Act.put, List.setIfInBounds_toArray, List.set_cons_zero, List.set_cons_succ]
      go_simp
      refine hK _ G _ (by kernel_rfl) ?_
      exact ⟨(hJ.1),
        (hJ.2.1),
        (hJ.2.2.1),
        fun q => (hJ.2.2.2.1) (q.resolve_left (by decide)),
        fun q n => (hJ.2.2.2.2.1) (q.resolve_left (by decide)) (fun m => n (.inr m)),
        fun q => (hJ.2.2.2.2.2.1) (q.resolve_left (by decide)),
        fun q => .inr ((hJ.2.2.2.2.2.2.1) (q.resolve_left (by decide))),
        fun q => (hJ.2.2.2.2.2.2.2.1) (q.resolve_left (by decide)),
        fun q => (hJ.2.2.2.2.2.2.2.2.1) (q.resolve_left (by decide)),
        fun q => (hJ.2.2.2.2.2.2.2.2.2.1) (q.resolve_left (by decide)),
        fun q => (hJ.2.2.2.2.2.2.2.2.2.2.1) (q.resolve_left (by decide)),
        fun _ => by first | exact rfl | exact e4,
        fun _ => rfl,
        fun q => (hJ.2.2.2.2.2.2.2.2.2.2.2.2.2.1) (q.resolve_left (by decide)),
        fun q => (hJ.2.2.2.2.2.2.2.2.2.2.2.2.2.2.1) (q.resolve_left (by decide)),
        fun q => (hJ.2.2.2.2.2.2.2.2.2.2.2.2.2.2.2) (q.resolve_left (by decide))⟩
    refine StepsOk.cons (i := 6) rfl (fun L x G w1 K Q hn hp hJ hK => ?_) ?_
    · skip
      have p4 : L 4 := hp ⟨4, .data⟩ (by simp) rfl
      have e4 := (hJ.2.2.2.2.2.2.2.2.2.2.2.1) p4
      simp only [putAll, Act.put, List.setIfInBounds_toArray, List.set_cons_zero, List.set_cons_succ]
      go_simp
      refine hK _ G _ (by kernel_rfl) ?_
      exact ⟨(hJ.1),
        (hJ.2.1),
        (hJ.2.2.1),
        fun q => (hJ.2.2.2.1) (q.resolve_left (by decide)),
        fun q n => (hJ.2.2.2.2.1) (q.resolve_left (by decide)) (fun m => n (.inr m)),
        fun q => (hJ.2.2.2.2.2.1) (q.resolve_left (by decide)),
        fun q => .inr ((hJ.2.2.2.2.2.2.1) (q.resolve_left (by decide))),
        fun q => (hJ.2.2.2.2.2.2.2.1) (q.resolve_left (by decide)),
        fun q => (hJ.2.2.2.2.2.2.2.2.1) (q.resolve_left (by decide)),
        fun q => (hJ.2.2.2.2.2.2.2.2.2.1) (q.resolve_left (by decide)),
        fun q => (hJ.2.2.2.2.2.2.2.2.2.2.1) (q.resolve_left (by decide)),
        fun _ => by first | exact rfl | exact e4,
        fun q => (hJ.2.2.2.2.2.2.2.2.2.2.2.2.1) (q.resolve_left (by decide)),
        fun _ => rfl,
        fun q => (hJ.2.2.2.2.2.2.2.2.2.2.2.2.2.2.1) (q.resolve_left (by decide)),
        fun q => (hJ.2.2.2.2.2.2.2.2.2.2.2.2.2.2.2) (q.resolve_left (by decide))⟩
    refine StepsOk.cons (i := 7) rfl (fun L x G w1 K Q hn hp hJ hK => ?_) ?_
    · skip
      simp only [putAll, Act.put, List.setIfInBounds_toArray, List.set_cons_zero, List.set_cons_succ]
      go_simp
      refine hK _ (fun t => if t = 7 then w1.heap.size else G t) _ (by kernel_rfl) ?_
      exact ⟨bal (hJ.1) _,
        by simp; omega,
        Blk.alloc ((hJ.2.2.1)) _,
        fun _ => ⟨(hJ.1).size, by simp, Nat.ne_of_lt (hJ.2.1)⟩,
        fun _ _ => Blk.new w1 _ _,
        fun q => absurd ((hJ.2.2.2.2.2.2.1) (q.resolve_left (by decide))) hn,
        fun q => .inr ((hJ.2.2.2.2.2.2.1) (q.resolve_left (by decide))),
        fun q => (hJ.2.2.2.2.2.2.2.1) (q.resolve_left (by decide)),
        fun q => (hJ.2.2.2.2.2.2.2.2.1) (q.resolve_left (by decide)),
        fun q => (hJ.2.2.2.2.2.2.2.2.2.1) (q.resolve_left (by decide)),
        fun q => (hJ.2.2.2.2.2.2.2.2.2.2.1) (q.resolve_left (by decide)),
        fun q => (hJ.2.2.2.2.2.2.2.2.2.2.2.1) (q.resolve_left (by decide)),
        fun q => (hJ.2.2.2.2.2.2.2.2.2.2.2.2.1) (q.resolve_left (by decide)),
        fun q => (hJ.2.2.2.2.2.2.2.2.2.2.2.2.2.1) (q.resolve_left (by decide)),
        fun _ => rfl,
        fun q => (hJ.2.2.2.2.2.2.2.2.2.2.2.2.2.2.2) (q.resolve_left (by decide))⟩
    refine StepsOk.cons (i := 8) rfl (fun L x G w1 K Q hn hp hJ hK => ?_) ?_
    · skip
      have p5 : L 5 := hp ⟨5, .data⟩ (by simp) rfl
      have e5 := (hJ.2.2.2.2.2.2.2.2.2.2.2.2.1) p5
      have p7 : L 7 := hp ⟨7, .data⟩ (by simp) rfl
      have e7 := (hJ.2.2.2.2.2.2.2.2.2.2.2.2.2.2.1) p7
      have hc := Blk.open2 (((hJ.2.2.2.2.1) p7 hn))
      have c0 := hc.1
      have c1 := hc.2.1
      have c2 := hc.2.2.1
      have c3 := hc.2.2.2
      clear hc
      simp only [putAll, Act.put, List.setIfInBounds_toArray, List.set_cons_zero, List.set_cons_succ]
      go_simp
      refine hK _ G _ (by kernel_rfl) ?_
      exact ⟨bst (bst ((hJ.1)) (p := ⟨G 7, 0, none⟩) ((hJ.2.2.2.1) p7).1 (.int .i64 (Wi.Hq (Wi.dV xx a (-1))))) (p := ⟨G 7, 1, none⟩) ((hJ.2.2.2.1) p7).1 (.int .u64 (Wi.Lr (Wi.dV xx a (-1)))),
        by simpa using (hJ.2.1),
        Blk.far (Blk.far ((hJ.2.2.1)) (p := ⟨G 7, 0, none⟩) (((hJ.2.2.2.1) p7).2.2) (.int .i64 (Wi.Hq (Wi.dV xx a (-1))))) (p := ⟨G 7, 1, none⟩) (((hJ.2.2.2.1) p7).2.2) (.int .u64 (Wi.Lr (Wi.dV xx a (-1)))),
        fun q => ⟨((hJ.2.2.2.1) (q.resolve_left (by decide))).1, by have := ((hJ.2.2.2.1) (q.resolve_left (by decide))).2.1; simpa using this, ((hJ.2.2.2.1) (q.resolve_left (by decide))).2.2⟩,
        fun _ n => absurd (.inl rfl) n,
        fun _ => by simpa using Blk.set_ (Blk.set_ (((hJ.2.2.2.2.1) p7 hn)) 0 (.int .i64 (Wi.Hq (Wi.dV xx a (-1))))) 1 (.int .u64 (Wi.Lr (Wi.dV xx a (-1)))),
        fun _ => .inr p7,
        fun q => (hJ.2.2.2.2.2.2.2.1) (q.resolve_left (by decide)),
        fun q => (hJ.2.2.2.2.2.2.2.2.1) (q.resolve_left (by decide)),
        fun q => (hJ.2.2.2.2.2.2.2.2.2.1) (q.resolve_left (by decide)),
        fun q => (hJ.2.2.2.2.2.2.2.2.2.2.1) (q.resolve_left (by decide)),
        fun q => (hJ.2.2.2.2.2.2.2.2.2.2.2.1) (q.resolve_left (by decide)),
        fun _ => by first | exact rfl | exact e5,
        fun q => (hJ.2.2.2.2.2.2.2.2.2.2.2.2.2.1) (q.resolve_left (by decide)),
        fun _ => by first | exact rfl | exact e7,
        fun q => (hJ.2.2.2.2.2.2.2.2.2.2.2.2.2.2.2) (q.resolve_left (by decide))⟩
    refine StepsOk.cons (i := 9) rfl (fun L x G w1 K Q hn hp hJ hK => ?_) ?_
    · skip
      have p6 : L 6 := hp ⟨6, .data⟩ (by simp) rfl
      have e6 := (hJ.2.2.2.2.2.2.2.2.2.2.2.2.2.1) p6
      simp only [putAll, Act.put, List.setIfInBounds_toArray, List.set_cons_zero, List.set_cons_succ]
      go_simp
      refine hK _ G _ (by kernel_rfl) ?_
      exact ⟨(hJ.1),
        (hJ.2.1),
        (hJ.2.2.1),
        fun q => (hJ.2.2.2.1) (q.resolve_left (by decide)),
        fun q n => (hJ.2.2.2.2.1) (q.resolve_left (by decide)) (fun m => n (.inr m)),
        fun q => (hJ.2.2.2.2.2.1) (q.resolve_left (by decide)),
        fun q => .inr ((hJ.2.2.2.2.2.2.1) (q.resolve_left (by decide))),
        fun q => (hJ.2.2.2.2.2.2.2.1) (q.resolve_left (by decide)),
        fun q => (hJ.2.2.2.2.2.2.2.2.1) (q.resolve_left (by decide)),
        fun q => (hJ.2.2.2.2.2.2.2.2.2.1) (q.resolve_left (by decide)),
        fun q => (hJ.2.2.2.2.2.2.2.2.2.2.1) (q.resolve_left (by decide)),
        fun q => (hJ.2.2.2.2.2.2.2.2.2.2.2.1) (q.resolve_left (by decide)),
        fun q => (hJ.2.2.2.2.2.2.2.2.2.2.2.2.1) (q.resolve_left (by decide)),
        fun _ => by first | exact rfl | exact e6,
        fun q => (hJ.2.2.2.2.2.2.2.2.2.2.2.2.2.2.1) (q.resolve_left (by decide)),
        fun _ => rfl⟩
    exact StepsOk.nil
  case fin =>
    intro L x G w2 hall hJ
    replace X := (hJ.2.2.1)
    obtain ⟨haP, hlP, hnPX⟩ := (hJ.2.2.2.1) (hall 7 (by decide))
    have P := (hJ.2.2.2.2.2.1) (hall 8 (by decide))
    have u0 := hJ.2.2.2.2.2.2.2.1 (hall 0 (by decide))
    have u1 := hJ.2.2.2.2.2.2.2.2.1 (hall 1 (by decide))
    have u2 := hJ.2.2.2.2.2.2.2.2.2.1 (hall 2 (by decide))
    have u3 := hJ.2.2.2.2.2.2.2.2.2.2.1 (hall 3 (by decide))
    have u4 := hJ.2.2.2.2.2.2.2.2.2.2.2.1 (hall 4 (by decide))
    have u5 := hJ.2.2.2.2.2.2.2.2.2.2.2.2.1 (hall 5 (by decide))
    have u6 := hJ.2.2.2.2.2.2.2.2.2.2.2.2.2.1 (hall 6 (by decide))
    have u7 := hJ.2.2.2.2.2.2.2.2.2.2.2.2.2.2.1 (hall 7 (by decide))
    have u9 := hJ.2.2.2.2.2.2.2.2.2.2.2.2.2.2.2 (hall 9 (by decide))
    replace hB := hJ.1
    simp only [putAll, Act.put, List.setIfInBounds_toArray, List.set_cons_zero, List.set_cons_succ]
    simp only [u0, u1, u2, u3, u4, u5, u6, u7, u9]
    clear hall hJ u0 u1 u2 u3 u4 u5 u6 u7 u9
    generalize G 7 = gP at *
    obtain ⟨c00, c01, c02, c03⟩ := X.open2
    obtain ⟨c10, c11, c12, c13⟩ := P.open2
    go_wp2_with fail
    go_returns
    exact ⟨rfl, hB⟩
set_option maxRecDepth 100000 in
set_option maxHeartbeats 4000000 in
theorem rem_3 (h l xx a : Int) (w : World) (H : Wi.Wd h l xx) (a1 : -9223372036854775808 ≤ a) (a2 : a ≤ 9223372036854775807) (ha : 1 ≤ a) (hh : h = -9223372036854775808) : Calls Try.prog 11 #[.agg #[.int .i64 h, .int .u64 l], .int .i64 a] w fun e w' =>
    e = .returned (.bool true) ∧ Below w.heap.size w w' := by
  have oa : Wi.Wd (Wi.Hq a) (Wi.Lr a) a := Wi.wd_self (by unfold Wi.inW; omega)
  have t1 : ¬ a < 1 := by omega
  have t1_ : decide (a < 1) = false := decide_eq_false t1
  have t2 : (a != 0) = true := by simp; omega
  clear ha
  subst hh
  go_enter Try.func11, Try.ntmps11
  try simp only [List.append_eq, List.cons_append, List.nil_append]
  have X := Blk.new w 24 #[.int .i64 (-9223372036854775808), .int .u64 (l)]
  have hB := ba w (.cells #[.int .i64 (-9223372036854775808), .int .u64 (l)] 24)
  go_wp2_with fail
  refine (awake_c _).mono ?_
  rintro e w1 ⟨rfl, hb⟩
  replace X := X.keep hb
  replace hB := bt hB hb
  clear hb
  go_wp2_with fail
  refine wp_region_inv (fun L x G wx => Below w.heap.size w wx
        ∧ w.heap.size < wx.heap.size
        ∧ Blk wx (w.heap.size) 24 #[.int .i64 (-9223372036854775808), .int .u64 (l)]
        ∧ (L 7 → w.heap.size ≤ G 7 ∧ G 7 < wx.heap.size ∧ w.heap.size ≠ G 7)
        ∧ (L 7 → ¬ L 8 → Blk wx (G 7) 24 #[.int .i64 (0), .int .u64 (0)])
        ∧ (L 8 → Blk wx (G 7) 24 #[.int .i64 (Wi.Hq (Wi.dV xx a (-1))), .int .u64 (Wi.Lr (Wi.dV xx a (-1)))])
        ∧ (L 8 → L 7)
        ∧ (L 0 → x 14 = .agg #[.int .i64 (-9223372036854775808), .int .u64 (l)])
        ∧ (L 1 → x 15 = .int .i64 (a))
        ∧ (L 2 → x 16 = .agg #[.int .i64 (Wi.Hq (a)), .int .u64 (Wi.Lr (a))])
        ∧ (L 3 → x 17 = .tuple #[.agg #[.int .i64 (Wi.Hq (Wi.dV xx a (-1))), .int .u64 (Wi.Lr (Wi.dV xx a (-1)))], .bool (Wi.dB xx a (-1))])
        ∧ (L 4 → x 13 = .tuple #[.agg #[.int .i64 (Wi.Hq (Wi.dV xx a (-1))), .int .u64 (Wi.Lr (Wi.dV xx a (-1)))], .bool (Wi.dB xx a (-1))])
        ∧ (L 5 → x 18 = .agg #[.int .i64 (Wi.Hq (Wi.dV xx a (-1))), .int .u64 (Wi.Lr (Wi.dV xx a (-1)))])
        ∧ (L 6 → x 19 = .bool (Wi.dB xx a (-1)))
        ∧ (L 7 → x 5 = .pointer (some ⟨G 7, 0, none⟩))
        ∧ (L 9 → x 6 = .bool (Wi.dB xx a (-1)))) [14, 15, 16, 17, 13, 18, 19, 5, 6] 10 (by kernel_rfl) (by kernel_rfl) (by kernel_rfl) ?h0 ?st ?fin
  case h0 =>
    exact ⟨bdr hB, Blk.lt X.drew, X.drew, fun q => q.elim, fun q => q.elim, fun q => q.elim, fun q => q.elim, fun q => q.elim, fun q => q.elim, fun q => q.elim, fun q => q.elim, fun q => q.elim, fun q => q.elim, fun q => q.elim, fun q => q.elim, fun q => q.elim⟩
  case st =>
    refine StepsOk.cons (i := 0) rfl (fun L x G w1 K Q hn hp hJ hK => ?_) ?_
    · skip
      have hc := Blk.open2 ((hJ.2.2.1))
      have c0 := hc.1
      have c1 := hc.2.1
      have c2 := hc.2.2.1
      have c3 := hc.2.2.2
      clear hc
      simp only [putAll, Act.put, List.setIfInBounds_toArray, List.set_cons_zero, List.set_cons_succ]
      go_simp
      refine hK _ G _ (by kernel_rfl) ?_
      exact ⟨(hJ.1),
        (hJ.2.1),
        (hJ.2.2.1),
        fun q => (hJ.2.2.2.1) (q.resolve_left (by decide)),
        fun q n => (hJ.2.2.2.2.1) (q.resolve_left (by decide)) (fun m => n (.inr m)),
        fun q => (hJ.2.2.2.2.2.1) (q.resolve_left (by decide)),
        fun q => .inr ((hJ.2.2.2.2.2.2.1) (q.resolve_left (by decide))),
        fun _ => rfl,
        fun q => (hJ.2.2.2.2.2.2.2.2.1) (q.resolve_left (by decide)),
        fun q => (hJ.2.2.2.2.2.2.2.2.2.1) (q.resolve_left (by decide)),
        fun q => (hJ.2.2.2.2.2.2.2.2.2.2.1) (q.resolve_left (by decide)),
        fun q => (hJ.2.2.2.2.2.2.2.2.2.2.2.1) (q.resolve_left (by decide)),
        fun q => (hJ.2.2.2.2.2.2.2.2.2.2.2.2.1) (q.resolve_left (by decide)),
        fun q => (hJ.2.2.2.2.2.2.2.2.2.2.2.2.2.1) (q.resolve_left (by decide)),
        fun q => (hJ.2.2.2.2.2.2.2.2.2.2.2.2.2.2.1) (q.resolve_left (by decide)),
        fun q => (hJ.2.2.2.2.2.2.2.2.2.2.2.2.2.2.2) (q.resolve_left (by decide))⟩
    refine StepsOk.cons (i := 1) rfl (fun L x G w1 K Q hn hp hJ hK => ?_) ?_
    · skip
      simp only [putAll, Act.put, List.setIfInBounds_toArray, List.set_cons_zero, List.set_cons_succ]
      go_simp
      refine hK _ G _ (by kernel_rfl) ?_
      exact ⟨(hJ.1),
        (hJ.2.1),
        (hJ.2.2.1),
        fun q => (hJ.2.2.2.1) (q.resolve_left (by decide)),
        fun q n => (hJ.2.2.2.2.1) (q.resolve_left (by decide)) (fun m => n (.inr m)),
        fun q => (hJ.2.2.2.2.2.1) (q.resolve_left (by decide)),
        fun q => .inr ((hJ.2.2.2.2.2.2.1) (q.resolve_left (by decide))),
        fun q => (hJ.2.2.2.2.2.2.2.1) (q.resolve_left (by decide)),
        fun _ => rfl,
        fun q => (hJ.2.2.2.2.2.2.2.2.2.1) (q.resolve_left (by decide)),
        fun q => (hJ.2.2.2.2.2.2.2.2.2.2.1) (q.resolve_left (by decide)),
        fun q => (hJ.2.2.2.2.2.2.2.2.2.2.2.1) (q.resolve_left (by decide)),
        fun q => (hJ.2.2.2.2.2.2.2.2.2.2.2.2.1) (q.resolve_left (by decide)),
        fun q => (hJ.2.2.2.2.2.2.2.2.2.2.2.2.2.1) (q.resolve_left (by decide)),
        fun q => (hJ.2.2.2.2.2.2.2.2.2.2.2.2.2.2.1) (q.resolve_left (by decide)),
        fun q => (hJ.2.2.2.2.2.2.2.2.2.2.2.2.2.2.2) (q.resolve_left (by decide))⟩
    refine StepsOk.cons (i := 2) rfl (fun L x G w1 K Q hn hp hJ hK => ?_) ?_
    · skip
      have p1 : L 1 := hp ⟨1, .data⟩ (by simp) rfl
      have e1 := (hJ.2.2.2.2.2.2.2.2.1) p1
      simp only [putAll, Act.put, List.setIfInBounds_toArray, List.set_cons_zero, List.set_cons_succ]
      go_simp
      refine (of_c _ _ a1 a2).mono ?_
      rintro e w2 ⟨rfl, hb⟩
      have hz := hb.size
      try go_simp
      refine hK _ G _ (by kernel_rfl) ?_
      exact ⟨bt (hJ.1) hb,
        Nat.lt_of_lt_of_le (hJ.2.1) hb.size,
        Blk.keep ((hJ.2.2.1)) hb,
        fun q => ⟨((hJ.2.2.2.1) (q.resolve_left (by decide))).1, by have := ((hJ.2.2.2.1) (q.resolve_left (by decide))).2.1; omega, ((hJ.2.2.2.1) (q.resolve_left (by decide))).2.2⟩,
        fun q n => Blk.keep ((hJ.2.2.2.2.1) (q.resolve_left (by decide)) (fun m => n (.inr m))) hb,
        fun q => Blk.keep ((hJ.2.2.2.2.2.1) (q.resolve_left (by decide))) hb,
        fun q => .inr ((hJ.2.2.2.2.2.2.1) (q.resolve_left (by decide))),
        fun q => (hJ.2.2.2.2.2.2.2.1) (q.resolve_left (by decide)),
        fun _ => by first | exact rfl | exact e1,
        fun _ => rfl,
        fun q => (hJ.2.2.2.2.2.2.2.2.2.2.1) (q.resolve_left (by decide)),
        fun q => (hJ.2.2.2.2.2.2.2.2.2.2.2.1) (q.resolve_left (by decide)),
        fun q => (hJ.2.2.2.2.2.2.2.2.2.2.2.2.1) (q.resolve_left (by decide)),
        fun q => (hJ.2.2.2.2.2.2.2.2.2.2.2.2.2.1) (q.resolve_left (by decide)),
        fun q => (hJ.2.2.2.2.2.2.2.2.2.2.2.2.2.2.1) (q.resolve_left (by decide)),
        fun q => (hJ.2.2.2.2.2.2.2.2.2.2.2.2.2.2.2) (q.resolve_left (by decide))⟩
    refine StepsOk.cons (i := 3) rfl (fun L x G w1 K Q hn hp hJ hK => ?_) ?_
    · skip
      have p0 : L 0 := hp ⟨0, .data⟩ (by simp) rfl
      have e0 := (hJ.2.2.2.2.2.2.2.1) p0
      have p2 : L 2 := hp ⟨2, .data⟩ (by simp) rfl
      have e2 := (hJ.2.2.2.2.2.2.2.2.2.1) p2
      simp only [putAll, Act.put, List.setIfInBounds_toArray, List.set_cons_zero, List.set_cons_succ]
      go_simp
      refine (div_c _ _ _ _ _ _ _ H oa).mono ?_
      rintro e w2 ⟨rfl, hb⟩
      have hz := hb.size
      try go_simp
      refine hK _ G _ (by kernel_rfl) ?_
      exact ⟨bt (hJ.1) hb,
        Nat.lt_of_lt_of_le (hJ.2.1) hb.size,
        Blk.keep ((hJ.2.2.1)) hb,
        fun q => ⟨((hJ.2.2.2.1) (q.resolve_left (by decide))).1, by have := ((hJ.2.2.2.1) (q.resolve_left (by decide))).2.1; omega, ((hJ.2.2.2.1) (q.resolve_left (by decide))).2.2⟩,
        fun q n => Blk.keep ((hJ.2.2.2.2.1) (q.resolve_left (by decide)) (fun m => n (.inr m))) hb,
        fun q => Blk.keep ((hJ.2.2.2.2.2.1) (q.resolve_left (by decide))) hb,
        fun q => .inr ((hJ.2.2.2.2.2.2.1) (q.resolve_left (by decide))),
        fun _ => by first | exact rfl | exact e0,
        fun q => (hJ.2.2.2.2.2.2.2.2.1) (q.resolve_left (by decide)),
        fun _ => by first | exact rfl | exact e2,
        fun _ => rfl,
        fun q => (hJ.2.2.2.2.2.2.2.2.2.2.2.1) (q.resolve_left (by decide)),
        fun q => (hJ.2.2.2.2.2.2.2.2.2.2.2.2.1) (q.resolve_left (by decide)),
        fun q => (hJ.2.2.2.2.2.2.2.2.2.2.2.2.2.1) (q.resolve_left (by decide)),
        fun q => (hJ.2.2.2.2.2.2.2.2.2.2.2.2.2.2.1) (q.resolve_left (by decide)),
        fun q => (hJ.2.2.2.2.2.2.2.2.2.2.2.2.2.2.2) (q.resolve_left (by decide))⟩
    refine StepsOk.cons (i := 4) rfl (fun L x G w1 K Q hn hp hJ hK => ?_) ?_
    · skip
      have p3 : L 3 := hp ⟨3, .data⟩ (by simp) rfl
      have e3 := (hJ.2.2.2.2.2.2.2.2.2.2.1) p3
      simp only [putAll, Act.put, List.setIfInBounds_toArray, List.set_cons_zero, List.set_cons_succ]
      go_simp
      refine hK _ G _ (by kernel_rfl) ?_
      exact ⟨(hJ.1),
        (hJ.2.1),
        (hJ.2.2.1),
        fun q => (hJ.2.2.2.1) (q.resolve_left (by decide)),
        fun q n => (hJ.2.2.2.2.1) (q.resolve_left (by decide)) (fun m => n (.inr m)),
        fun q => (hJ.2.2.2.2.2.1) (q.resolve_left (by decide)),
        fun q => .inr ((hJ.2.2.2.2.2.2.1) (q.resolve_left (by decide))),
        fun q => (hJ.2.2.2.2.2.2.2.1) (q.resolve_left (by decide)),
        fun q => (hJ.2.2.2.2.2.2.2.2.1) (q.resolve_left (by decide)),
        fun q => (hJ.2.2.2.2.2.2.2.2.2.1) (q.resolve_left (by decide)),
        fun _ => by first | exact rfl | exact e3,
        fun _ => rfl,
        fun q => (hJ.2.2.2.2.2.2.2.2.2.2.2.2.1) (q.resolve_left (by decide)),
        fun q => (hJ.2.2.2.2.2.2.2.2.2.2.2.2.2.1) (q.resolve_left (by decide)),
        fun q => (hJ.2.2.2.2.2.2.2.2.2.2.2.2.2.2.1) (q.resolve_left (by decide)),
        fun q => (hJ.2.2.2.2.2.2.2.2.2.2.2.2.2.2.2) (q.resolve_left (by decide))⟩
    refine StepsOk.cons (i := 5) rfl (fun L x G w1 K Q hn hp hJ hK => ?_) ?_
    · skip
      have p4 : L 4 := hp ⟨4, .data⟩ (by simp) rfl
      have e4 := (hJ.2.2.2.2.2.2.2.2.2.2.2.1) p4
      simp only [putAll, Act.put, List.setIfInBounds_toArray, List.set_cons_zero, List.set_cons_succ]
      go_simp
      refine hK _ G _ (by kernel_rfl) ?_
      exact ⟨(hJ.1),
        (hJ.2.1),
        (hJ.2.2.1),
        fun q => (hJ.2.2.2.1) (q.resolve_left (by decide)),
        fun q n => (hJ.2.2.2.2.1) (q.resolve_left (by decide)) (fun m => n (.inr m)),
        fun q => (hJ.2.2.2.2.2.1) (q.resolve_left (by decide)),
        fun q => .inr ((hJ.2.2.2.2.2.2.1) (q.resolve_left (by decide))),
        fun q => (hJ.2.2.2.2.2.2.2.1) (q.resolve_left (by decide)),
        fun q => (hJ.2.2.2.2.2.2.2.2.1) (q.resolve_left (by decide)),
        fun q => (hJ.2.2.2.2.2.2.2.2.2.1) (q.resolve_left (by decide)),
        fun q => (hJ.2.2.2.2.2.2.2.2.2.2.1) (q.resolve_left (by decide)),
        fun _ => by first | exact rfl | exact e4,
        fun _ => rfl,
        fun q => (hJ.2.2.2.2.2.2.2.2.2.2.2.2.2.1) (q.resolve_left (by decide)),
        fun q => (hJ.2.2.2.2.2.2.2.2.2.2.2.2.2.2.1) (q.resolve_left (by decide)),
        fun q => (hJ.2.2.2.2.2.2.2.2.2.2.2.2.2.2.2) (q.resolve_left (by decide))⟩
    refine StepsOk.cons (i := 6) rfl (fun L x G w1 K Q hn hp hJ hK => ?_) ?_
    · skip
      have p4 : L 4 := hp ⟨4, .data⟩ (by simp) rfl
      have e4 := (hJ.2.2.2.2.2.2.2.2.2.2.2.1) p4
      simp only [putAll, Act.put, List.setIfInBounds_toArray, List.set_cons_zero, List.set_cons_succ]
      go_simp
      refine hK _ G _ (by kernel_rfl) ?_
      exact ⟨(hJ.1),
        (hJ.2.1),
        (hJ.2.2.1),
        fun q => (hJ.2.2.2.1) (q.resolve_left (by decide)),
        fun q n => (hJ.2.2.2.2.1) (q.resolve_left (by decide)) (fun m => n (.inr m)),
        fun q => (hJ.2.2.2.2.2.1) (q.resolve_left (by decide)),
        fun q => .inr ((hJ.2.2.2.2.2.2.1) (q.resolve_left (by decide))),
        fun q => (hJ.2.2.2.2.2.2.2.1) (q.resolve_left (by decide)),
        fun q => (hJ.2.2.2.2.2.2.2.2.1) (q.resolve_left (by decide)),
        fun q => (hJ.2.2.2.2.2.2.2.2.2.1) (q.resolve_left (by decide)),
        fun q => (hJ.2.2.2.2.2.2.2.2.2.2.1) (q.resolve_left (by decide)),
        fun _ => by first | exact rfl | exact e4,
        fun q => (hJ.2.2.2.2.2.2.2.2.2.2.2.2.1) (q.resolve_left (by decide)),
        fun _ => rfl,
        fun q => (hJ.2.2.2.2.2.2.2.2.2.2.2.2.2.2.1) (q.resolve_left (by decide)),
        fun q => (hJ.2.2.2.2.2.2.2.2.2.2.2.2.2.2.2) (q.resolve_left (by decide))⟩
    refine StepsOk.cons (i := 7) rfl (fun L x G w1 K Q hn hp hJ hK => ?_) ?_
    · skip
      simp only [putAll, Act.put, List.setIfInBounds_toArray, List.set_cons_zero, List.set_cons_succ]
      go_simp
      refine hK _ (fun t => if t = 7 then w1.heap.size else G t) _ (by kernel_rfl) ?_
      exact ⟨bal (hJ.1) _,
        by simp; omega,
        Blk.alloc ((hJ.2.2.1)) _,
        fun _ => ⟨(hJ.1).size, by simp, Nat.ne_of_lt (hJ.2.1)⟩,
        fun _ _ => Blk.new w1 _ _,
        fun q => absurd ((hJ.2.2.2.2.2.2.1) (q.resolve_left (by decide))) hn,
        fun q => .inr ((hJ.2.2.2.2.2.2.1) (q.resolve_left (by decide))),
        fun q => (hJ.2.2.2.2.2.2.2.1) (q.resolve_left (by decide)),
        fun q => (hJ.2.2.2.2.2.2.2.2.1) (q.resolve_left (by decide)),
        fun q => (hJ.2.2.2.2.2.2.2.2.2.1) (q.resolve_left (by decide)),
        fun q => (hJ.2.2.2.2.2.2.2.2.2.2.1) (q.resolve_left (by decide)),
        fun q => (hJ.2.2.2.2.2.2.2.2.2.2.2.1) (q.resolve_left (by decide)),
        fun q => (hJ.2.2.2.2.2.2.2.2.2.2.2.2.1) (q.resolve_left (by decide)),
        fun q => (hJ.2.2.2.2.2.2.2.2.2.2.2.2.2.1) (q.resolve_left (by decide)),
        fun _ => rfl,
        fun q => (hJ.2.2.2.2.2.2.2.2.2.2.2.2.2.2.2) (q.resolve_left (by decide))⟩
    refine StepsOk.cons (i := 8) rfl (fun L x G w1 K Q hn hp hJ hK => ?_) ?_
    · skip
      have p5 : L 5 := hp ⟨5, .data⟩ (by simp) rfl
      have e5 := (hJ.2.2.2.2.2.2.2.2.2.2.2.2.1) p5
      have p7 : L 7 := hp ⟨7, .data⟩ (by simp) rfl
      have e7 := (hJ.2.2.2.2.2.2.2.2.2.2.2.2.2.2.1) p7
      have hc := Blk.open2 (((hJ.2.2.2.2.1) p7 hn))
      have c0 := hc.1
      have c1 := hc.2.1
      have c2 := hc.2.2.1
      have c3 := hc.2.2.2
      clear hc
      simp only [putAll, Act.put, List.setIfInBounds_toArray, List.set_cons_zero, List.set_cons_succ]
      go_simp
      refine hK _ G _ (by kernel_rfl) ?_
      exact ⟨bst (bst ((hJ.1)) (p := ⟨G 7, 0, none⟩) ((hJ.2.2.2.1) p7).1 (.int .i64 (Wi.Hq (Wi.dV xx a (-1))))) (p := ⟨G 7, 1, none⟩) ((hJ.2.2.2.1) p7).1 (.int .u64 (Wi.Lr (Wi.dV xx a (-1)))),
        by simpa using (hJ.2.1),
        Blk.far (Blk.far ((hJ.2.2.1)) (p := ⟨G 7, 0, none⟩) (((hJ.2.2.2.1) p7).2.2) (.int .i64 (Wi.Hq (Wi.dV xx a (-1))))) (p := ⟨G 7, 1, none⟩) (((hJ.2.2.2.1) p7).2.2) (.int .u64 (Wi.Lr (Wi.dV xx a (-1)))),
        fun q => ⟨((hJ.2.2.2.1) (q.resolve_left (by decide))).1, by have := ((hJ.2.2.2.1) (q.resolve_left (by decide))).2.1; simpa using this, ((hJ.2.2.2.1) (q.resolve_left (by decide))).2.2⟩,
        fun _ n => absurd (.inl rfl) n,
        fun _ => by simpa using Blk.set_ (Blk.set_ (((hJ.2.2.2.2.1) p7 hn)) 0 (.int .i64 (Wi.Hq (Wi.dV xx a (-1))))) 1 (.int .u64 (Wi.Lr (Wi.dV xx a (-1)))),
        fun _ => .inr p7,
        fun q => (hJ.2.2.2.2.2.2.2.1) (q.resolve_left (by decide)),
        fun q => (hJ.2.2.2.2.2.2.2.2.1) (q.resolve_left (by decide)),
        fun q => (hJ.2.2.2.2.2.2.2.2.2.1) (q.resolve_left (by decide)),
        fun q => (hJ.2.2.2.2.2.2.2.2.2.2.1) (q.resolve_left (by decide)),
        fun q => (hJ.2.2.2.2.2.2.2.2.2.2.2.1) (q.resolve_left (by decide)),
        fun _ => by first | exact rfl | exact e5,
        fun q => (hJ.2.2.2.2.2.2.2.2.2.2.2.2.2.1) (q.resolve_left (by decide)),
        fun _ => by first | exact rfl | exact e7,
        fun q => (hJ.2.2.2.2.2.2.2.2.2.2.2.2.2.2.2) (q.resolve_left (by decide))⟩
    refine StepsOk.cons (i := 9) rfl (fun L x G w1 K Q hn hp hJ hK => ?_) ?_
    · skip
      have p6 : L 6 := hp ⟨6, .data⟩ (by simp) rfl
      have e6 := (hJ.2.2.2.2.2.2.2.2.2.2.2.2.2.1) p6
      simp only [putAll, Act.put, List.setIfInBounds_toArray, List.set_cons_zero, List.set_cons_succ]
      go_simp
      refine hK _ G _ (by kernel_rfl) ?_
      exact ⟨(hJ.1),
        (hJ.2.1),
        (hJ.2.2.1),
        fun q => (hJ.2.2.2.1) (q.resolve_left (by decide)),
        fun q n => (hJ.2.2.2.2.1) (q.resolve_left (by decide)) (fun m => n (.inr m)),
        fun q => (hJ.2.2.2.2.2.1) (q.resolve_left (by decide)),
        fun q => .inr ((hJ.2.2.2.2.2.2.1) (q.resolve_left (by decide))),
        fun q => (hJ.2.2.2.2.2.2.2.1) (q.resolve_left (by decide)),
        fun q => (hJ.2.2.2.2.2.2.2.2.1) (q.resolve_left (by decide)),
        fun q => (hJ.2.2.2.2.2.2.2.2.2.1) (q.resolve_left (by decide)),
        fun q => (hJ.2.2.2.2.2.2.2.2.2.2.1) (q.resolve_left (by decide)),
        fun q => (hJ.2.2.2.2.2.2.2.2.2.2.2.1) (q.resolve_left (by decide)),
        fun q => (hJ.2.2.2.2.2.2.2.2.2.2.2.2.1) (q.resolve_left (by decide)),
        fun _ => by first | exact rfl | exact e6,
        fun q => (hJ.2.2.2.2.2.2.2.2.2.2.2.2.2.2.1) (q.resolve_left (by decide)),
        fun _ => rfl⟩
    exact StepsOk.nil
  case fin =>
    intro L x G w2 hall hJ
    replace X := (hJ.2.2.1)
    obtain ⟨haP, hlP, hnPX⟩ := (hJ.2.2.2.1) (hall 7 (by decide))
    have P := (hJ.2.2.2.2.2.1) (hall 8 (by decide))
    have u0 := hJ.2.2.2.2.2.2.2.1 (hall 0 (by decide))
    have u1 := hJ.2.2.2.2.2.2.2.2.1 (hall 1 (by decide))
    have u2 := hJ.2.2.2.2.2.2.2.2.2.1 (hall 2 (by decide))
    have u3 := hJ.2.2.2.2.2.2.2.2.2.2.1 (hall 3 (by decide))
    have u4 := hJ.2.2.2.2.2.2.2.2.2.2.2.1 (hall 4 (by decide))
    have u5 := hJ.2.2.2.2.2.2.2.2.2.2.2.2.1 (hall 5 (by decide))
    have u6 := hJ.2.2.2.2.2.2.2.2.2.2.2.2.2.1 (hall 6 (by decide))
    have u7 := hJ.2.2.2.2.2.2.2.2.2.2.2.2.2.2.1 (hall 7 (by decide))
    have u9 := hJ.2.2.2.2.2.2.2.2.2.2.2.2.2.2.2 (hall 9 (by decide))
    replace hB := hJ.1
    simp only [putAll, Act.put, List.setIfInBounds_toArray, List.set_cons_zero, List.set_cons_succ]
    simp only [u0, u1, u2, u3, u4, u5, u6, u7, u9]
    clear hall hJ u0 u1 u2 u3 u4 u5 u6 u7 u9
    generalize G 7 = gP at *
    obtain ⟨c00, c01, c02, c03⟩ := X.open2
    obtain ⟨c10, c11, c12, c13⟩ := P.open2
    go_wp2_with fail
    go_returns
    exact ⟨rfl, hB⟩
set_option maxRecDepth 100000 in
set_option maxHeartbeats 4000000 in
theorem rem_4 (h l xx a : Int) (w : World) (H : Wi.Wd h l xx) (a1 : -9223372036854775808 ≤ a) (a2 : a ≤ 9223372036854775807) (ha : 1 ≤ a) (hh : h ≠ -9223372036854775808) (hr : xx % a = 0) : Calls Try.prog 11 #[.agg #[.int .i64 h, .int .u64 l], .int .i64 a] w fun e w' =>
    e = .returned (.bool true) ∧ Below w.heap.size w w' := by
  have oa : Wi.Wd (Wi.Hq a) (Wi.Lr a) a := Wi.wd_self (by unfold Wi.inW; omega)
  obtain ⟨f1, f2, f3, f4, f5, f6, f7, f8, f9⟩ := Wi.rem_facts H hh ha a2
  have e1 := Lib.hid (show Wi.cm (xx % a) 0 = 0 from Wi.cm_eq hr)
  have e2 := Lib.hid (show Wi.cm (xx % a) a = -1 from Wi.cm_lt f9)
  have wm := Wi.wd_self f7
  have wr : Wi.Wd (Wi.Hq (xx % a)) (Wi.Lr (xx % a)) (xx % a) := Wi.wd_self (by unfold Wi.inW; omega)
  have wq : Wi.Wd (Wi.Hq (xx / a)) (Wi.Lr (xx / a)) (xx / a) := Wi.wd_self (by rw [← f1]; exact Wi.in_dV _ _ _)
  have t1 : ¬ a < 1 := by omega
  have t1_ : decide (a < 1) = false := decide_eq_false t1
  have t3 : (h == -9223372036854775808) = false := by simp; omega
  clear ha hh hr f7 f8 f9
  replace f1 := Lib.hid f1
  replace f2 := Lib.hid f2
  replace f3 := Lib.hid f3
  replace f4 := Lib.hid f4
  replace f5 := Lib.hid f5
  replace f6 := Lib.hid f6
  generalize hd_ : xx % a = rr at *
  generalize he_ : xx / a = qq at *
  clear hd_ he_
  go_enter Try.func11, Try.ntmps11
  try simp only [List.append_eq, List.cons_append, List.nil_append]
  have X := Blk.new w 24 #[.int .i64 (h), .int .u64 (l)]
  have hB := ba w (.cells #[.int .i64 (h), .int .u64 (l)] 24)
  go_wp2_with fail
  refine (awake_c _).mono ?_
  rintro e w1 ⟨rfl, hb⟩
  replace X := X.keep hb
  replace hB := bt hB hb
  clear hb
  go_wp2_with fail
  refine wp_region_inv (fun L x G wx => Below w.heap.size w wx
        ∧ w.heap.size < wx.heap.size
        ∧ Blk wx (w.heap.size) 24 #[.int .i64 (h), .int .u64 (l)]
        ∧ (L 7 → w.heap.size ≤ G 7 ∧ G 7 < wx.heap.size ∧ w.heap.size ≠ G 7)
        ∧ (L 7 → ¬ L 8 → Blk wx (G 7) 24 #[.int .i64 (0), .int .u64 (0)])
        ∧ (L 8 → Blk wx (G 7) 24 #[.int .i64 (Wi.Hq (qq)), .int .u64 (Wi.Lr (qq))])
        ∧ (L 8 → L 7)
        ∧ (L 0 → x 14 = .agg #[.int .i64 (h), .int .u64 (l)])
        ∧ (L 1 → x 15 = .int .i64 (a))
        ∧ (L 2 → x 16 = .agg #[.int .i64 (Wi.Hq (a)), .int .u64 (Wi.Lr (a))])
        ∧ (L 3 → x 17 = .tuple #[.agg #[.int .i64 (Wi.Hq (qq)), .int .u64 (Wi.Lr (qq))], .bool (true)])
        ∧ (L 4 → x 13 = .tuple #[.agg #[.int .i64 (Wi.Hq (qq)), .int .u64 (Wi.Lr (qq))], .bool (true)])
        ∧ (L 5 → x 18 = .agg #[.int .i64 (Wi.Hq (qq)), .int .u64 (Wi.Lr (qq))])
        ∧ (L 6 → x 19 = .bool (true))
        ∧ (L 7 → x 5 = .pointer (some ⟨G 7, 0, none⟩))
        ∧ (L 9 → x 6 = .bool (true))) [14, 15, 16, 17, 13, 18, 19, 5, 6] 10 (by kernel_rfl) (by kernel_rfl) (by kernel_rfl) ?h0 ?st ?fin
  case h0 =>
    exact ⟨bdr hB, Blk.lt X.drew, X.drew, fun q => q.elim, fun q => q.elim, fun q => q.elim, fun q => q.elim, fun q => q.elim, fun q => q.elim, fun q => q.elim, fun q => q.elim, fun q => q.elim, fun q => q.elim, fun q => q.elim, fun q => q.elim, fun q => q.elim⟩
  case st =>
    refine StepsOk.cons (i := 0) rfl (fun L x G w1 K Q hn hp hJ hK => ?_) ?_
    · skip
      have hc := Blk.open2 ((hJ.2.2.1))
      have c0 := hc.1
      have c1 := hc.2.1
      have c2 := hc.2.2.1
      have c3 := hc.2.2.2
      clear hc
      simp only [putAll, Act.put, List.setIfInBounds_toArray, List.set_cons_zero, List.set_cons_succ]
      go_simp
      refine hK _ G _ (by kernel_rfl) ?_
      exact ⟨(hJ.1),
        (hJ.2.1),
        (hJ.2.2.1),
        fun q => (hJ.2.2.2.1) (q.resolve_left (by decide)),
        fun q n => (hJ.2.2.2.2.1) (q.resolve_left (by decide)) (fun m => n (.inr m)),
        fun q => (hJ.2.2.2.2.2.1) (q.resolve_left (by decide)),
        fun q => .inr ((hJ.2.2.2.2.2.2.1) (q.resolve_left (by decide))),
        fun _ => rfl,
        fun q => (hJ.2.2.2.2.2.2.2.2.1) (q.resolve_left (by decide)),
        fun q => (hJ.2.2.2.2.2.2.2.2.2.1) (q.resolve_left (by decide)),
        fun q => (hJ.2.2.2.2.2.2.2.2.2.2.1) (q.resolve_left (by decide)),
        fun q => (hJ.2.2.2.2.2.2.2.2.2.2.2.1) (q.resolve_left (by decide)),
        fun q => (hJ.2.2.2.2.2.2.2.2.2.2.2.2.1) (q.resolve_left (by decide)),
        fun q => (hJ.2.2.2.2.2.2.2.2.2.2.2.2.2.1) (q.resolve_left (by decide)),
        fun q => (hJ.2.2.2.2.2.2.2.2.2.2.2.2.2.2.1) (q.resolve_left (by decide)),
        fun q => (hJ.2.2.2.2.2.2.2.2.2.2.2.2.2.2.2) (q.resolve_left (by decide))⟩
    refine StepsOk.cons (i := 1) rfl (fun L x G w1 K Q hn hp hJ hK => ?_) ?_
    · skip
      simp only [putAll, Act.put, List.setIfInBounds_toArray, List.set_cons_zero, List.set_cons_succ]
      go_simp
      refine hK _ G _ (by kernel_rfl) ?_
      exact ⟨(hJ.1),
        (hJ.2.1),
        (hJ.2.2.1),
        fun q => (hJ.2.2.2.1) (q.resolve_left (by decide)),
        fun q n => (hJ.2.2.2.2.1) (q.resolve_left (by decide)) (fun m => n (.inr m)),
        fun q => (hJ.2.2.2.2.2.1) (q.resolve_left (by decide)),
        fun q => .inr ((hJ.2.2.2.2.2.2.1) (q.resolve_left (by decide))),
        fun q => (hJ.2.2.2.2.2.2.2.1) (q.resolve_left (by decide)),
        fun _ => rfl,
        fun q => (hJ.2.2.2.2.2.2.2.2.2.1) (q.resolve_left (by decide)),
        fun q => (hJ.2.2.2.2.2.2.2.2.2.2.1) (q.resolve_left (by decide)),
        fun q => (hJ.2.2.2.2.2.2.2.2.2.2.2.1) (q.resolve_left (by decide)),
        fun q => (hJ.2.2.2.2.2.2.2.2.2.2.2.2.1) (q.resolve_left (by decide)),
        fun q => (hJ.2.2.2.2.2.2.2.2.2.2.2.2.2.1) (q.resolve_left (by decide)),
        fun q => (hJ.2.2.2.2.2.2.2.2.2.2.2.2.2.2.1) (q.resolve_left (by decide)),
        fun q => (hJ.2.2.2.2.2.2.2.2.2.2.2.2.2.2.2) (q.resolve_left (by decide))⟩
    refine StepsOk.cons (i := 2) rfl (fun L x G w1 K Q hn hp hJ hK => ?_) ?_
    · skip
      have p1 : L 1 := hp ⟨1, .data⟩ (by simp) rfl
      have e1 := (hJ.2.2.2.2.2.2.2.2.1) p1
      simp only [putAll, Act.put, List.setIfInBounds_toArray, List.set_cons_zero, List.set_cons_succ]
      go_simp
      refine (of_c _ _ a1 a2).mono ?_
      rintro e w2 ⟨rfl, hb⟩
      have hz := hb.size
      try go_simp
      refine hK _ G _ (by kernel_rfl) ?_
      exact ⟨bt (hJ.1) hb,
        Nat.lt_of_lt_of_le (hJ.2.1) hb.size,
        Blk.keep ((hJ.2.2.1)) hb,
        fun q => ⟨((hJ.2.2.2.1) (q.resolve_left (by decide))).1, by have := ((hJ.2.2.2.1) (q.resolve_left (by decide))).2.1; omega, ((hJ.2.2.2.1) (q.resolve_left (by decide))).2.2⟩,
        fun q n => Blk.keep ((hJ.2.2.2.2.1) (q.resolve_left (by decide)) (fun m => n (.inr m))) hb,
        fun q => Blk.keep ((hJ.2.2.2.2.2.1) (q.resolve_left (by decide))) hb,
        fun q => .inr ((hJ.2.2.2.2.2.2.1) (q.resolve_left (by decide))),
        fun q => (hJ.2.2.2.2.2.2.2.1) (q.resolve_left (by decide)),
        fun _ => by first | exact rfl | exact e1,
        fun _ => rfl,
        fun q => (hJ.2.2.2.2.2.2.2.2.2.2.1) (q.resolve_left (by decide)),
        fun q => (hJ.2.2.2.2.2.2.2.2.2.2.2.1) (q.resolve_left (by decide)),
        fun q => (hJ.2.2.2.2.2.2.2.2.2.2.2.2.1) (q.resolve_left (by decide)),
        fun q => (hJ.2.2.2.2.2.2.2.2.2.2.2.2.2.1) (q.resolve_left (by decide)),
        fun q => (hJ.2.2.2.2.2.2.2.2.2.2.2.2.2.2.1) (q.resolve_left (by decide)),
        fun q => (hJ.2.2.2.2.2.2.2.2.2.2.2.2.2.2.2) (q.resolve_left (by decide))⟩
    refine StepsOk.cons (i := 3) rfl (fun L x G w1 K Q hn hp hJ hK => ?_) ?_
    · skip
      have p0 : L 0 := hp ⟨0, .data⟩ (by simp) rfl
      have e0 := (hJ.2.2.2.2.2.2.2.1) p0
      have p2 : L 2 := hp ⟨2, .data⟩ (by simp) rfl
      have e2 := (hJ.2.2.2.2.2.2.2.2.2.1) p2
      simp only [putAll, Act.put, List.setIfInBounds_toArray, List.set_cons_zero, List.set_cons_succ]
      go_simp
      refine (div_c _ _ _ _ _ _ _ H oa).mono ?_
      rw [f1.out, f2.out]
      rintro e w2 ⟨rfl, hb⟩
      have hz := hb.size
      try go_simp
      refine hK _ G _ (by kernel_rfl) ?_
      exact ⟨bt (hJ.1) hb,
        Nat.lt_of_lt_of_le (hJ.2.1) hb.size,
        Blk.keep ((hJ.2.2.1)) hb,
        fun q => ⟨((hJ.2.2.2.1) (q.resolve_left (by decide))).1, by have := ((hJ.2.2.2.1) (q.resolve_left (by decide))).2.1; omega, ((hJ.2.2.2.1) (q.resolve_left (by decide))).2.2⟩,
        fun q n => Blk.keep ((hJ.2.2.2.2.1) (q.resolve_left (by decide)) (fun m => n (.inr m))) hb,
        fun q => Blk.keep ((hJ.2.2.2.2.2.1) (q.resolve_left (by decide))) hb,
        fun q => .inr ((hJ.2.2.2.2.2.2.1) (q.resolve_left (by decide))),
        fun _ => by first | exact rfl | exact e0,
        fun q => (hJ.2.2.2.2.2.2.2.2.1) (q.resolve_left (by decide)),
        fun _ => by first | exact rfl | exact e2,
        fun _ => rfl,
        fun q => (hJ.2.2.2.2.2.2.2.2.2.2.2.1) (q.resolve_left (by decide)),
        fun q => (hJ.2.2.2.2.2.2.2.2.2.2.2.2.1) (q.resolve_left (by decide)),
        fun q => (hJ.2.2.2.2.2.2.2.2.2.2.2.2.2.1) (q.resolve_left (by decide)),
        fun q => (hJ.2.2.2.2.2.2.2.2.2.2.2.2.2.2.1) (q.resolve_left (by decide)),
        fun q => (hJ.2.2.2.2.2.2.2.2.2.2.2.2.2.2.2) (q.resolve_left (by decide))⟩
    refine StepsOk.cons (i := 4) rfl (fun L x G w1 K Q hn hp hJ hK => ?_) ?_
    · skip
      have p3 : L 3 := hp ⟨3, .data⟩ (by simp) rfl
      have e3 := (hJ.2.2.2.2.2.2.2.2.2.2.1) p3
      simp only [putAll, Act.put, List.setIfInBounds_toArray, List.set_cons_zero, List.set_cons_succ]
      go_simp
      refine hK _ G _ (by kernel_rfl) ?_
      exact ⟨(hJ.1),
        (hJ.2.1),
        (hJ.2.2.1),
        fun q => (hJ.2.2.2.1) (q.resolve_left (by decide)),
        fun q n => (hJ.2.2.2.2.1) (q.resolve_left (by decide)) (fun m => n (.inr m)),
        fun q => (hJ.2.2.2.2.2.1) (q.resolve_left (by decide)),
        fun q => .inr ((hJ.2.2.2.2.2.2.1) (q.resolve_left (by decide))),
        fun q => (hJ.2.2.2.2.2.2.2.1) (q.resolve_left (by decide)),
        fun q => (hJ.2.2.2.2.2.2.2.2.1) (q.resolve_left (by decide)),
        fun q => (hJ.2.2.2.2.2.2.2.2.2.1) (q.resolve_left (by decide)),
        fun _ => by first | exact rfl | exact e3,
        fun _ => rfl,
        fun q => (hJ.2.2.2.2.2.2.2.2.2.2.2.2.1) (q.resolve_left (by decide)),
        fun q => (hJ.2.2.2.2.2.2.2.2.2.2.2.2.2.1) (q.resolve_left (by decide)),
        fun q => (hJ.2.2.2.2.2.2.2.2.2.2.2.2.2.2.1) (q.resolve_left (by decide)),
        fun q => (hJ.2.2.2.2.2.2.2.2.2.2.2.2.2.2.2) (q.resolve_left (by decide))⟩
    refine StepsOk.cons (i := 5) rfl (fun L x G w1 K Q hn hp hJ hK => ?_) ?_
    · skip
      have p4 : L 4 := hp ⟨4, .data⟩ (by simp) rfl
      have e4 := (hJ.2.2.2.2.2.2.2.2.2.2.2.1) p4
      simp only [putAll, Act.put, List.setIfInBounds_toArray, List.set_cons_zero, List.set_cons_succ]
      go_simp
      refine hK _ G _ (by kernel_rfl) ?_
      exact ⟨(hJ.1),
        (hJ.2.1),
        (hJ.2.2.1),
        fun q => (hJ.2.2.2.1) (q.resolve_left (by decide)),
        fun q n => (hJ.2.2.2.2.1) (q.resolve_left (by decide)) (fun m => n (.inr m)),
        fun q => (hJ.2.2.2.2.2.1) (q.resolve_left (by decide)),
        fun q => .inr ((hJ.2.2.2.2.2.2.1) (q.resolve_left (by decide))),
        fun q => (hJ.2.2.2.2.2.2.2.1) (q.resolve_left (by decide)),
        fun q => (hJ.2.2.2.2.2.2.2.2.1) (q.resolve_left (by decide)),
        fun q => (hJ.2.2.2.2.2.2.2.2.2.1) (q.resolve_left (by decide)),
        fun q => (hJ.2.2.2.2.2.2.2.2.2.2.1) (q.resolve_left (by decide)),
        fun _ => by first | exact rfl | exact e4,
        fun _ => rfl,
        fun q => (hJ.2.2.2.2.2.2.2.2.2.2.2.2.2.1) (q.resolve_left (by decide)),
        fun q => (hJ.2.2.2.2.2.2.2.2.2.2.2.2.2.2.1) (q.resolve_left (by decide)),
        fun q => (hJ.2.2.2.2.2.2.2.2.2.2.2.2.2.2.2) (q.resolve_left (by decide))⟩
    refine StepsOk.cons (i := 6) rfl (fun L x G w1 K Q hn hp hJ hK => ?_) ?_
    · skip
      have p4 : L 4 := hp ⟨4, .data⟩ (by simp) rfl
      have e4 := (hJ.2.2.2.2.2.2.2.2.2.2.2.1) p4
      simp only [putAll, Act.put, List.setIfInBounds_toArray, List.set_cons_zero, List.set_cons_succ]
      go_simp
      refine hK _ G _ (by kernel_rfl) ?_
      exact ⟨(hJ.1),
        (hJ.2.1),
        (hJ.2.2.1),
        fun q => (hJ.2.2.2.1) (q.resolve_left (by decide)),
        fun q n => (hJ.2.2.2.2.1) (q.resolve_left (by decide)) (fun m => n (.inr m)),
        fun q => (hJ.2.2.2.2.2.1) (q.resolve_left (by decide)),
        fun q => .inr ((hJ.2.2.2.2.2.2.1) (q.resolve_left (by decide))),
        fun q => (hJ.2.2.2.2.2.2.2.1) (q.resolve_left (by decide)),
        fun q => (hJ.2.2.2.2.2.2.2.2.1) (q.resolve_left (by decide)),
        fun q => (hJ.2.2.2.2.2.2.2.2.2.1) (q.resolve_left (by decide)),
        fun q => (hJ.2.2.2.2.2.2.2.2.2.2.1) (q.resolve_left (by decide)),
        fun _ => by first | exact rfl | exact e4,
        fun q => (hJ.2.2.2.2.2.2.2.2.2.2.2.2.1) (q.resolve_left (by decide)),
        fun _ => rfl,
        fun q => (hJ.2.2.2.2.2.2.2.2.2.2.2.2.2.2.1) (q.resolve_left (by decide)),
        fun q => (hJ.2.2.2.2.2.2.2.2.2.2.2.2.2.2.2) (q.resolve_left (by decide))⟩
    refine StepsOk.cons (i := 7) rfl (fun L x G w1 K Q hn hp hJ hK => ?_) ?_
    · skip
      simp only [putAll, Act.put, List.setIfInBounds_toArray, List.set_cons_zero, List.set_cons_succ]
      go_simp
      refine hK _ (fun t => if t = 7 then w1.heap.size else G t) _ (by kernel_rfl) ?_
      exact ⟨bal (hJ.1) _,
        by simp; omega,
        Blk.alloc ((hJ.2.2.1)) _,
        fun _ => ⟨(hJ.1).size, by simp, Nat.ne_of_lt (hJ.2.1)⟩,
        fun _ _ => Blk.new w1 _ _,
        fun q => absurd ((hJ.2.2.2.2.2.2.1) (q.resolve_left (by decide))) hn,
        fun q => .inr ((hJ.2.2.2.2.2.2.1) (q.resolve_left (by decide))),
        fun q => (hJ.2.2.2.2.2.2.2.1) (q.resolve_left (by decide)),
        fun q => (hJ.2.2.2.2.2.2.2.2.1) (q.resolve_left (by decide)),
        fun q => (hJ.2.2.2.2.2.2.2.2.2.1) (q.resolve_left (by decide)),
        fun q => (hJ.2.2.2.2.2.2.2.2.2.2.1) (q.resolve_left (by decide)),
        fun q => (hJ.2.2.2.2.2.2.2.2.2.2.2.1) (q.resolve_left (by decide)),
        fun q => (hJ.2.2.2.2.2.2.2.2.2.2.2.2.1) (q.resolve_left (by decide)),
        fun q => (hJ.2.2.2.2.2.2.2.2.2.2.2.2.2.1) (q.resolve_left (by decide)),
        fun _ => rfl,
        fun q => (hJ.2.2.2.2.2.2.2.2.2.2.2.2.2.2.2) (q.resolve_left (by decide))⟩
    refine StepsOk.cons (i := 8) rfl (fun L x G w1 K Q hn hp hJ hK => ?_) ?_
    · skip
      have p5 : L 5 := hp ⟨5, .data⟩ (by simp) rfl
      have e5 := (hJ.2.2.2.2.2.2.2.2.2.2.2.2.1) p5
      have p7 : L 7 := hp ⟨7, .data⟩ (by simp) rfl
      have e7 := (hJ.2.2.2.2.2.2.2.2.2.2.2.2.2.2.1) p7
      have hc := Blk.open2 (((hJ.2.2.2.2.1) p7 hn))
      have c0 := hc.1
      have c1 := hc.2.1
      have c2 := hc.2.2.1
      have c3 := hc.2.2.2
      clear hc
      simp only [putAll, Act.put, List.setIfInBounds_toArray, List.set_cons_zero, List.set_cons_succ]
      go_simp
      refine hK _ G _ (by kernel_rfl) ?_
      exact ⟨bst (bst ((hJ.1)) (p := ⟨G 7, 0, none⟩) ((hJ.2.2.2.1) p7).1 (.int .i64 (Wi.Hq (qq)))) (p := ⟨G 7, 1, none⟩) ((hJ.2.2.2.1) p7).1 (.int .u64 (Wi.Lr (qq))),
        by simpa using (hJ.2.1),
        Blk.far (Blk.far ((hJ.2.2.1)) (p := ⟨G 7, 0, none⟩) (((hJ.2.2.2.1) p7).2.2) (.int .i64 (Wi.Hq (qq)))) (p := ⟨G 7, 1, none⟩) (((hJ.2.2.2.1) p7).2.2) (.int .u64 (Wi.Lr (qq))),
        fun q => ⟨((hJ.2.2.2.1) (q.resolve_left (by decide))).1, by have := ((hJ.2.2.2.1) (q.resolve_left (by decide))).2.1; simpa using this, ((hJ.2.2.2.1) (q.resolve_left (by decide))).2.2⟩,
        fun _ n => absurd (.inl rfl) n,
        fun _ => by simpa using Blk.set_ (Blk.set_ (((hJ.2.2.2.2.1) p7 hn)) 0 (.int .i64 (Wi.Hq (qq)))) 1 (.int .u64 (Wi.Lr (qq))),
        fun _ => .inr p7,
        fun q => (hJ.2.2.2.2.2.2.2.1) (q.resolve_left (by decide)),
        fun q => (hJ.2.2.2.2.2.2.2.2.1) (q.resolve_left (by decide)),
        fun q => (hJ.2.2.2.2.2.2.2.2.2.1) (q.resolve_left (by decide)),
        fun q => (hJ.2.2.2.2.2.2.2.2.2.2.1) (q.resolve_left (by decide)),
        fun q => (hJ.2.2.2.2.2.2.2.2.2.2.2.1) (q.resolve_left (by decide)),
        fun _ => by first | exact rfl | exact e5,
        fun q => (hJ.2.2.2.2.2.2.2.2.2.2.2.2.2.1) (q.resolve_left (by decide)),
        fun _ => by first | exact rfl | exact e7,
        fun q => (hJ.2.2.2.2.2.2.2.2.2.2.2.2.2.2.2) (q.resolve_left (by decide))⟩
    refine StepsOk.cons (i := 9) rfl (fun L x G w1 K Q hn hp hJ hK => ?_) ?_
    · skip
      have p6 : L 6 := hp ⟨6, .data⟩ (by simp) rfl
      have e6 := (hJ.2.2.2.2.2.2.2.2.2.2.2.2.2.1) p6
      simp only [putAll, Act.put, List.setIfInBounds_toArray, List.set_cons_zero, List.set_cons_succ]
      go_simp
      refine hK _ G _ (by kernel_rfl) ?_
      exact ⟨(hJ.1),
        (hJ.2.1),
        (hJ.2.2.1),
        fun q => (hJ.2.2.2.1) (q.resolve_left (by decide)),
        fun q n => (hJ.2.2.2.2.1) (q.resolve_left (by decide)) (fun m => n (.inr m)),
        fun q => (hJ.2.2.2.2.2.1) (q.resolve_left (by decide)),
        fun q => .inr ((hJ.2.2.2.2.2.2.1) (q.resolve_left (by decide))),
        fun q => (hJ.2.2.2.2.2.2.2.1) (q.resolve_left (by decide)),
        fun q => (hJ.2.2.2.2.2.2.2.2.1) (q.resolve_left (by decide)),
        fun q => (hJ.2.2.2.2.2.2.2.2.2.1) (q.resolve_left (by decide)),
        fun q => (hJ.2.2.2.2.2.2.2.2.2.2.1) (q.resolve_left (by decide)),
        fun q => (hJ.2.2.2.2.2.2.2.2.2.2.2.1) (q.resolve_left (by decide)),
        fun q => (hJ.2.2.2.2.2.2.2.2.2.2.2.2.1) (q.resolve_left (by decide)),
        fun _ => by first | exact rfl | exact e6,
        fun q => (hJ.2.2.2.2.2.2.2.2.2.2.2.2.2.2.1) (q.resolve_left (by decide)),
        fun _ => rfl⟩
    exact StepsOk.nil
  case fin =>
    intro L x G w2 hall hJ
    replace X := (hJ.2.2.1)
    obtain ⟨haP, hlP, hnPX⟩ := (hJ.2.2.2.1) (hall 7 (by decide))
    have P := (hJ.2.2.2.2.2.1) (hall 8 (by decide))
    have u0 := hJ.2.2.2.2.2.2.2.1 (hall 0 (by decide))
    have u1 := hJ.2.2.2.2.2.2.2.2.1 (hall 1 (by decide))
    have u2 := hJ.2.2.2.2.2.2.2.2.2.1 (hall 2 (by decide))
    have u3 := hJ.2.2.2.2.2.2.2.2.2.2.1 (hall 3 (by decide))
    have u4 := hJ.2.2.2.2.2.2.2.2.2.2.2.1 (hall 4 (by decide))
    have u5 := hJ.2.2.2.2.2.2.2.2.2.2.2.2.1 (hall 5 (by decide))
    have u6 := hJ.2.2.2.2.2.2.2.2.2.2.2.2.2.1 (hall 6 (by decide))
    have u7 := hJ.2.2.2.2.2.2.2.2.2.2.2.2.2.2.1 (hall 7 (by decide))
    have u9 := hJ.2.2.2.2.2.2.2.2.2.2.2.2.2.2.2 (hall 9 (by decide))
    replace hB := hJ.1
    simp only [putAll, Act.put, List.setIfInBounds_toArray, List.set_cons_zero, List.set_cons_succ]
    simp only [u0, u1, u2, u3, u4, u5, u6, u7, u9]
    clear hall hJ u0 u1 u2 u3 u4 u5 u6 u7 u9
    generalize G 7 = gP at *
    obtain ⟨q0_, q1_, q2_, q3_⟩ := X.open2
    obtain ⟨c00, c01, c02, c03⟩ := P.open2
    go_wp2_with fail
    refine (times_c _ _ _ _ _ wq a1 a2).mono ?_
    rw [f3.out, f4.out]
    rintro e w3 ⟨rfl, hb⟩
    clear c00 c01 c02 c03
    replace X := X.keep hb
    replace P := P.keep hb
    replace hB := bt hB hb
    clear hb
    have hz3 := hB.size
    have l3X := X.lt
    have l3P := P.lt
    replace X := X.alloc (.cells #[.int .i64 (Wi.Hq (qq * a)), .int .u64 (Wi.Lr (qq * a))] 24)
    replace P := P.alloc (.cells #[.int .i64 (Wi.Hq (qq * a)), .int .u64 (Wi.Lr (qq * a))] 24)
    replace hB := bal hB (.cells #[.int .i64 (Wi.Hq (qq * a)), .int .u64 (Wi.Lr (qq * a))] 24)
    have R := Blk.new w3 24 #[.int .i64 (Wi.Hq (qq * a)), .int .u64 (Wi.Lr (qq * a))]
    clear q0_ q1_ q2_ q3_
    obtain ⟨c00, c01, c02, c03⟩ := X.open2
    obtain ⟨c10, c11, c12, c13⟩ := R.open2
    go_wp2_with fail
    refine (sub_c _ _ _ _ _ _ _ H wm).mono ?_
    rw [f5.out, f6.out]
    rintro e w4 ⟨rfl, hb⟩
    clear c00 c01 c02 c03 c10 c11 c12 c13
    replace X := X.keep hb
    replace P := P.keep hb
    replace R := R.keep hb
    replace hB := bt hB hb
    clear hb
    have hz4 := hB.size
    have l4X := X.lt
    have l4P := P.lt
    have l4R := R.lt
    replace X := X.alloc (.cells #[.int .i64 (Wi.Hq (rr)), .int .u64 (Wi.Lr (rr))] 24)
    replace P := P.alloc (.cells #[.int .i64 (Wi.Hq (rr)), .int .u64 (Wi.Lr (rr))] 24)
    replace R := R.alloc (.cells #[.int .i64 (Wi.Hq (rr)), .int .u64 (Wi.Lr (rr))] 24)
    replace hB := bal hB (.cells #[.int .i64 (Wi.Hq (rr)), .int .u64 (Wi.Lr (rr))] 24)
    have S := Blk.new w4 24 #[.int .i64 (Wi.Hq (rr)), .int .u64 (Wi.Lr (rr))]
    go_wp2_with fail
    clear X P R
    generalize World.alloc w4 _ = wS at S hB ⊢
    generalize w4.heap.size = gS at S ⊢
    refine wp_region_inv (fun L x G wx => Below wS.heap.size wS wx
          ∧ (L 0 → x 50 = .bool (true))
          ∧ (L 1 → x 51 = .bool (true))
          ∧ (L 2 → x 52 = .bool (true))
          ∧ (L 3 → x 53 = .bool (true))
          ∧ (L 4 → x 54 = .bool (true))
          ∧ (L 5 → x 55 = .bool (true))
          ∧ (L 6 → x 56 = .bool (true))
          ∧ (L 7 → x 57 = .bool (true))
          ∧ (L 8 → x 58 = .agg #[.int .i64 (Wi.Hq (rr)), .int .u64 (Wi.Lr (rr))])
          ∧ (L 9 → x 59 = .int .i64 (0))
          ∧ (L 10 → x 60 = .bool (true))
          ∧ (L 11 → x 61 = .bool (true))
          ∧ (L 12 → x 62 = .bool (true))
          ∧ (L 13 → x 63 = .agg #[.int .i64 (Wi.Hq (rr)), .int .u64 (Wi.Lr (rr))])
          ∧ (L 14 → x 64 = .int .i64 (a))
          ∧ (L 15 → x 65 = .agg #[.int .i64 (Wi.Hq (a)), .int .u64 (Wi.Lr (a))])
          ∧ (L 16 → x 66 = .int .i64 (-1))
          ∧ (L 17 → x 67 = .bool (true))
          ∧ (L 18 → x 68 = .bool (true))
          ∧ (L 19 → x 4 = .bool (true))) [50, 51, 52, 53, 54, 55, 56, 57, 58, 59, 60, 61, 62, 63, 64, 65, 66, 67, 68, 4] 20 (by kernel_rfl) (by kernel_rfl) (by kernel_rfl) ?h0 ?st ?fin
    case h0 =>
      exact ⟨bdr (Below.refl _ _), fun q => q.elim, fun q => q.elim, fun q => q.elim, fun q => q.elim, fun q => q.elim, fun q => q.elim, fun q => q.elim, fun q => q.elim, fun q => q.elim, fun q => q.elim, fun q => q.elim, fun q => q.elim, fun q => q.elim, fun q => q.elim, fun q => q.elim, fun q => q.elim, fun q => q.elim, fun q => q.elim, fun q => q.elim, fun q => q.elim⟩
    case st =>
      refine StepsOk.cons (i := 0) rfl (fun L x G w1 K Q hn hp hJ hK => ?_) ?_
      · skip
        simp only [putAll, Act.put, List.setIfInBounds_toArray, List.set_cons_zero, List.set_cons_succ]
        go_simp
        refine hK _ G _ (by kernel_rfl) ?_
        exact ⟨(hJ.1),
          fun _ => rfl,
          fun q => (hJ.2.2.1) (q.resolve_left (by decide)),
          fun q => (hJ.2.2.2.1) (q.resolve_left (by decide)),
          fun q => (hJ.2.2.2.2.1) (q.resolve_left (by decide)),
          fun q => (hJ.2.2.2.2.2.1) (q.resolve_left (by decide)),
          fun q => (hJ.2.2.2.2.2.2.1) (q.resolve_left (by decide)),
          fun q => (hJ.2.2.2.2.2.2.2.1) (q.resolve_left (by decide)),
          fun q => (hJ.2.2.2.2.2.2.2.2.1) (q.resolve_left (by decide)),
          fun q => (hJ.2.2.2.2.2.2.2.2.2.1) (q.resolve_left (by decide)),
          fun q => (hJ.2.2.2.2.2.2.2.2.2.2.1) (q.resolve_left (by decide)),
          fun q => (hJ.2.2.2.2.2.2.2.2.2.2.2.1) (q.resolve_left (by decide)),
          fun q => (hJ.2.2.2.2.2.2.2.2.2.2.2.2.1) (q.resolve_left (by decide)),
          fun q => (hJ.2.2.2.2.2.2.2.2.2.2.2.2.2.1) (q.resolve_left (by decide)),
          fun q => (hJ.2.2.2.2.2.2.2.2.2.2.2.2.2.2.1) (q.resolve_left (by decide)),
          fun q => (hJ.2.2.2.2.2.2.2.2.2.2.2.2.2.2.2.1) (q.resolve_left (by decide)),
          fun q => (hJ.2.2.2.2.2.2.2.2.2.2.2.2.2.2.2.2.1) (q.resolve_left (by decide)),
          fun q => (hJ.2.2.2.2.2.2.2.2.2.2.2.2.2.2.2.2.2.1) (q.resolve_left (by decide)),
          fun q => (hJ.2.2.2.2.2.2.2.2.2.2.2.2.2.2.2.2.2.2.1) (q.resolve_left (by decide)),
          fun q => (hJ.2.2.2.2.2.2.2.2.2.2.2.2.2.2.2.2.2.2.2.1) (q.resolve_left (by decide)),
          fun q => (hJ.2.2.2.2.2.2.2.2.2.2.2.2.2.2.2.2.2.2.2.2) (q.resolve_left (by decide))⟩
      refine StepsOk.cons (i := 1) rfl (fun L x G w1 K Q hn hp hJ hK => ?_) ?_
      · skip
        have p0 : L 0 := hp ⟨0, .data⟩ (by simp) rfl
        have e0 := (hJ.2.1) p0
        simp only [putAll, Act.put, List.setIfInBounds_toArray, List.set_cons_zero, List.set_cons_succ]
        go_simp
        refine hK _ G _ (by kernel_rfl) ?_
        exact ⟨(hJ.1),
          fun _ => by first | exact rfl | exact e0,
          fun _ => rfl,
          fun q => (hJ.2.2.2.1) (q.resolve_left (by decide)),
          fun q => (hJ.2.2.2.2.1) (q.resolve_left (by decide)),
          fun q => (hJ.2.2.2.2.2.1) (q.resolve_left (by decide)),
          fun q => (hJ.2.2.2.2.2.2.1) (q.resolve_left (by decide)),
          fun q => (hJ.2.2.2.2.2.2.2.1) (q.resolve_left (by decide)),
          fun q => (hJ.2.2.2.2.2.2.2.2.1) (q.resolve_left (by decide)),
          fun q => (hJ.2.2.2.2.2.2.2.2.2.1) (q.resolve_left (by decide)),
          fun q => (hJ.2.2.2.2.2.2.2.2.2.2.1) (q.resolve_left (by decide)),
          fun q => (hJ.2.2.2.2.2.2.2.2.2.2.2.1) (q.resolve_left (by decide)),
          fun q => (hJ.2.2.2.2.2.2.2.2.2.2.2.2.1) (q.resolve_left (by decide)),
          fun q => (hJ.2.2.2.2.2.2.2.2.2.2.2.2.2.1) (q.resolve_left (by decide)),
          fun q => (hJ.2.2.2.2.2.2.2.2.2.2.2.2.2.2.1) (q.resolve_left (by decide)),
          fun q => (hJ.2.2.2.2.2.2.2.2.2.2.2.2.2.2.2.1) (q.resolve_left (by decide)),
          fun q => (hJ.2.2.2.2.2.2.2.2.2.2.2.2.2.2.2.2.1) (q.resolve_left (by decide)),
          fun q => (hJ.2.2.2.2.2.2.2.2.2.2.2.2.2.2.2.2.2.1) (q.resolve_left (by decide)),
          fun q => (hJ.2.2.2.2.2.2.2.2.2.2.2.2.2.2.2.2.2.2.1) (q.resolve_left (by decide)),
          fun q => (hJ.2.2.2.2.2.2.2.2.2.2.2.2.2.2.2.2.2.2.2.1) (q.resolve_left (by decide)),
          fun q => (hJ.2.2.2.2.2.2.2.2.2.2.2.2.2.2.2.2.2.2.2.2) (q.resolve_left (by decide))⟩
      refine StepsOk.consT (i := 2) 1 51 true rfl rfl (by kernel_rfl) (fun L x G w1 hp hJ => hJ.2.2.1 (hp ⟨1, .guard⟩ (by simp) rfl)) (fun L x G w1 K Q hn hp hJ hK => ?_) ?_
      · skip
        simp only [putAll, Act.put, List.setIfInBounds_toArray, List.set_cons_zero, List.set_cons_succ]
        go_simp
        refine hK _ G _ (by kernel_rfl) ?_
        exact ⟨(hJ.1),
          fun q => (hJ.2.1) (q.resolve_left (by decide)),
          fun q => (hJ.2.2.1) (q.resolve_left (by decide)),
          fun _ => rfl,
          fun q => (hJ.2.2.2.2.1) (q.resolve_left (by decide)),
          fun q => (hJ.2.2.2.2.2.1) (q.resolve_left (by decide)),
          fun q => (hJ.2.2.2.2.2.2.1) (q.resolve_left (by decide)),
          fun q => (hJ.2.2.2.2.2.2.2.1) (q.resolve_left (by decide)),
          fun q => (hJ.2.2.2.2.2.2.2.2.1) (q.resolve_left (by decide)),
          fun q => (hJ.2.2.2.2.2.2.2.2.2.1) (q.resolve_left (by decide)),
          fun q => (hJ.2.2.2.2.2.2.2.2.2.2.1) (q.resolve_left (by decide)),
          fun q => (hJ.2.2.2.2.2.2.2.2.2.2.2.1) (q.resolve_left (by decide)),
          fun q => (hJ.2.2.2.2.2.2.2.2.2.2.2.2.1) (q.resolve_left (by decide)),
          fun q => (hJ.2.2.2.2.2.2.2.2.2.2.2.2.2.1) (q.resolve_left (by decide)),
          fun q => (hJ.2.2.2.2.2.2.2.2.2.2.2.2.2.2.1) (q.resolve_left (by decide)),
          fun q => (hJ.2.2.2.2.2.2.2.2.2.2.2.2.2.2.2.1) (q.resolve_left (by decide)),
          fun q => (hJ.2.2.2.2.2.2.2.2.2.2.2.2.2.2.2.2.1) (q.resolve_left (by decide)),
          fun q => (hJ.2.2.2.2.2.2.2.2.2.2.2.2.2.2.2.2.2.1) (q.resolve_left (by decide)),
          fun q => (hJ.2.2.2.2.2.2.2.2.2.2.2.2.2.2.2.2.2.2.1) (q.resolve_left (by decide)),
          fun q => (hJ.2.2.2.2.2.2.2.2.2.2.2.2.2.2.2.2.2.2.2.1) (q.resolve_left (by decide)),
          fun q => (hJ.2.2.2.2.2.2.2.2.2.2.2.2.2.2.2.2.2.2.2.2) (q.resolve_left (by decide))⟩
      refine StepsOk.cons (i := 3) rfl (fun L x G w1 K Q hn hp hJ hK => ?_) ?_
      · skip
        have p1 : L 1 := hp ⟨1, .data⟩ (by simp) rfl
        have e1 := (hJ.2.2.1) p1
        have p2 : L 2 := hp ⟨2, .data⟩ (by simp) rfl
        have e2 := (hJ.2.2.2.1) p2
        simp only [putAll, Act.put, List.setIfInBounds_toArray, List.set_cons_zero, List.set_cons_succ]
        go_simp
        refine hK _ G _ (by kernel_rfl) ?_
        exact ⟨(hJ.1),
          fun q => (hJ.2.1) (q.resolve_left (by decide)),
          fun _ => by first | exact rfl | exact e1,
          fun _ => by first | exact rfl | exact e2,
          fun _ => rfl,
          fun q => (hJ.2.2.2.2.2.1) (q.resolve_left (by decide)),
          fun q => (hJ.2.2.2.2.2.2.1) (q.resolve_left (by decide)),
          fun q => (hJ.2.2.2.2.2.2.2.1) (q.resolve_left (by decide)),
          fun q => (hJ.2.2.2.2.2.2.2.2.1) (q.resolve_left (by decide)),
          fun q => (hJ.2.2.2.2.2.2.2.2.2.1) (q.resolve_left (by decide)),
          fun q => (hJ.2.2.2.2.2.2.2.2.2.2.1) (q.resolve_left (by decide)),
          fun q => (hJ.2.2.2.2.2.2.2.2.2.2.2.1) (q.resolve_left (by decide)),
          fun q => (hJ.2.2.2.2.2.2.2.2.2.2.2.2.1) (q.resolve_left (by decide)),
          fun q => (hJ.2.2.2.2.2.2.2.2.2.2.2.2.2.1) (q.resolve_left (by decide)),
          fun q => (hJ.2.2.2.2.2.2.2.2.2.2.2.2.2.2.1) (q.resolve_left (by decide)),
          fun q => (hJ.2.2.2.2.2.2.2.2.2.2.2.2.2.2.2.1) (q.resolve_left (by decide)),
          fun q => (hJ.2.2.2.2.2.2.2.2.2.2.2.2.2.2.2.2.1) (q.resolve_left (by decide)),
          fun q => (hJ.2.2.2.2.2.2.2.2.2.2.2.2.2.2.2.2.2.1) (q.resolve_left (by decide)),
          fun q => (hJ.2.2.2.2.2.2.2.2.2.2.2.2.2.2.2.2.2.2.1) (q.resolve_left (by decide)),
          fun q => (hJ.2.2.2.2.2.2.2.2.2.2.2.2.2.2.2.2.2.2.2.1) (q.resolve_left (by decide)),
          fun q => (hJ.2.2.2.2.2.2.2.2.2.2.2.2.2.2.2.2.2.2.2.2) (q.resolve_left (by decide))⟩
      refine StepsOk.cons (i := 4) rfl (fun L x G w1 K Q hn hp hJ hK => ?_) ?_
      · skip
        have p3 : L 3 := hp ⟨3, .data⟩ (by simp) rfl
        have e3 := (hJ.2.2.2.2.1) p3
        simp only [putAll, Act.put, List.setIfInBounds_toArray, List.set_cons_zero, List.set_cons_succ]
        go_simp
        refine hK _ G _ (by kernel_rfl) ?_
        exact ⟨(hJ.1),
          fun q => (hJ.2.1) (q.resolve_left (by decide)),
          fun q => (hJ.2.2.1) (q.resolve_left (by decide)),
          fun q => (hJ.2.2.2.1) (q.resolve_left (by decide)),
          fun _ => by first | exact rfl | exact e3,
          fun _ => rfl,
          fun q => (hJ.2.2.2.2.2.2.1) (q.resolve_left (by decide)),
          fun q => (hJ.2.2.2.2.2.2.2.1) (q.resolve_left (by decide)),
          fun q => (hJ.2.2.2.2.2.2.2.2.1) (q.resolve_left (by decide)),
          fun q => (hJ.2.2.2.2.2.2.2.2.2.1) (q.resolve_left (by decide)),
          fun q => (hJ.2.2.2.2.2.2.2.2.2.2.1) (q.resolve_left (by decide)),
          fun q => (hJ.2.2.2.2.2.2.2.2.2.2.2.1) (q.resolve_left (by decide)),
          fun q => (hJ.2.2.2.2.2.2.2.2.2.2.2.2.1) (q.resolve_left (by decide)),
          fun q => (hJ.2.2.2.2.2.2.2.2.2.2.2.2.2.1) (q.resolve_left (by decide)),
          fun q => (hJ.2.2.2.2.2.2.2.2.2.2.2.2.2.2.1) (q.resolve_left (by decide)),
          fun q => (hJ.2.2.2.2.2.2.2.2.2.2.2.2.2.2.2.1) (q.resolve_left (by decide)),
          fun q => (hJ.2.2.2.2.2.2.2.2.2.2.2.2.2.2.2.2.1) (q.resolve_left (by decide)),
          fun q => (hJ.2.2.2.2.2.2.2.2.2.2.2.2.2.2.2.2.2.1) (q.resolve_left (by decide)),
          fun q => (hJ.2.2.2.2.2.2.2.2.2.2.2.2.2.2.2.2.2.2.1) (q.resolve_left (by decide)),
          fun q => (hJ.2.2.2.2.2.2.2.2.2.2.2.2.2.2.2.2.2.2.2.1) (q.resolve_left (by decide)),
          fun q => (hJ.2.2.2.2.2.2.2.2.2.2.2.2.2.2.2.2.2.2.2.2) (q.resolve_left (by decide))⟩
      refine StepsOk.consT (i := 5) 4 54 true rfl rfl (by kernel_rfl) (fun L x G w1 hp hJ => hJ.2.2.2.2.2.1 (hp ⟨4, .guard⟩ (by simp) rfl)) (fun L x G w1 K Q hn hp hJ hK => ?_) ?_
      · skip
        simp only [putAll, Act.put, List.setIfInBounds_toArray, List.set_cons_zero, List.set_cons_succ]
        go_simp
        refine hK _ G _ (by kernel_rfl) ?_
        exact ⟨(hJ.1),
          fun q => (hJ.2.1) (q.resolve_left (by decide)),
          fun q => (hJ.2.2.1) (q.resolve_left (by decide)),
          fun q => (hJ.2.2.2.1) (q.resolve_left (by decide)),
          fun q => (hJ.2.2.2.2.1) (q.resolve_left (by decide)),
          fun q => (hJ.2.2.2.2.2.1) (q.resolve_left (by decide)),
          fun _ => rfl,
          fun q => (hJ.2.2.2.2.2.2.2.1) (q.resolve_left (by decide)),
          fun q => (hJ.2.2.2.2.2.2.2.2.1) (q.resolve_left (by decide)),
          fun q => (hJ.2.2.2.2.2.2.2.2.2.1) (q.resolve_left (by decide)),
          fun q => (hJ.2.2.2.2.2.2.2.2.2.2.1) (q.resolve_left (by decide)),
          fun q => (hJ.2.2.2.2.2.2.2.2.2.2.2.1) (q.resolve_left (by decide)),
          fun q => (hJ.2.2.2.2.2.2.2.2.2.2.2.2.1) (q.resolve_left (by decide)),
          fun q => (hJ.2.2.2.2.2.2.2.2.2.2.2.2.2.1) (q.resolve_left (by decide)),
          fun q => (hJ.2.2.2.2.2.2.2.2.2.2.2.2.2.2.1) (q.resolve_left (by decide)),
          fun q => (hJ.2.2.2.2.2.2.2.2.2.2.2.2.2.2.2.1) (q.resolve_left (by decide)),
          fun q => (hJ.2.2.2.2.2.2.2.2.2.2.2.2.2.2.2.2.1) (q.resolve_left (by decide)),
          fun q => (hJ.2.2.2.2.2.2.2.2.2.2.2.2.2.2.2.2.2.1) (q.resolve_left (by decide)),
          fun q => (hJ.2.2.2.2.2.2.2.2.2.2.2.2.2.2.2.2.2.2.1) (q.resolve_left (by decide)),
          fun q => (hJ.2.2.2.2.2.2.2.2.2.2.2.2.2.2.2.2.2.2.2.1) (q.resolve_left (by decide)),
          fun q => (hJ.2.2.2.2.2.2.2.2.2.2.2.2.2.2.2.2.2.2.2.2) (q.resolve_left (by decide))⟩
      refine StepsOk.cons (i := 6) rfl (fun L x G w1 K Q hn hp hJ hK => ?_) ?_
      · skip
        have p4 : L 4 := hp ⟨4, .data⟩ (by simp) rfl
        have e4 := (hJ.2.2.2.2.2.1) p4
        have p5 : L 5 := hp ⟨5, .data⟩ (by simp) rfl
        have e5 := (hJ.2.2.2.2.2.2.1) p5
        simp only [putAll, Act.put, List.setIfInBounds_toArray, List.set_cons_zero, List.set_cons_succ]
        go_simp
        refine hK _ G _ (by kernel_rfl) ?_
        exact ⟨(hJ.1),
          fun q => (hJ.2.1) (q.resolve_left (by decide)),
          fun q => (hJ.2.2.1) (q.resolve_left (by decide)),
          fun q => (hJ.2.2.2.1) (q.resolve_left (by decide)),
          fun q => (hJ.2.2.2.2.1) (q.resolve_left (by decide)),
          fun _ => by first | exact rfl | exact e4,
          fun _ => by first | exact rfl | exact e5,
          fun _ => rfl,
          fun q => (hJ.2.2.2.2.2.2.2.2.1) (q.resolve_left (by decide)),
          fun q => (hJ.2.2.2.2.2.2.2.2.2.1) (q.resolve_left (by decide)),
          fun q => (hJ.2.2.2.2.2.2.2.2.2.2.1) (q.resolve_left (by decide)),
          fun q => (hJ.2.2.2.2.2.2.2.2.2.2.2.1) (q.resolve_left (by decide)),
          fun q => (hJ.2.2.2.2.2.2.2.2.2.2.2.2.1) (q.resolve_left (by decide)),
          fun q => (hJ.2.2.2.2.2.2.2.2.2.2.2.2.2.1) (q.resolve_left (by decide)),
          fun q => (hJ.2.2.2.2.2.2.2.2.2.2.2.2.2.2.1) (q.resolve_left (by decide)),
          fun q => (hJ.2.2.2.2.2.2.2.2.2.2.2.2.2.2.2.1) (q.resolve_left (by decide)),
          fun q => (hJ.2.2.2.2.2.2.2.2.2.2.2.2.2.2.2.2.1) (q.resolve_left (by decide)),
          fun q => (hJ.2.2.2.2.2.2.2.2.2.2.2.2.2.2.2.2.2.1) (q.resolve_left (by decide)),
          fun q => (hJ.2.2.2.2.2.2.2.2.2.2.2.2.2.2.2.2.2.2.1) (q.resolve_left (by decide)),
          fun q => (hJ.2.2.2.2.2.2.2.2.2.2.2.2.2.2.2.2.2.2.2.1) (q.resolve_left (by decide)),
          fun q => (hJ.2.2.2.2.2.2.2.2.2.2.2.2.2.2.2.2.2.2.2.2) (q.resolve_left (by decide))⟩
      refine StepsOk.cons (i := 7) rfl (fun L x G w1 K Q hn hp hJ hK => ?_) ?_
      · skip
        have p6 : L 6 := hp ⟨6, .data⟩ (by simp) rfl
        have e6 := (hJ.2.2.2.2.2.2.2.1) p6
        simp only [putAll, Act.put, List.setIfInBounds_toArray, List.set_cons_zero, List.set_cons_succ]
        go_simp
        refine hK _ G _ (by kernel_rfl) ?_
        exact ⟨(hJ.1),
          fun q => (hJ.2.1) (q.resolve_left (by decide)),
          fun q => (hJ.2.2.1) (q.resolve_left (by decide)),
          fun q => (hJ.2.2.2.1) (q.resolve_left (by decide)),
          fun q => (hJ.2.2.2.2.1) (q.resolve_left (by decide)),
          fun q => (hJ.2.2.2.2.2.1) (q.resolve_left (by decide)),
          fun q => (hJ.2.2.2.2.2.2.1) (q.resolve_left (by decide)),
          fun _ => by first | exact rfl | exact e6,
          fun _ => rfl,
          fun q => (hJ.2.2.2.2.2.2.2.2.2.1) (q.resolve_left (by decide)),
          fun q => (hJ.2.2.2.2.2.2.2.2.2.2.1) (q.resolve_left (by decide)),
          fun q => (hJ.2.2.2.2.2.2.2.2.2.2.2.1) (q.resolve_left (by decide)),
          fun q => (hJ.2.2.2.2.2.2.2.2.2.2.2.2.1) (q.resolve_left (by decide)),
          fun q => (hJ.2.2.2.2.2.2.2.2.2.2.2.2.2.1) (q.resolve_left (by decide)),
          fun q => (hJ.2.2.2.2.2.2.2.2.2.2.2.2.2.2.1) (q.resolve_left (by decide)),
          fun q => (hJ.2.2.2.2.2.2.2.2.2.2.2.2.2.2.2.1) (q.resolve_left (by decide)),
          fun q => (hJ.2.2.2.2.2.2.2.2.2.2.2.2.2.2.2.2.1) (q.resolve_left (by decide)),
          fun q => (hJ.2.2.2.2.2.2.2.2.2.2.2.2.2.2.2.2.2.1) (q.resolve_left (by decide)),
          fun q => (hJ.2.2.2.2.2.2.2.2.2.2.2.2.2.2.2.2.2.2.1) (q.resolve_left (by decide)),
          fun q => (hJ.2.2.2.2.2.2.2.2.2.2.2.2.2.2.2.2.2.2.2.1) (q.resolve_left (by decide)),
          fun q => (hJ.2.2.2.2.2.2.2.2.2.2.2.2.2.2.2.2.2.2.2.2) (q.resolve_left (by decide))⟩
      refine StepsOk.consT (i := 8) 7 57 true rfl rfl (by kernel_rfl) (fun L x G w1 hp hJ => hJ.2.2.2.2.2.2.2.2.1 (hp ⟨7, .guard⟩ (by simp) rfl)) (fun L x G w1 K Q hn hp hJ hK => ?_) ?_
      · skip
        have hc := ((S).keep (hJ.1)).open2
        have c0 := hc.1
        have c1 := hc.2.1
        clear hc
        simp only [putAll, Act.put, List.setIfInBounds_toArray, List.set_cons_zero, List.set_cons_succ]
        go_simp
        refine hK _ G _ (by kernel_rfl) ?_
        exact ⟨(hJ.1),
          fun q => (hJ.2.1) (q.resolve_left (by decide)),
          fun q => (hJ.2.2.1) (q.resolve_left (by decide)),
          fun q => (hJ.2.2.2.1) (q.resolve_left (by decide)),
          fun q => (hJ.2.2.2.2.1) (q.resolve_left (by decide)),
          fun q => (hJ.2.2.2.2.2.1) (q.resolve_left (by decide)),
          fun q => (hJ.2.2.2.2.2.2.1) (q.resolve_left (by decide)),
          fun q => (hJ.2.2.2.2.2.2.2.1) (q.resolve_left (by decide)),
          fun q => (hJ.2.2.2.2.2.2.2.2.1) (q.resolve_left (by decide)),
          fun _ => rfl,
          fun q => (hJ.2.2.2.2.2.2.2.2.2.2.1) (q.resolve_left (by decide)),
          fun q => (hJ.2.2.2.2.2.2.2.2.2.2.2.1) (q.resolve_left (by decide)),
          fun q => (hJ.2.2.2.2.2.2.2.2.2.2.2.2.1) (q.resolve_left (by decide)),
          fun q => (hJ.2.2.2.2.2.2.2.2.2.2.2.2.2.1) (q.resolve_left (by decide)),
          fun q => (hJ.2.2.2.2.2.2.2.2.2.2.2.2.2.2.1) (q.resolve_left (by decide)),
          fun q => (hJ.2.2.2.2.2.2.2.2.2.2.2.2.2.2.2.1) (q.resolve_left (by decide)),
          fun q => (hJ.2.2.2.2.2.2.2.2.2.2.2.2.2.2.2.2.1) (q.resolve_left (by decide)),
          fun q => (hJ.2.2.2.2.2.2.2.2.2.2.2.2.2.2.2.2.2.1) (q.resolve_left (by decide)),
          fun q => (hJ.2.2.2.2.2.2.2.2.2.2.2.2.2.2.2.2.2.2.1) (q.resolve_left (by decide)),
          fun q => (hJ.2.2.2.2.2.2.2.2.2.2.2.2.2.2.2.2.2.2.2.1) (q.resolve_left (by decide)),
          fun q => (hJ.2.2.2.2.2.2.2.2.2.2.2.2.2.2.2.2.2.2.2.2) (q.resolve_left (by decide))⟩
      refine StepsOk.consT (i := 9) 7 57 true rfl rfl (by kernel_rfl) (fun L x G w1 hp hJ => hJ.2.2.2.2.2.2.2.2.1 (hp ⟨7, .guard⟩ (by simp) rfl)) (fun L x G w1 K Q hn hp hJ hK => ?_) ?_
      · skip
        have p8 : L 8 := hp ⟨8, .data⟩ (by simp) rfl
        have e8 := (hJ.2.2.2.2.2.2.2.2.2.1) p8
        simp only [putAll, Act.put, List.setIfInBounds_toArray, List.set_cons_zero, List.set_cons_succ]
        go_simp
        refine (sign_c _ _ _ _ wr).mono ?_
        rw [e1.out]
        rintro e w2 ⟨rfl, hb⟩
        have hz := hb.size
        try go_simp
        refine hK _ G _ (by kernel_rfl) ?_
        exact ⟨bt (hJ.1) hb,
          fun q => (hJ.2.1) (q.resolve_left (by decide)),
          fun q => (hJ.2.2.1) (q.resolve_left (by decide)),
          fun q => (hJ.2.2.2.1) (q.resolve_left (by decide)),
          fun q => (hJ.2.2.2.2.1) (q.resolve_left (by decide)),
          fun q => (hJ.2.2.2.2.2.1) (q.resolve_left (by decide)),
          fun q => (hJ.2.2.2.2.2.2.1) (q.resolve_left (by decide)),
          fun q => (hJ.2.2.2.2.2.2.2.1) (q.resolve_left (by decide)),
          fun q => (hJ.2.2.2.2.2.2.2.2.1) (q.resolve_left (by decide)),
          fun _ => by first | exact rfl | exact e8,
          fun _ => rfl,
          fun q => (hJ.2.2.2.2.2.2.2.2.2.2.2.1) (q.resolve_left (by decide)),
          fun q => (hJ.2.2.2.2.2.2.2.2.2.2.2.2.1) (q.resolve_left (by decide)),
          fun q => (hJ.2.2.2.2.2.2.2.2.2.2.2.2.2.1) (q.resolve_left (by decide)),
          fun q => (hJ.2.2.2.2.2.2.2.2.2.2.2.2.2.2.1) (q.resolve_left (by decide)),
          fun q => (hJ.2.2.2.2.2.2.2.2.2.2.2.2.2.2.2.1) (q.resolve_left (by decide)),
          fun q => (hJ.2.2.2.2.2.2.2.2.2.2.2.2.2.2.2.2.1) (q.resolve_left (by decide)),
          fun q => (hJ.2.2.2.2.2.2.2.2.2.2.2.2.2.2.2.2.2.1) (q.resolve_left (by decide)),
          fun q => (hJ.2.2.2.2.2.2.2.2.2.2.2.2.2.2.2.2.2.2.1) (q.resolve_left (by decide)),
          fun q => (hJ.2.2.2.2.2.2.2.2.2.2.2.2.2.2.2.2.2.2.2.1) (q.resolve_left (by decide)),
          fun q => (hJ.2.2.2.2.2.2.2.2.2.2.2.2.2.2.2.2.2.2.2.2) (q.resolve_left (by decide))⟩
      refine StepsOk.consT (i := 10) 7 57 true rfl rfl (by kernel_rfl) (fun L x G w1 hp hJ => hJ.2.2.2.2.2.2.2.2.1 (hp ⟨7, .guard⟩ (by simp) rfl)) (fun L x G w1 K Q hn hp hJ hK => ?_) ?_
      · skip
        have p9 : L 9 := hp ⟨9, .data⟩ (by simp) rfl
        have e9 := (hJ.2.2.2.2.2.2.2.2.2.2.1) p9
        simp only [putAll, Act.put, List.setIfInBounds_toArray, List.set_cons_zero, List.set_cons_succ]
        go_simp
        refine hK _ G _ (by kernel_rfl) ?_
        exact ⟨(hJ.1),
          fun q => (hJ.2.1) (q.resolve_left (by decide)),
          fun q => (hJ.2.2.1) (q.resolve_left (by decide)),
          fun q => (hJ.2.2.2.1) (q.resolve_left (by decide)),
          fun q => (hJ.2.2.2.2.1) (q.resolve_left (by decide)),
          fun q => (hJ.2.2.2.2.2.1) (q.resolve_left (by decide)),
          fun q => (hJ.2.2.2.2.2.2.1) (q.resolve_left (by decide)),
          fun q => (hJ.2.2.2.2.2.2.2.1) (q.resolve_left (by decide)),
          fun q => (hJ.2.2.2.2.2.2.2.2.1) (q.resolve_left (by decide)),
          fun q => (hJ.2.2.2.2.2.2.2.2.2.1) (q.resolve_left (by decide)),
          fun _ => by first | exact rfl | exact e9,
          fun _ => rfl,
          fun q => (hJ.2.2.2.2.2.2.2.2.2.2.2.2.1) (q.resolve_left (by decide)),
          fun q => (hJ.2.2.2.2.2.2.2.2.2.2.2.2.2.1) (q.resolve_left (by decide)),
          fun q => (hJ.2.2.2.2.2.2.2.2.2.2.2.2.2.2.1) (q.resolve_left (by decide)),
          fun q => (hJ.2.2.2.2.2.2.2.2.2.2.2.2.2.2.2.1) (q.resolve_left (by decide)),
          fun q => (hJ.2.2.2.2.2.2.2.2.2.2.2.2.2.2.2.2.1) (q.resolve_left (by decide)),
          fun q => (hJ.2.2.2.2.2.2.2.2.2.2.2.2.2.2.2.2.2.1) (q.resolve_left (by decide)),
          fun q => (hJ.2.2.2.2.2.2.2.2.2.2.2.2.2.2.2.2.2.2.1) (q.resolve_left (by decide)),
          fun q => (hJ.2.2.2.2.2.2.2.2.2.2.2.2.2.2.2.2.2.2.2.1) (q.resolve_left (by decide)),
          fun q => (hJ.2.2.2.2.2.2.2.2.2.2.2.2.2.2.2.2.2.2.2.2) (q.resolve_left (by decide))⟩
      refine StepsOk.cons (i := 11) rfl (fun L x G w1 K Q hn hp hJ hK => ?_) ?_
      · skip
        have p7 : L 7 := hp ⟨7, .data⟩ (by simp) rfl
        have e7 := (hJ.2.2.2.2.2.2.2.2.1) p7
        have p10 : L 10 := hp ⟨10, .data⟩ (by simp) rfl
        have e10 := (hJ.2.2.2.2.2.2.2.2.2.2.2.1) p10
        simp only [putAll, Act.put, List.setIfInBounds_toArray, List.set_cons_zero, List.set_cons_succ]
        go_simp
        refine hK _ G _ (by kernel_rfl) ?_
        exact ⟨(hJ.1),
          fun q => (hJ.2.1) (q.resolve_left (by decide)),
          fun q => (hJ.2.2.1) (q.resolve_left (by decide)),
          fun q => (hJ.2.2.2.1) (q.resolve_left (by decide)),
          fun q => (hJ.2.2.2.2.1) (q.resolve_left (by decide)),
          fun q => (hJ.2.2.2.2.2.1) (q.resolve_left (by decide)),
          fun q => (hJ.2.2.2.2.2.2.1) (q.resolve_left (by decide)),
          fun q => (hJ.2.2.2.2.2.2.2.1) (q.resolve_left (by decide)),
          fun _ => by first | exact rfl | exact e7,
          fun q => (hJ.2.2.2.2.2.2.2.2.2.1) (q.resolve_left (by decide)),
          fun q => (hJ.2.2.2.2.2.2.2.2.2.2.1) (q.resolve_left (by decide)),
          fun _ => by first | exact rfl | exact e10,
          fun _ => rfl,
          fun q => (hJ.2.2.2.2.2.2.2.2.2.2.2.2.2.1) (q.resolve_left (by decide)),
          fun q => (hJ.2.2.2.2.2.2.2.2.2.2.2.2.2.2.1) (q.resolve_left (by decide)),
          fun q => (hJ.2.2.2.2.2.2.2.2.2.2.2.2.2.2.2.1) (q.resolve_left (by decide)),
          fun q => (hJ.2.2.2.2.2.2.2.2.2.2.2.2.2.2.2.2.1) (q.resolve_left (by decide)),
          fun q => (hJ.2.2.2.2.2.2.2.2.2.2.2.2.2.2.2.2.2.1) (q.resolve_left (by decide)),
          fun q => (hJ.2.2.2.2.2.2.2.2.2.2.2.2.2.2.2.2.2.2.1) (q.resolve_left (by decide)),
          fun q => (hJ.2.2.2.2.2.2.2.2.2.2.2.2.2.2.2.2.2.2.2.1) (q.resolve_left (by decide)),
          fun q => (hJ.2.2.2.2.2.2.2.2.2.2.2.2.2.2.2.2.2.2.2.2) (q.resolve_left (by decide))⟩
      refine StepsOk.cons (i := 12) rfl (fun L x G w1 K Q hn hp hJ hK => ?_) ?_
      · skip
        have p11 : L 11 := hp ⟨11, .data⟩ (by simp) rfl
        have e11 := (hJ.2.2.2.2.2.2.2.2.2.2.2.2.1) p11
        simp only [putAll, Act.put, List.setIfInBounds_toArray, List.set_cons_zero, List.set_cons_succ]
        go_simp
        refine hK _ G _ (by kernel_rfl) ?_
        exact ⟨(hJ.1),
          fun q => (hJ.2.1) (q.resolve_left (by decide)),
          fun q => (hJ.2.2.1) (q.resolve_left (by decide)),
          fun q => (hJ.2.2.2.1) (q.resolve_left (by decide)),
          fun q => (hJ.2.2.2.2.1) (q.resolve_left (by decide)),
          fun q => (hJ.2.2.2.2.2.1) (q.resolve_left (by decide)),
          fun q => (hJ.2.2.2.2.2.2.1) (q.resolve_left (by decide)),
          fun q => (hJ.2.2.2.2.2.2.2.1) (q.resolve_left (by decide)),
          fun q => (hJ.2.2.2.2.2.2.2.2.1) (q.resolve_left (by decide)),
          fun q => (hJ.2.2.2.2.2.2.2.2.2.1) (q.resolve_left (by decide)),
          fun q => (hJ.2.2.2.2.2.2.2.2.2.2.1) (q.resolve_left (by decide)),
          fun q => (hJ.2.2.2.2.2.2.2.2.2.2.2.1) (q.resolve_left (by decide)),
          fun _ => by first | exact rfl | exact e11,
          fun _ => rfl,
          fun q => (hJ.2.2.2.2.2.2.2.2.2.2.2.2.2.2.1) (q.resolve_left (by decide)),
          fun q => (hJ.2.2.2.2.2.2.2.2.2.2.2.2.2.2.2.1) (q.resolve_left (by decide)),
          fun q => (hJ.2.2.2.2.2.2.2.2.2.2.2.2.2.2.2.2.1) (q.resolve_left (by decide)),
          fun q => (hJ.2.2.2.2.2.2.2.2.2.2.2.2.2.2.2.2.2.1) (q.resolve_left (by decide)),
          fun q => (hJ.2.2.2.2.2.2.2.2.2.2.2.2.2.2.2.2.2.2.1) (q.resolve_left (by decide)),
          fun q => (hJ.2.2.2.2.2.2.2.2.2.2.2.2.2.2.2.2.2.2.2.1) (q.resolve_left (by decide)),
          fun q => (hJ.2.2.2.2.2.2.2.2.2.2.2.2.2.2.2.2.2.2.2.2) (q.resolve_left (by decide))⟩
      refine StepsOk.consT (i := 13) 12 62 true rfl rfl (by kernel_rfl) (fun L x G w1 hp hJ => hJ.2.2.2.2.2.2.2.2.2.2.2.2.2.1 (hp ⟨12, .guard⟩ (by simp) rfl)) (fun L x G w1 K Q hn hp hJ hK => ?_) ?_
      · skip
        have hc := ((S).keep (hJ.1)).open2
        have c0 := hc.1
        have c1 := hc.2.1
        clear hc
        simp only [putAll, Act.put, List.setIfInBounds_toArray, List.set_cons_zero, List.set_cons_succ]
        go_simp
        refine hK _ G _ (by kernel_rfl) ?_
        exact ⟨(hJ.1),
          fun q => (hJ.2.1) (q.resolve_left (by decide)),
          fun q => (hJ.2.2.1) (q.resolve_left (by decide)),
          fun q => (hJ.2.2.2.1) (q.resolve_left (by decide)),
          fun q => (hJ.2.2.2.2.1) (q.resolve_left (by decide)),
          fun q => (hJ.2.2.2.2.2.1) (q.resolve_left (by decide)),
          fun q => (hJ.2.2.2.2.2.2.1) (q.resolve_left (by decide)),
          fun q => (hJ.2.2.2.2.2.2.2.1) (q.resolve_left (by decide)),
          fun q => (hJ.2.2.2.2.2.2.2.2.1) (q.resolve_left (by decide)),
          fun q => (hJ.2.2.2.2.2.2.2.2.2.1) (q.resolve_left (by decide)),
          fun q => (hJ.2.2.2.2.2.2.2.2.2.2.1) (q.resolve_left (by decide)),
          fun q => (hJ.2.2.2.2.2.2.2.2.2.2.2.1) (q.resolve_left (by decide)),
          fun q => (hJ.2.2.2.2.2.2.2.2.2.2.2.2.1) (q.resolve_left (by decide)),
          fun q => (hJ.2.2.2.2.2.2.2.2.2.2.2.2.2.1) (q.resolve_left (by decide)),
          fun _ => rfl,
          fun q => (hJ.2.2.2.2.2.2.2.2.2.2.2.2.2.2.2.1) (q.resolve_left (by decide)),
          fun q => (hJ.2.2.2.2.2.2.2.2.2.2.2.2.2.2.2.2.1) (q.resolve_left (by decide)),
          fun q => (hJ.2.2.2.2.2.2.2.2.2.2.2.2.2.2.2.2.2.1) (q.resolve_left (by decide)),
          fun q => (hJ.2.2.2.2.2.2.2.2.2.2.2.2.2.2.2.2.2.2.1) (q.resolve_left (by decide)),
          fun q => (hJ.2.2.2.2.2.2.2.2.2.2.2.2.2.2.2.2.2.2.2.1) (q.resolve_left (by decide)),
          fun q => (hJ.2.2.2.2.2.2.2.2.2.2.2.2.2.2.2.2.2.2.2.2) (q.resolve_left (by decide))⟩
      refine StepsOk.consT (i := 14) 12 62 true rfl rfl (by kernel_rfl) (fun L x G w1 hp hJ => hJ.2.2.2.2.2.2.2.2.2.2.2.2.2.1 (hp ⟨12, .guard⟩ (by simp) rfl)) (fun L x G w1 K Q hn hp hJ hK => ?_) ?_
      · skip
        simp only [putAll, Act.put, List.setIfInBounds_toArray, List.set_cons_zero, List.set_cons_succ]
        go_simp
        refine hK _ G _ (by kernel_rfl) ?_
        exact ⟨(hJ.1),
          fun q => (hJ.2.1) (q.resolve_left (by decide)),
          fun q => (hJ.2.2.1) (q.resolve_left (by decide)),
          fun q => (hJ.2.2.2.1) (q.resolve_left (by decide)),
          fun q => (hJ.2.2.2.2.1) (q.resolve_left (by decide)),
          fun q => (hJ.2.2.2.2.2.1) (q.resolve_left (by decide)),
          fun q => (hJ.2.2.2.2.2.2.1) (q.resolve_left (by decide)),
          fun q => (hJ.2.2.2.2.2.2.2.1) (q.resolve_left (by decide)),
          fun q => (hJ.2.2.2.2.2.2.2.2.1) (q.resolve_left (by decide)),
          fun q => (hJ.2.2.2.2.2.2.2.2.2.1) (q.resolve_left (by decide)),
          fun q => (hJ.2.2.2.2.2.2.2.2.2.2.1) (q.resolve_left (by decide)),
          fun q => (hJ.2.2.2.2.2.2.2.2.2.2.2.1) (q.resolve_left (by decide)),
          fun q => (hJ.2.2.2.2.2.2.2.2.2.2.2.2.1) (q.resolve_left (by decide)),
          fun q => (hJ.2.2.2.2.2.2.2.2.2.2.2.2.2.1) (q.resolve_left (by decide)),
          fun q => (hJ.2.2.2.2.2.2.2.2.2.2.2.2.2.2.1) (q.resolve_left (by decide)),
          fun _ => rfl,
          fun q => (hJ.2.2.2.2.2.2.2.2.2.2.2.2.2.2.2.2.1) (q.resolve_left (by decide)),
          fun q => (hJ.2.2.2.2.2.2.2.2.2.2.2.2.2.2.2.2.2.1) (q.resolve_left (by decide)),
          fun q => (hJ.2.2.2.2.2.2.2.2.2.2.2.2.2.2.2.2.2.2.1) (q.resolve_left (by decide)),
          fun q => (hJ.2.2.2.2.2.2.2.2.2.2.2.2.2.2.2.2.2.2.2.1) (q.resolve_left (by decide)),
          fun q => (hJ.2.2.2.2.2.2.2.2.2.2.2.2.2.2.2.2.2.2.2.2) (q.resolve_left (by decide))⟩
      refine StepsOk.consT (i := 15) 12 62 true rfl rfl (by kernel_rfl) (fun L x G w1 hp hJ => hJ.2.2.2.2.2.2.2.2.2.2.2.2.2.1 (hp ⟨12, .guard⟩ (by simp) rfl)) (fun L x G w1 K Q hn hp hJ hK => ?_) ?_
      · skip
        have p14 : L 14 := hp ⟨14, .data⟩ (by simp) rfl
        have e14 := (hJ.2.2.2.2.2.2.2.2.2.2.2.2.2.2.2.1) p14
        simp only [putAll, Act.put, List.setIfInBounds_toArray, List.set_cons_zero, List.set_cons_succ]
        go_simp
        refine (of_c _ _ a1 a2).mono ?_
        rintro e w2 ⟨rfl, hb⟩
        have hz := hb.size
        try go_simp
        refine hK _ G _ (by kernel_rfl) ?_
        exact ⟨bt (hJ.1) hb,
          fun q => (hJ.2.1) (q.resolve_left (by decide)),
          fun q => (hJ.2.2.1) (q.resolve_left (by decide)),
          fun q => (hJ.2.2.2.1) (q.resolve_left (by decide)),
          fun q => (hJ.2.2.2.2.1) (q.resolve_left (by decide)),
          fun q => (hJ.2.2.2.2.2.1) (q.resolve_left (by decide)),
          fun q => (hJ.2.2.2.2.2.2.1) (q.resolve_left (by decide)),
          fun q => (hJ.2.2.2.2.2.2.2.1) (q.resolve_left (by decide)),
          fun q => (hJ.2.2.2.2.2.2.2.2.1) (q.resolve_left (by decide)),
          fun q => (hJ.2.2.2.2.2.2.2.2.2.1) (q.resolve_left (by decide)),
          fun q => (hJ.2.2.2.2.2.2.2.2.2.2.1) (q.resolve_left (by decide)),
          fun q => (hJ.2.2.2.2.2.2.2.2.2.2.2.1) (q.resolve_left (by decide)),
          fun q => (hJ.2.2.2.2.2.2.2.2.2.2.2.2.1) (q.resolve_left (by decide)),
          fun q => (hJ.2.2.2.2.2.2.2.2.2.2.2.2.2.1) (q.resolve_left (by decide)),
          fun q => (hJ.2.2.2.2.2.2.2.2.2.2.2.2.2.2.1) (q.resolve_left (by decide)),
          fun _ => by first | exact rfl | exact e14,
          fun _ => rfl,
          fun q => (hJ.2.2.2.2.2.2.2.2.2.2.2.2.2.2.2.2.2.1) (q.resolve_left (by decide)),
          fun q => (hJ.2.2.2.2.2.2.2.2.2.2.2.2.2.2.2.2.2.2.1) (q.resolve_left (by decide)),
          fun q => (hJ.2.2.2.2.2.2.2.2.2.2.2.2.2.2.2.2.2.2.2.1) (q.resolve_left (by decide)),
          fun q => (hJ.2.2.2.2.2.2.2.2.2.2.2.2.2.2.2.2.2.2.2.2) (q.resolve_left (by decide))⟩
      refine StepsOk.consT (i := 16) 12 62 true rfl rfl (by kernel_rfl) (fun L x G w1 hp hJ => hJ.2.2.2.2.2.2.2.2.2.2.2.2.2.1 (hp ⟨12, .guard⟩ (by simp) rfl)) (fun L x G w1 K Q hn hp hJ hK => ?_) ?_
      · skip
        have p13 : L 13 := hp ⟨13, .data⟩ (by simp) rfl
        have e13 := (hJ.2.2.2.2.2.2.2.2.2.2.2.2.2.2.1) p13
        have p15 : L 15 := hp ⟨15, .data⟩ (by simp) rfl
        have e15 := (hJ.2.2.2.2.2.2.2.2.2.2.2.2.2.2.2.2.1) p15
        simp only [putAll, Act.put, List.setIfInBounds_toArray, List.set_cons_zero, List.set_cons_succ]
        go_simp
        refine (cmp_c _ _ _ _ _ _ _ wr oa).mono ?_
        rw [e2.out]
        rintro e w2 ⟨rfl, hb⟩
        have hz := hb.size
        try go_simp
        refine hK _ G _ (by kernel_rfl) ?_
        exact ⟨bt (hJ.1) hb,
          fun q => (hJ.2.1) (q.resolve_left (by decide)),
          fun q => (hJ.2.2.1) (q.resolve_left (by decide)),
          fun q => (hJ.2.2.2.1) (q.resolve_left (by decide)),
          fun q => (hJ.2.2.2.2.1) (q.resolve_left (by decide)),
          fun q => (hJ.2.2.2.2.2.1) (q.resolve_left (by decide)),
          fun q => (hJ.2.2.2.2.2.2.1) (q.resolve_left (by decide)),
          fun q => (hJ.2.2.2.2.2.2.2.1) (q.resolve_left (by decide)),
          fun q => (hJ.2.2.2.2.2.2.2.2.1) (q.resolve_left (by decide)),
          fun q => (hJ.2.2.2.2.2.2.2.2.2.1) (q.resolve_left (by decide)),
          fun q => (hJ.2.2.2.2.2.2.2.2.2.2.1) (q.resolve_left (by decide)),
          fun q => (hJ.2.2.2.2.2.2.2.2.2.2.2.1) (q.resolve_left (by decide)),
          fun q => (hJ.2.2.2.2.2.2.2.2.2.2.2.2.1) (q.resolve_left (by decide)),
          fun q => (hJ.2.2.2.2.2.2.2.2.2.2.2.2.2.1) (q.resolve_left (by decide)),
          fun _ => by first | exact rfl | exact e13,
          fun q => (hJ.2.2.2.2.2.2.2.2.2.2.2.2.2.2.2.1) (q.resolve_left (by decide)),
          fun _ => by first | exact rfl | exact e15,
          fun _ => rfl,
          fun q => (hJ.2.2.2.2.2.2.2.2.2.2.2.2.2.2.2.2.2.2.1) (q.resolve_left (by decide)),
          fun q => (hJ.2.2.2.2.2.2.2.2.2.2.2.2.2.2.2.2.2.2.2.1) (q.resolve_left (by decide)),
          fun q => (hJ.2.2.2.2.2.2.2.2.2.2.2.2.2.2.2.2.2.2.2.2) (q.resolve_left (by decide))⟩
      refine StepsOk.consT (i := 17) 12 62 true rfl rfl (by kernel_rfl) (fun L x G w1 hp hJ => hJ.2.2.2.2.2.2.2.2.2.2.2.2.2.1 (hp ⟨12, .guard⟩ (by simp) rfl)) (fun L x G w1 K Q hn hp hJ hK => ?_) ?_
      · skip
        have p16 : L 16 := hp ⟨16, .data⟩ (by simp) rfl
        have e16 := (hJ.2.2.2.2.2.2.2.2.2.2.2.2.2.2.2.2.2.1) p16
        simp only [putAll, Act.put, List.setIfInBounds_toArray, List.set_cons_zero, List.set_cons_succ]
        go_simp
        refine hK _ G _ (by kernel_rfl) ?_
        exact ⟨(hJ.1),
          fun q => (hJ.2.1) (q.resolve_left (by decide)),
          fun q => (hJ.2.2.1) (q.resolve_left (by decide)),
          fun q => (hJ.2.2.2.1) (q.resolve_left (by decide)),
          fun q => (hJ.2.2.2.2.1) (q.resolve_left (by decide)),
          fun q => (hJ.2.2.2.2.2.1) (q.resolve_left (by decide)),
          fun q => (hJ.2.2.2.2.2.2.1) (q.resolve_left (by decide)),
          fun q => (hJ.2.2.2.2.2.2.2.1) (q.resolve_left (by decide)),
          fun q => (hJ.2.2.2.2.2.2.2.2.1) (q.resolve_left (by decide)),
          fun q => (hJ.2.2.2.2.2.2.2.2.2.1) (q.resolve_left (by decide)),
          fun q => (hJ.2.2.2.2.2.2.2.2.2.2.1) (q.resolve_left (by decide)),
          fun q => (hJ.2.2.2.2.2.2.2.2.2.2.2.1) (q.resolve_left (by decide)),
          fun q => (hJ.2.2.2.2.2.2.2.2.2.2.2.2.1) (q.resolve_left (by decide)),
          fun q => (hJ.2.2.2.2.2.2.2.2.2.2.2.2.2.1) (q.resolve_left (by decide)),
          fun q => (hJ.2.2.2.2.2.2.2.2.2.2.2.2.2.2.1) (q.resolve_left (by decide)),
          fun q => (hJ.2.2.2.2.2.2.2.2.2.2.2.2.2.2.2.1) (q.resolve_left (by decide)),
          fun q => (hJ.2.2.2.2.2.2.2.2.2.2.2.2.2.2.2.2.1) (q.resolve_left (by decide)),
          fun _ => by first | exact rfl | exact e16,
          fun _ => rfl,
          fun q => (hJ.2.2.2.2.2.2.2.2.2.2.2.2.2.2.2.2.2.2.2.1) (q.resolve_left (by decide)),
          fun q => (hJ.2.2.2.2.2.2.2.2.2.2.2.2.2.2.2.2.2.2.2.2) (q.resolve_left (by decide))⟩
      refine StepsOk.cons (i := 18) rfl (fun L x G w1 K Q hn hp hJ hK => ?_) ?_
      · skip
        have p12 : L 12 := hp ⟨12, .data⟩ (by simp) rfl
        have e12 := (hJ.2.2.2.2.2.2.2.2.2.2.2.2.2.1) p12
        have p17 : L 17 := hp ⟨17, .data⟩ (by simp) rfl
        have e17 := (hJ.2.2.2.2.2.2.2.2.2.2.2.2.2.2.2.2.2.2.1) p17
        simp only [putAll, Act.put, List.setIfInBounds_toArray, List.set_cons_zero, List.set_cons_succ]
        go_simp
        refine hK _ G _ (by kernel_rfl) ?_
        exact ⟨(hJ.1),
          fun q => (hJ.2.1) (q.resolve_left (by decide)),
          fun q => (hJ.2.2.1) (q.resolve_left (by decide)),
          fun q => (hJ.2.2.2.1) (q.resolve_left (by decide)),
          fun q => (hJ.2.2.2.2.1) (q.resolve_left (by decide)),
          fun q => (hJ.2.2.2.2.2.1) (q.resolve_left (by decide)),
          fun q => (hJ.2.2.2.2.2.2.1) (q.resolve_left (by decide)),
          fun q => (hJ.2.2.2.2.2.2.2.1) (q.resolve_left (by decide)),
          fun q => (hJ.2.2.2.2.2.2.2.2.1) (q.resolve_left (by decide)),
          fun q => (hJ.2.2.2.2.2.2.2.2.2.1) (q.resolve_left (by decide)),
          fun q => (hJ.2.2.2.2.2.2.2.2.2.2.1) (q.resolve_left (by decide)),
          fun q => (hJ.2.2.2.2.2.2.2.2.2.2.2.1) (q.resolve_left (by decide)),
          fun q => (hJ.2.2.2.2.2.2.2.2.2.2.2.2.1) (q.resolve_left (by decide)),
          fun _ => by first | exact rfl | exact e12,
          fun q => (hJ.2.2.2.2.2.2.2.2.2.2.2.2.2.2.1) (q.resolve_left (by decide)),
          fun q => (hJ.2.2.2.2.2.2.2.2.2.2.2.2.2.2.2.1) (q.resolve_left (by decide)),
          fun q => (hJ.2.2.2.2.2.2.2.2.2.2.2.2.2.2.2.2.1) (q.resolve_left (by decide)),
          fun q => (hJ.2.2.2.2.2.2.2.2.2.2.2.2.2.2.2.2.2.1) (q.resolve_left (by decide)),
          fun _ => by first | exact rfl | exact e17,
          fun _ => rfl,
          fun q => (hJ.2.2.2.2.2.2.2.2.2.2.2.2.2.2.2.2.2.2.2.2) (q.resolve_left (by decide))⟩
      refine StepsOk.cons (i := 19) rfl (fun L x G w1 K Q hn hp hJ hK => ?_) ?_
      · skip
        have p18 : L 18 := hp ⟨18, .data⟩ (by simp) rfl
        have e18 := (hJ.2.2.2.2.2.2.2.2.2.2.2.2.2.2.2.2.2.2.2.1) p18
        simp only [putAll, Act.put, List.setIfInBounds_toArray, List.set_cons_zero, List.set_cons_succ]
        go_simp
        refine hK _ G _ (by kernel_rfl) ?_
        exact ⟨(hJ.1),
          fun q => (hJ.2.1) (q.resolve_left (by decide)),
          fun q => (hJ.2.2.1) (q.resolve_left (by decide)),
          fun q => (hJ.2.2.2.1) (q.resolve_left (by decide)),
          fun q => (hJ.2.2.2.2.1) (q.resolve_left (by decide)),
          fun q => (hJ.2.2.2.2.2.1) (q.resolve_left (by decide)),
          fun q => (hJ.2.2.2.2.2.2.1) (q.resolve_left (by decide)),
          fun q => (hJ.2.2.2.2.2.2.2.1) (q.resolve_left (by decide)),
          fun q => (hJ.2.2.2.2.2.2.2.2.1) (q.resolve_left (by decide)),
          fun q => (hJ.2.2.2.2.2.2.2.2.2.1) (q.resolve_left (by decide)),
          fun q => (hJ.2.2.2.2.2.2.2.2.2.2.1) (q.resolve_left (by decide)),
          fun q => (hJ.2.2.2.2.2.2.2.2.2.2.2.1) (q.resolve_left (by decide)),
          fun q => (hJ.2.2.2.2.2.2.2.2.2.2.2.2.1) (q.resolve_left (by decide)),
          fun q => (hJ.2.2.2.2.2.2.2.2.2.2.2.2.2.1) (q.resolve_left (by decide)),
          fun q => (hJ.2.2.2.2.2.2.2.2.2.2.2.2.2.2.1) (q.resolve_left (by decide)),
          fun q => (hJ.2.2.2.2.2.2.2.2.2.2.2.2.2.2.2.1) (q.resolve_left (by decide)),
          fun q => (hJ.2.2.2.2.2.2.2.2.2.2.2.2.2.2.2.2.1) (q.resolve_left (by decide)),
          fun q => (hJ.2.2.2.2.2.2.2.2.2.2.2.2.2.2.2.2.2.1) (q.resolve_left (by decide)),
          fun q => (hJ.2.2.2.2.2.2.2.2.2.2.2.2.2.2.2.2.2.2.1) (q.resolve_left (by decide)),
          fun _ => by first | exact rfl | exact e18,
          fun _ => rfl⟩
      exact StepsOk.nil
    case fin =>
      intro L x G w5 hall hJ
      have u0 := hJ.2.1 (hall 0 (by decide))
      have u1 := hJ.2.2.1 (hall 1 (by decide))
      have u2 := hJ.2.2.2.1 (hall 2 (by decide))
      have u3 := hJ.2.2.2.2.1 (hall 3 (by decide))
      have u4 := hJ.2.2.2.2.2.1 (hall 4 (by decide))
      have u5 := hJ.2.2.2.2.2.2.1 (hall 5 (by decide))
      have u6 := hJ.2.2.2.2.2.2.2.1 (hall 6 (by decide))
      have u7 := hJ.2.2.2.2.2.2.2.2.1 (hall 7 (by decide))
      have u8 := hJ.2.2.2.2.2.2.2.2.2.1 (hall 8 (by decide))
      have u9 := hJ.2.2.2.2.2.2.2.2.2.2.1 (hall 9 (by decide))
      have u10 := hJ.2.2.2.2.2.2.2.2.2.2.2.1 (hall 10 (by decide))
      have u11 := hJ.2.2.2.2.2.2.2.2.2.2.2.2.1 (hall 11 (by decide))
      have u12 := hJ.2.2.2.2.2.2.2.2.2.2.2.2.2.1 (hall 12 (by decide))
      have u13 := hJ.2.2.2.2.2.2.2.2.2.2.2.2.2.2.1 (hall 13 (by decide))
      have u14 := hJ.2.2.2.2.2.2.2.2.2.2.2.2.2.2.2.1 (hall 14 (by decide))
      have u15 := hJ.2.2.2.2.2.2.2.2.2.2.2.2.2.2.2.2.1 (hall 15 (by decide))
      have u16 := hJ.2.2.2.2.2.2.2.2.2.2.2.2.2.2.2.2.2.1 (hall 16 (by decide))
      have u17 := hJ.2.2.2.2.2.2.2.2.2.2.2.2.2.2.2.2.2.2.1 (hall 17 (by decide))
      have u18 := hJ.2.2.2.2.2.2.2.2.2.2.2.2.2.2.2.2.2.2.2.1 (hall 18 (by decide))
      have u19 := hJ.2.2.2.2.2.2.2.2.2.2.2.2.2.2.2.2.2.2.2.2 (hall 19 (by decide))
      have hr_ := hJ.1
      replace S := S.keep hr_
      replace hB := bt hB hr_
      have sz5 := hr_.size
      clear hr_
      simp only [putAll, Act.put, List.setIfInBounds_toArray, List.set_cons_zero, List.set_cons_succ]
      simp only [u0, u1, u2, u3, u4, u5, u6, u7, u8, u9, u10, u11, u12, u13, u14, u15, u16, u17, u18, u19]
      clear hall hJ u0 u1 u2 u3 u4 u5 u6 u7 u8 u9 u10 u11 u12 u13 u14 u15 u16 u17 u18 u19
      go_wp2_with fail
      go_returns
      exact ⟨rfl, hB⟩
set_option maxRecDepth 100000 in
set_option maxHeartbeats 4000000 in
theorem rem_5 (h l xx a : Int) (w : World) (H : Wi.Wd h l xx) (a1 : -9223372036854775808 ≤ a) (a2 : a ≤ 9223372036854775807) (ha : 1 ≤ a) (hh : h ≠ -9223372036854775808) (hr : 0 < xx % a) : Calls Try.prog 11 #[.agg #[.int .i64 h, .int .u64 l], .int .i64 a] w fun e w' =>
    e = .returned (.bool true) ∧ Below w.heap.size w w' := by
  have oa : Wi.Wd (Wi.Hq a) (Wi.Lr a) a := Wi.wd_self (by unfold Wi.inW; omega)
  obtain ⟨f1, f2, f3, f4, f5, f6, f7, f8, f9⟩ := Wi.rem_facts H hh ha a2
  have e1 := Lib.hid (show Wi.cm (xx % a) 0 = 1 from Wi.cm_gt hr)
  have e2 := Lib.hid (show Wi.cm (xx % a) a = -1 from Wi.cm_lt f9)
  have wm := Wi.wd_self f7
  have wr : Wi.Wd (Wi.Hq (xx % a)) (Wi.Lr (xx % a)) (xx % a) := Wi.wd_self (by unfold Wi.inW; omega)
  have wq : Wi.Wd (Wi.Hq (xx / a)) (Wi.Lr (xx / a)) (xx / a) := Wi.wd_self (by rw [← f1]; exact Wi.in_dV _ _ _)
  have t1 : ¬ a < 1 := by omega
  have t1_ : decide (a < 1) = false := decide_eq_false t1
  have t3 : (h == -9223372036854775808) = false := by simp; omega
  clear ha hh hr f7 f8 f9
  replace f1 := Lib.hid f1
  replace f2 := Lib.hid f2
  replace f3 := Lib.hid f3
  replace f4 := Lib.hid f4
  replace f5 := Lib.hid f5
  replace f6 := Lib.hid f6
  generalize hd_ : xx % a = rr at *
  generalize he_ : xx / a = qq at *
  clear hd_ he_
  go_enter Try.func11, Try.ntmps11
  try simp only [List.append_eq, List.cons_append, List.nil_append]
  have X := Blk.new w 24 #[.int .i64 (h), .int .u64 (l)]
  have hB := ba w (.cells #[.int .i64 (h), .int .u64 (l)] 24)
  go_wp2_with fail
  refine (awake_c _).mono ?_
  rintro e w1 ⟨rfl, hb⟩
  replace X := X.keep hb
  replace hB := bt hB hb
  clear hb
  go_wp2_with fail
  refine wp_region_inv (fun L x G wx => Below w.heap.size w wx
        ∧ w.heap.size < wx.heap.size
        ∧ Blk wx (w.heap.size) 24 #[.int .i64 (h), .int .u64 (l)]
        ∧ (L 7 → w.heap.size ≤ G 7 ∧ G 7 < wx.heap.size ∧ w.heap.size ≠ G 7)
        ∧ (L 7 → ¬ L 8 → Blk wx (G 7) 24 #[.int .i64 (0), .int .u64 (0)])
        ∧ (L 8 → Blk wx (G 7) 24 #[.int .i64 (Wi.Hq (qq)), .int .u64 (Wi.Lr (qq))])
        ∧ (L 8 → L 7)
        ∧ (L 0 → x 14 = .agg #[.int .i64 (h), .int .u64 (l)])
        ∧ (L 1 → x 15 = .int .i64 (a))
        ∧ (L 2 → x 16 = .agg #[.int .i64 (Wi.Hq (a)), .int .u64 (Wi.Lr (a))])
        ∧ (L 3 → x 17 = .tuple #[.agg #[.int .i64 (Wi.Hq (qq)), .int .u64 (Wi.Lr (qq))], .bool (true)])
        ∧ (L 4 → x 13 = .tuple #[.agg #[.int .i64 (Wi.Hq (qq)), .int .u64 (Wi.Lr (qq))], .bool (true)])
        ∧ (L 5 → x 18 = .agg #[.int .i64 (Wi.Hq (qq)), .int .u64 (Wi.Lr (qq))])
        ∧ (L 6 → x 19 = .bool (true))
        ∧ (L 7 → x 5 = .pointer (some ⟨G 7, 0, none⟩))
        ∧ (L 9 → x 6 = .bool (true))) [14, 15, 16, 17, 13, 18, 19, 5, 6] 10 (by kernel_rfl) (by kernel_rfl) (by kernel_rfl) ?h0 ?st ?fin
  case h0 =>
    exact ⟨bdr hB, Blk.lt X.drew, X.drew, fun q => q.elim, fun q => q.elim, fun q => q.elim, fun q => q.elim, fun q => q.elim, fun q => q.elim, fun q => q.elim, fun q => q.elim, fun q => q.elim, fun q => q.elim, fun q => q.elim, fun q => q.elim, fun q => q.elim⟩
  case st =>
    refine StepsOk.cons (i := 0) rfl (fun L x G w1 K Q hn hp hJ hK => ?_) ?_
    · skip
      have hc := Blk.open2 ((hJ.2.2.1))
      have c0 := hc.1
      have c1 := hc.2.1
      have c2 := hc.2.2.1
      have c3 := hc.2.2.2
      clear hc
      simp only [putAll, Act.put, List.setIfInBounds_toArray, List.set_cons_zero, List.set_cons_succ]
      go_simp
      refine hK _ G _ (by kernel_rfl) ?_
      exact ⟨(hJ.1),
        (hJ.2.1),
        (hJ.2.2.1),
        fun q => (hJ.2.2.2.1) (q.resolve_left (by decide)),
        fun q n => (hJ.2.2.2.2.1) (q.resolve_left (by decide)) (fun m => n (.inr m)),
        fun q => (hJ.2.2.2.2.2.1) (q.resolve_left (by decide)),
        fun q => .inr ((hJ.2.2.2.2.2.2.1) (q.resolve_left (by decide))),
        fun _ => rfl,
        fun q => (hJ.2.2.2.2.2.2.2.2.1) (q.resolve_left (by decide)),
        fun q => (hJ.2.2.2.2.2.2.2.2.2.1) (q.resolve_left (by decide)),
        fun q => (hJ.2.2.2.2.2.2.2.2.2.2.1) (q.resolve_left (by decide)),
        fun q => (hJ.2.2.2.2.2.2.2.2.2.2.2.1) (q.resolve_left (by decide)),
        fun q => (hJ.2.2.2.2.2.2.2.2.2.2.2.2.1) (q.resolve_left (by decide)),
        fun q => (hJ.2.2.2.2.2.2.2.2.2.2.2.2.2.1) (q.resolve_left (by decide)),
        fun q => (hJ.2.2.2.2.2.2.2.2.2.2.2.2.2.2.1) (q.resolve_left (by decide)),
        fun q => (hJ.2.2.2.2.2.2.2.2.2.2.2.2.2.2.2) (q.resolve_left (by decide))⟩
    refine StepsOk.cons (i := 1) rfl (fun L x G w1 K Q hn hp hJ hK => ?_) ?_
    · skip
      simp only [putAll, Act.put, List.setIfInBounds_toArray, List.set_cons_zero, List.set_cons_succ]
      go_simp
      refine hK _ G _ (by kernel_rfl) ?_
      exact ⟨(hJ.1),
        (hJ.2.1),
        (hJ.2.2.1),
        fun q => (hJ.2.2.2.1) (q.resolve_left (by decide)),
        fun q n => (hJ.2.2.2.2.1) (q.resolve_left (by decide)) (fun m => n (.inr m)),
        fun q => (hJ.2.2.2.2.2.1) (q.resolve_left (by decide)),
        fun q => .inr ((hJ.2.2.2.2.2.2.1) (q.resolve_left (by decide))),
        fun q => (hJ.2.2.2.2.2.2.2.1) (q.resolve_left (by decide)),
        fun _ => rfl,
        fun q => (hJ.2.2.2.2.2.2.2.2.2.1) (q.resolve_left (by decide)),
        fun q => (hJ.2.2.2.2.2.2.2.2.2.2.1) (q.resolve_left (by decide)),
        fun q => (hJ.2.2.2.2.2.2.2.2.2.2.2.1) (q.resolve_left (by decide)),
        fun q => (hJ.2.2.2.2.2.2.2.2.2.2.2.2.1) (q.resolve_left (by decide)),
        fun q => (hJ.2.2.2.2.2.2.2.2.2.2.2.2.2.1) (q.resolve_left (by decide)),
        fun q => (hJ.2.2.2.2.2.2.2.2.2.2.2.2.2.2.1) (q.resolve_left (by decide)),
        fun q => (hJ.2.2.2.2.2.2.2.2.2.2.2.2.2.2.2) (q.resolve_left (by decide))⟩
    refine StepsOk.cons (i := 2) rfl (fun L x G w1 K Q hn hp hJ hK => ?_) ?_
    · skip
      have p1 : L 1 := hp ⟨1, .data⟩ (by simp) rfl
      have e1 := (hJ.2.2.2.2.2.2.2.2.1) p1
      simp only [putAll, Act.put, List.setIfInBounds_toArray, List.set_cons_zero, List.set_cons_succ]
      go_simp
      refine (of_c _ _ a1 a2).mono ?_
      rintro e w2 ⟨rfl, hb⟩
      have hz := hb.size
      try go_simp
      refine hK _ G _ (by kernel_rfl) ?_
      exact ⟨bt (hJ.1) hb,
        Nat.lt_of_lt_of_le (hJ.2.1) hb.size,
        Blk.keep ((hJ.2.2.1)) hb,
        fun q => ⟨((hJ.2.2.2.1) (q.resolve_left (by decide))).1, by have := ((hJ.2.2.2.1) (q.resolve_left (by decide))).2.1; omega, ((hJ.2.2.2.1) (q.resolve_left (by decide))).2.2⟩,
        fun q n => Blk.keep ((hJ.2.2.2.2.1) (q.resolve_left (by decide)) (fun m => n (.inr m))) hb,
        fun q => Blk.keep ((hJ.2.2.2.2.2.1) (q.resolve_left (by decide))) hb,
        fun q => .inr ((hJ.2.2.2.2.2.2.1) (q.resolve_left (by decide))),
        fun q => (hJ.2.2.2.2.2.2.2.1) (q.resolve_left (by decide)),
        fun _ => by first | exact rfl | exact e1,
        fun _ => rfl,
        fun q => (hJ.2.2.2.2.2.2.2.2.2.2.1) (q.resolve_left (by decide)),
        fun q => (hJ.2.2.2.2.2.2.2.2.2.2.2.1) (q.resolve_left (by decide)),
        fun q => (hJ.2.2.2.2.2.2.2.2.2.2.2.2.1) (q.resolve_left (by decide)),
        fun q => (hJ.2.2.2.2.2.2.2.2.2.2.2.2.2.1) (q.resolve_left (by decide)),
        fun q => (hJ.2.2.2.2.2.2.2.2.2.2.2.2.2.2.1) (q.resolve_left (by decide)),
        fun q => (hJ.2.2.2.2.2.2.2.2.2.2.2.2.2.2.2) (q.resolve_left (by decide))⟩
    refine StepsOk.cons (i := 3) rfl (fun L x G w1 K Q hn hp hJ hK => ?_) ?_
    · skip
      have p0 : L 0 := hp ⟨0, .data⟩ (by simp) rfl
      have e0 := (hJ.2.2.2.2.2.2.2.1) p0
      have p2 : L 2 := hp ⟨2, .data⟩ (by simp) rfl
      have e2 := (hJ.2.2.2.2.2.2.2.2.2.1) p2
      simp only [putAll, Act.put, List.setIfInBounds_toArray, List.set_cons_zero, List.set_cons_succ]
      go_simp
      refine (div_c _ _ _ _ _ _ _ H oa).mono ?_
      rw [f1.out, f2.out]
      rintro e w2 ⟨rfl, hb⟩
      have hz := hb.size
      try go_simp
      refine hK _ G _ (by kernel_rfl) ?_
      exact ⟨bt (hJ.1) hb,
        Nat.lt_of_lt_of_le (hJ.2.1) hb.size,
        Blk.keep ((hJ.2.2.1)) hb,
        fun q => ⟨((hJ.2.2.2.1) (q.resolve_left (by decide))).1, by have := ((hJ.2.2.2.1) (q.resolve_left (by decide))).2.1; omega, ((hJ.2.2.2.1) (q.resolve_left (by decide))).2.2⟩,
        fun q n => Blk.keep ((hJ.2.2.2.2.1) (q.resolve_left (by decide)) (fun m => n (.inr m))) hb,
        fun q => Blk.keep ((hJ.2.2.2.2.2.1) (q.resolve_left (by decide))) hb,
        fun q => .inr ((hJ.2.2.2.2.2.2.1) (q.resolve_left (by decide))),
        fun _ => by first | exact rfl | exact e0,
        fun q => (hJ.2.2.2.2.2.2.2.2.1) (q.resolve_left (by decide)),
        fun _ => by first | exact rfl | exact e2,
        fun _ => rfl,
        fun q => (hJ.2.2.2.2.2.2.2.2.2.2.2.1) (q.resolve_left (by decide)),
        fun q => (hJ.2.2.2.2.2.2.2.2.2.2.2.2.1) (q.resolve_left (by decide)),
        fun q => (hJ.2.2.2.2.2.2.2.2.2.2.2.2.2.1) (q.resolve_left (by decide)),
        fun q => (hJ.2.2.2.2.2.2.2.2.2.2.2.2.2.2.1) (q.resolve_left (by decide)),
        fun q => (hJ.2.2.2.2.2.2.2.2.2.2.2.2.2.2.2) (q.resolve_left (by decide))⟩
    refine StepsOk.cons (i := 4) rfl (fun L x G w1 K Q hn hp hJ hK => ?_) ?_
    · skip
      have p3 : L 3 := hp ⟨3, .data⟩ (by simp) rfl
      have e3 := (hJ.2.2.2.2.2.2.2.2.2.2.1) p3
      simp only [putAll, Act.put, List.setIfInBounds_toArray, List.set_cons_zero, List.set_cons_succ]
      go_simp
      refine hK _ G _ (by kernel_rfl) ?_
      exact ⟨(hJ.1),
        (hJ.2.1),
        (hJ.2.2.1),
        fun q => (hJ.2.2.2.1) (q.resolve_left (by decide)),
        fun q n => (hJ.2.2.2.2.1) (q.resolve_left (by decide)) (fun m => n (.inr m)),
        fun q => (hJ.2.2.2.2.2.1) (q.resolve_left (by decide)),
        fun q => .inr ((hJ.2.2.2.2.2.2.1) (q.resolve_left (by decide))),
        fun q => (hJ.2.2.2.2.2.2.2.1) (q.resolve_left (by decide)),
        fun q => (hJ.2.2.2.2.2.2.2.2.1) (q.resolve_left (by decide)),
        fun q => (hJ.2.2.2.2.2.2.2.2.2.1) (q.resolve_left (by decide)),
        fun _ => by first | exact rfl | exact e3,
        fun _ => rfl,
        fun q => (hJ.2.2.2.2.2.2.2.2.2.2.2.2.1) (q.resolve_left (by decide)),
        fun q => (hJ.2.2.2.2.2.2.2.2.2.2.2.2.2.1) (q.resolve_left (by decide)),
        fun q => (hJ.2.2.2.2.2.2.2.2.2.2.2.2.2.2.1) (q.resolve_left (by decide)),
        fun q => (hJ.2.2.2.2.2.2.2.2.2.2.2.2.2.2.2) (q.resolve_left (by decide))⟩
    refine StepsOk.cons (i := 5) rfl (fun L x G w1 K Q hn hp hJ hK => ?_) ?_
    · skip
      have p4 : L 4 := hp ⟨4, .data⟩ (by simp) rfl
      have e4 := (hJ.2.2.2.2.2.2.2.2.2.2.2.1) p4
      simp only [putAll, Act.put, List.setIfInBounds_toArray, List.set_cons_zero, List.set_cons_succ]
      go_simp
      refine hK _ G _ (by kernel_rfl) ?_
      exact ⟨(hJ.1),
        (hJ.2.1),
        (hJ.2.2.1),
        fun q => (hJ.2.2.2.1) (q.resolve_left (by decide)),
        fun q n => (hJ.2.2.2.2.1) (q.resolve_left (by decide)) (fun m => n (.inr m)),
        fun q => (hJ.2.2.2.2.2.1) (q.resolve_left (by decide)),
        fun q => .inr ((hJ.2.2.2.2.2.2.1) (q.resolve_left (by decide))),
        fun q => (hJ.2.2.2.2.2.2.2.1) (q.resolve_left (by decide)),
        fun q => (hJ.2.2.2.2.2.2.2.2.1) (q.resolve_left (by decide)),
        fun q => (hJ.2.2.2.2.2.2.2.2.2.1) (q.resolve_left (by decide)),
        fun q => (hJ.2.2.2.2.2.2.2.2.2.2.1) (q.resolve_left (by decide)),
        fun _ => by first | exact rfl | exact e4,
        fun _ => rfl,
        fun q => (hJ.2.2.2.2.2.2.2.2.2.2.2.2.2.1) (q.resolve_left (by decide)),
        fun q => (hJ.2.2.2.2.2.2.2.2.2.2.2.2.2.2.1) (q.resolve_left (by decide)),
        fun q => (hJ.2.2.2.2.2.2.2.2.2.2.2.2.2.2.2) (q.resolve_left (by decide))⟩
    refine StepsOk.cons (i := 6) rfl (fun L x G w1 K Q hn hp hJ hK => ?_) ?_
    · skip
      have p4 : L 4 := hp ⟨4, .data⟩ (by simp) rfl
      have e4 := (hJ.2.2.2.2.2.2.2.2.2.2.2.1) p4
      simp only [putAll, Act.put, List.setIfInBounds_toArray, List.set_cons_zero, List.set_cons_succ]
      go_simp
      refine hK _ G _ (by kernel_rfl) ?_
      exact ⟨(hJ.1),
        (hJ.2.1),
        (hJ.2.2.1),
        fun q => (hJ.2.2.2.1) (q.resolve_left (by decide)),
        fun q n => (hJ.2.2.2.2.1) (q.resolve_left (by decide)) (fun m => n (.inr m)),
        fun q => (hJ.2.2.2.2.2.1) (q.resolve_left (by decide)),
        fun q => .inr ((hJ.2.2.2.2.2.2.1) (q.resolve_left (by decide))),
        fun q => (hJ.2.2.2.2.2.2.2.1) (q.resolve_left (by decide)),
        fun q => (hJ.2.2.2.2.2.2.2.2.1) (q.resolve_left (by decide)),
        fun q => (hJ.2.2.2.2.2.2.2.2.2.1) (q.resolve_left (by decide)),
        fun q => (hJ.2.2.2.2.2.2.2.2.2.2.1) (q.resolve_left (by decide)),
        fun _ => by first | exact rfl | exact e4,
        fun q => (hJ.2.2.2.2.2.2.2.2.2.2.2.2.1) (q.resolve_left (by decide)),
        fun _ => rfl,
        fun q => (hJ.2.2.2.2.2.2.2.2.2.2.2.2.2.2.1) (q.resolve_left (by decide)),
        fun q => (hJ.2.2.2.2.2.2.2.2.2.2.2.2.2.2.2) (q.resolve_left (by decide))⟩
    refine StepsOk.cons (i := 7) rfl (fun L x G w1 K Q hn hp hJ hK => ?_) ?_
    · skip
      simp only [putAll, Act.put, List.setIfInBounds_toArray, List.set_cons_zero, List.set_cons_succ]
      go_simp
      refine hK _ (fun t => if t = 7 then w1.heap.size else G t) _ (by kernel_rfl) ?_
      exact ⟨bal (hJ.1) _,
        by simp; omega,
        Blk.alloc ((hJ.2.2.1)) _,
        fun _ => ⟨(hJ.1).size, by simp, Nat.ne_of_lt (hJ.2.1)⟩,
        fun _ _ => Blk.new w1 _ _,
        fun q => absurd ((hJ.2.2.2.2.2.2.1) (q.resolve_left (by decide))) hn,
        fun q => .inr ((hJ.2.2.2.2.2.2.1) (q.resolve_left (by decide))),
        fun q => (hJ.2.2.2.2.2.2.2.1) (q.resolve_left (by decide)),
        fun q => (hJ.2.2.2.2.2.2.2.2.1) (q.resolve_left (by decide)),
        fun q => (hJ.2.2.2.2.2.2.2.2.2.1) (q.resolve_left (by decide)),
        fun q => (hJ.2.2.2.2.2.2.2.2.2.2.1) (q.resolve_left (by decide)),
        fun q => (hJ.2.2.2.2.2.2.2.2.2.2.2.1) (q.resolve_left (by decide)),
        fun q => (hJ.2.2.2.2.2.2.2.2.2.2.2.2.1) (q.resolve_left (by decide)),
        fun q => (hJ.2.2.2.2.2.2.2.2.2.2.2.2.2.1) (q.resolve_left (by decide)),
        fun _ => rfl,
        fun q => (hJ.2.2.2.2.2.2.2.2.2.2.2.2.2.2.2) (q.resolve_left (by decide))⟩
    refine StepsOk.cons (i := 8) rfl (fun L x G w1 K Q hn hp hJ hK => ?_) ?_
    · skip
      have p5 : L 5 := hp ⟨5, .data⟩ (by simp) rfl
      have e5 := (hJ.2.2.2.2.2.2.2.2.2.2.2.2.1) p5
      have p7 : L 7 := hp ⟨7, .data⟩ (by simp) rfl
      have e7 := (hJ.2.2.2.2.2.2.2.2.2.2.2.2.2.2.1) p7
      have hc := Blk.open2 (((hJ.2.2.2.2.1) p7 hn))
      have c0 := hc.1
      have c1 := hc.2.1
      have c2 := hc.2.2.1
      have c3 := hc.2.2.2
      clear hc
      simp only [putAll, Act.put, List.setIfInBounds_toArray, List.set_cons_zero, List.set_cons_succ]
      go_simp
      refine hK _ G _ (by kernel_rfl) ?_
      exact ⟨bst (bst ((hJ.1)) (p := ⟨G 7, 0, none⟩) ((hJ.2.2.2.1) p7).1 (.int .i64 (Wi.Hq (qq)))) (p := ⟨G 7, 1, none⟩) ((hJ.2.2.2.1) p7).1 (.int .u64 (Wi.Lr (qq))),
        by simpa using (hJ.2.1),
        Blk.far (Blk.far ((hJ.2.2.1)) (p := ⟨G 7, 0, none⟩) (((hJ.2.2.2.1) p7).2.2) (.int .i64 (Wi.Hq (qq)))) (p := ⟨G 7, 1, none⟩) (((hJ.2.2.2.1) p7).2.2) (.int .u64 (Wi.Lr (qq))),
        fun q => ⟨((hJ.2.2.2.1) (q.resolve_left (by decide))).1, by have := ((hJ.2.2.2.1) (q.resolve_left (by decide))).2.1; simpa using this, ((hJ.2.2.2.1) (q.resolve_left (by decide))).2.2⟩,
        fun _ n => absurd (.inl rfl) n,
        fun _ => by simpa using Blk.set_ (Blk.set_ (((hJ.2.2.2.2.1) p7 hn)) 0 (.int .i64 (Wi.Hq (qq)))) 1 (.int .u64 (Wi.Lr (qq))),
        fun _ => .inr p7,
        fun q => (hJ.2.2.2.2.2.2.2.1) (q.resolve_left (by decide)),
        fun q => (hJ.2.2.2.2.2.2.2.2.1) (q.resolve_left (by decide)),
        fun q => (hJ.2.2.2.2.2.2.2.2.2.1) (q.resolve_left (by decide)),
        fun q => (hJ.2.2.2.2.2.2.2.2.2.2.1) (q.resolve_left (by decide)),
        fun q => (hJ.2.2.2.2.2.2.2.2.2.2.2.1) (q.resolve_left (by decide)),
        fun _ => by first | exact rfl | exact e5,
        fun q => (hJ.2.2.2.2.2.2.2.2.2.2.2.2.2.1) (q.resolve_left (by decide)),
        fun _ => by first | exact rfl | exact e7,
        fun q => (hJ.2.2.2.2.2.2.2.2.2.2.2.2.2.2.2) (q.resolve_left (by decide))⟩
    refine StepsOk.cons (i := 9) rfl (fun L x G w1 K Q hn hp hJ hK => ?_) ?_
    · skip
      have p6 : L 6 := hp ⟨6, .data⟩ (by simp) rfl
      have e6 := (hJ.2.2.2.2.2.2.2.2.2.2.2.2.2.1) p6
      simp only [putAll, Act.put, List.setIfInBounds_toArray, List.set_cons_zero, List.set_cons_succ]
      go_simp
      refine hK _ G _ (by kernel_rfl) ?_
      exact ⟨(hJ.1),
        (hJ.2.1),
        (hJ.2.2.1),
        fun q => (hJ.2.2.2.1) (q.resolve_left (by decide)),
        fun q n => (hJ.2.2.2.2.1) (q.resolve_left (by decide)) (fun m => n (.inr m)),
        fun q => (hJ.2.2.2.2.2.1) (q.resolve_left (by decide)),
        fun q => .inr ((hJ.2.2.2.2.2.2.1) (q.resolve_left (by decide))),
        fun q => (hJ.2.2.2.2.2.2.2.1) (q.resolve_left (by decide)),
        fun q => (hJ.2.2.2.2.2.2.2.2.1) (q.resolve_left (by decide)),
        fun q => (hJ.2.2.2.2.2.2.2.2.2.1) (q.resolve_left (by decide)),
        fun q => (hJ.2.2.2.2.2.2.2.2.2.2.1) (q.resolve_left (by decide)),
        fun q => (hJ.2.2.2.2.2.2.2.2.2.2.2.1) (q.resolve_left (by decide)),
        fun q => (hJ.2.2.2.2.2.2.2.2.2.2.2.2.1) (q.resolve_left (by decide)),
        fun _ => by first | exact rfl | exact e6,
        fun q => (hJ.2.2.2.2.2.2.2.2.2.2.2.2.2.2.1) (q.resolve_left (by decide)),
        fun _ => rfl⟩
    exact StepsOk.nil
  case fin =>
    intro L x G w2 hall hJ
    replace X := (hJ.2.2.1)
    obtain ⟨haP, hlP, hnPX⟩ := (hJ.2.2.2.1) (hall 7 (by decide))
    have P := (hJ.2.2.2.2.2.1) (hall 8 (by decide))
    have u0 := hJ.2.2.2.2.2.2.2.1 (hall 0 (by decide))
    have u1 := hJ.2.2.2.2.2.2.2.2.1 (hall 1 (by decide))
    have u2 := hJ.2.2.2.2.2.2.2.2.2.1 (hall 2 (by decide))
    have u3 := hJ.2.2.2.2.2.2.2.2.2.2.1 (hall 3 (by decide))
    have u4 := hJ.2.2.2.2.2.2.2.2.2.2.2.1 (hall 4 (by decide))
    have u5 := hJ.2.2.2.2.2.2.2.2.2.2.2.2.1 (hall 5 (by decide))
    have u6 := hJ.2.2.2.2.2.2.2.2.2.2.2.2.2.1 (hall 6 (by decide))
    have u7 := hJ.2.2.2.2.2.2.2.2.2.2.2.2.2.2.1 (hall 7 (by decide))
    have u9 := hJ.2.2.2.2.2.2.2.2.2.2.2.2.2.2.2 (hall 9 (by decide))
    replace hB := hJ.1
    simp only [putAll, Act.put, List.setIfInBounds_toArray, List.set_cons_zero, List.set_cons_succ]
    simp only [u0, u1, u2, u3, u4, u5, u6, u7, u9]
    clear hall hJ u0 u1 u2 u3 u4 u5 u6 u7 u9
    generalize G 7 = gP at *
    obtain ⟨q0_, q1_, q2_, q3_⟩ := X.open2
    obtain ⟨c00, c01, c02, c03⟩ := P.open2
    go_wp2_with fail
    refine (times_c _ _ _ _ _ wq a1 a2).mono ?_
    rw [f3.out, f4.out]
    rintro e w3 ⟨rfl, hb⟩
    clear c00 c01 c02 c03
    replace X := X.keep hb
    replace P := P.keep hb
    replace hB := bt hB hb
    clear hb
    have hz3 := hB.size
    have l3X := X.lt
    have l3P := P.lt
    replace X := X.alloc (.cells #[.int .i64 (Wi.Hq (qq * a)), .int .u64 (Wi.Lr (qq * a))] 24)
    replace P := P.alloc (.cells #[.int .i64 (Wi.Hq (qq * a)), .int .u64 (Wi.Lr (qq * a))] 24)
    replace hB := bal hB (.cells #[.int .i64 (Wi.Hq (qq * a)), .int .u64 (Wi.Lr (qq * a))] 24)
    have R := Blk.new w3 24 #[.int .i64 (Wi.Hq (qq * a)), .int .u64 (Wi.Lr (qq * a))]
    clear q0_ q1_ q2_ q3_
    obtain ⟨c00, c01, c02, c03⟩ := X.open2
    obtain ⟨c10, c11, c12, c13⟩ := R.open2
    go_wp2_with fail
    refine (sub_c _ _ _ _ _ _ _ H wm).mono ?_
    rw [f5.out, f6.out]
    rintro e w4 ⟨rfl, hb⟩
    clear c00 c01 c02 c03 c10 c11 c12 c13
    replace X := X.keep hb
    replace P := P.keep hb
    replace R := R.keep hb
    replace hB := bt hB hb
    clear hb
    have hz4 := hB.size
    have l4X := X.lt
    have l4P := P.lt
    have l4R := R.lt
    replace X := X.alloc (.cells #[.int .i64 (Wi.Hq (rr)), .int .u64 (Wi.Lr (rr))] 24)
    replace P := P.alloc (.cells #[.int .i64 (Wi.Hq (rr)), .int .u64 (Wi.Lr (rr))] 24)
    replace R := R.alloc (.cells #[.int .i64 (Wi.Hq (rr)), .int .u64 (Wi.Lr (rr))] 24)
    replace hB := bal hB (.cells #[.int .i64 (Wi.Hq (rr)), .int .u64 (Wi.Lr (rr))] 24)
    have S := Blk.new w4 24 #[.int .i64 (Wi.Hq (rr)), .int .u64 (Wi.Lr (rr))]
    go_wp2_with fail
    clear X P R
    generalize World.alloc w4 _ = wS at S hB ⊢
    generalize w4.heap.size = gS at S ⊢
    refine wp_region_inv (fun L x G wx => Below wS.heap.size wS wx
          ∧ (L 0 → x 50 = .bool (true))
          ∧ (L 1 → x 51 = .bool (true))
          ∧ (L 2 → x 52 = .bool (true))
          ∧ (L 3 → x 53 = .bool (true))
          ∧ (L 4 → x 54 = .bool (true))
          ∧ (L 5 → x 55 = .bool (true))
          ∧ (L 6 → x 56 = .bool (true))
          ∧ (L 7 → x 57 = .bool (true))
          ∧ (L 8 → x 58 = .agg #[.int .i64 (Wi.Hq (rr)), .int .u64 (Wi.Lr (rr))])
          ∧ (L 9 → x 59 = .int .i64 (1))
          ∧ (L 10 → x 60 = .bool (true))
          ∧ (L 11 → x 61 = .bool (true))
          ∧ (L 12 → x 62 = .bool (true))
          ∧ (L 13 → x 63 = .agg #[.int .i64 (Wi.Hq (rr)), .int .u64 (Wi.Lr (rr))])
          ∧ (L 14 → x 64 = .int .i64 (a))
          ∧ (L 15 → x 65 = .agg #[.int .i64 (Wi.Hq (a)), .int .u64 (Wi.Lr (a))])
          ∧ (L 16 → x 66 = .int .i64 (-1))
          ∧ (L 17 → x 67 = .bool (true))
          ∧ (L 18 → x 68 = .bool (true))
          ∧ (L 19 → x 4 = .bool (true))) [50, 51, 52, 53, 54, 55, 56, 57, 58, 59, 60, 61, 62, 63, 64, 65, 66, 67, 68, 4] 20 (by kernel_rfl) (by kernel_rfl) (by kernel_rfl) ?h0 ?st ?fin
    case h0 =>
      exact ⟨bdr (Below.refl _ _), fun q => q.elim, fun q => q.elim, fun q => q.elim, fun q => q.elim, fun q => q.elim, fun q => q.elim, fun q => q.elim, fun q => q.elim, fun q => q.elim, fun q => q.elim, fun q => q.elim, fun q => q.elim, fun q => q.elim, fun q => q.elim, fun q => q.elim, fun q => q.elim, fun q => q.elim, fun q => q.elim, fun q => q.elim, fun q => q.elim⟩
    case st =>
      refine StepsOk.cons (i := 0) rfl (fun L x G w1 K Q hn hp hJ hK => ?_) ?_
      · skip
        simp only [putAll, Act.put, List.setIfInBounds_toArray, List.set_cons_zero, List.set_cons_succ]
        go_simp
        refine hK _ G _ (by kernel_rfl) ?_
        exact ⟨(hJ.1),
          fun _ => rfl,
          fun q => (hJ.2.2.1) (q.resolve_left (by decide)),
          fun q => (hJ.2.2.2.1) (q.resolve_left (by decide)),
          fun q => (hJ.2.2.2.2.1) (q.resolve_left (by decide)),
          fun q => (hJ.2.2.2.2.2.1) (q.resolve_left (by decide)),
          fun q => (hJ.2.2.2.2.2.2.1) (q.resolve_left (by decide)),
          fun q => (hJ.2.2.2.2.2.2.2.1) (q.resolve_left (by decide)),
          fun q => (hJ.2.2.2.2.2.2.2.2.1) (q.resolve_left (by decide)),
          fun q => (hJ.2.2.2.2.2.2.2.2.2.1) (q.resolve_left (by decide)),
          fun q => (hJ.2.2.2.2.2.2.2.2.2.2.1) (q.resolve_left (by decide)),
          fun q => (hJ.2.2.2.2.2.2.2.2.2.2.2.1) (q.resolve_left (by decide)),
          fun q => (hJ.2.2.2.2.2.2.2.2.2.2.2.2.1) (q.resolve_left (by decide)),
          fun q => (hJ.2.2.2.2.2.2.2.2.2.2.2.2.2.1) (q.resolve_left (by decide)),
          fun q => (hJ.2.2.2.2.2.2.2.2.2.2.2.2.2.2.1) (q.resolve_left (by decide)),
          fun q => (hJ.2.2.2.2.2.2.2.2.2.2.2.2.2.2.2.1) (q.resolve_left (by decide)),
          fun q => (hJ.2.2.2.2.2.2.2.2.2.2.2.2.2.2.2.2.1) (q.resolve_left (by decide)),
          fun q => (hJ.2.2.2.2.2.2.2.2.2.2.2.2.2.2.2.2.2.1) (q.resolve_left (by decide)),
          fun q => (hJ.2.2.2.2.2.2.2.2.2.2.2.2.2.2.2.2.2.2.1) (q.resolve_left (by decide)),
          fun q => (hJ.2.2.2.2.2.2.2.2.2.2.2.2.2.2.2.2.2.2.2.1) (q.resolve_left (by decide)),
          fun q => (hJ.2.2.2.2.2.2.2.2.2.2.2.2.2.2.2.2.2.2.2.2) (q.resolve_left (by decide))⟩
      refine StepsOk.cons (i := 1) rfl (fun L x G w1 K Q hn hp hJ hK => ?_) ?_
      · skip
        have p0 : L 0 := hp ⟨0, .data⟩ (by simp) rfl
        have e0 := (hJ.2.1) p0
        simp only [putAll, Act.put, List.setIfInBounds_toArray, List.set_cons_zero, List.set_cons_succ]
        go_simp
        refine hK _ G _ (by kernel_rfl) ?_
        exact ⟨(hJ.1),
          fun _ => by first | exact rfl | exact e0,
          fun _ => rfl,
          fun q => (hJ.2.2.2.1) (q.resolve_left (by decide)),
          fun q => (hJ.2.2.2.2.1) (q.resolve_left (by decide)),
          fun q => (hJ.2.2.2.2.2.1) (q.resolve_left (by decide)),
          fun q => (hJ.2.2.2.2.2.2.1) (q.resolve_left (by decide)),
          fun q => (hJ.2.2.2.2.2.2.2.1) (q.resolve_left (by decide)),
          fun q => (hJ.2.2.2.2.2.2.2.2.1) (q.resolve_left (by decide)),
          fun q => (hJ.2.2.2.2.2.2.2.2.2.1) (q.resolve_left (by decide)),
          fun q => (hJ.2.2.2.2.2.2.2.2.2.2.1) (q.resolve_left (by decide)),
          fun q => (hJ.2.2.2.2.2.2.2.2.2.2.2.1) (q.resolve_left (by decide)),
          fun q => (hJ.2.2.2.2.2.2.2.2.2.2.2.2.1) (q.resolve_left (by decide)),
          fun q => (hJ.2.2.2.2.2.2.2.2.2.2.2.2.2.1) (q.resolve_left (by decide)),
          fun q => (hJ.2.2.2.2.2.2.2.2.2.2.2.2.2.2.1) (q.resolve_left (by decide)),
          fun q => (hJ.2.2.2.2.2.2.2.2.2.2.2.2.2.2.2.1) (q.resolve_left (by decide)),
          fun q => (hJ.2.2.2.2.2.2.2.2.2.2.2.2.2.2.2.2.1) (q.resolve_left (by decide)),
          fun q => (hJ.2.2.2.2.2.2.2.2.2.2.2.2.2.2.2.2.2.1) (q.resolve_left (by decide)),
          fun q => (hJ.2.2.2.2.2.2.2.2.2.2.2.2.2.2.2.2.2.2.1) (q.resolve_left (by decide)),
          fun q => (hJ.2.2.2.2.2.2.2.2.2.2.2.2.2.2.2.2.2.2.2.1) (q.resolve_left (by decide)),
          fun q => (hJ.2.2.2.2.2.2.2.2.2.2.2.2.2.2.2.2.2.2.2.2) (q.resolve_left (by decide))⟩
      refine StepsOk.consT (i := 2) 1 51 true rfl rfl (by kernel_rfl) (fun L x G w1 hp hJ => hJ.2.2.1 (hp ⟨1, .guard⟩ (by simp) rfl)) (fun L x G w1 K Q hn hp hJ hK => ?_) ?_
      · skip
        simp only [putAll, Act.put, List.setIfInBounds_toArray, List.set_cons_zero, List.set_cons_succ]
        go_simp
        refine hK _ G _ (by kernel_rfl) ?_
        exact ⟨(hJ.1),
          fun q => (hJ.2.1) (q.resolve_left (by decide)),
          fun q => (hJ.2.2.1) (q.resolve_left (by decide)),
          fun _ => rfl,
          fun q => (hJ.2.2.2.2.1) (q.resolve_left (by decide)),
          fun q => (hJ.2.2.2.2.2.1) (q.resolve_left (by decide)),
          fun q => (hJ.2.2.2.2.2.2.1) (q.resolve_left (by decide)),
          fun q => (hJ.2.2.2.2.2.2.2.1) (q.resolve_left (by decide)),
          fun q => (hJ.2.2.2.2.2.2.2.2.1) (q.resolve_left (by decide)),
          fun q => (hJ.2.2.2.2.2.2.2.2.2.1) (q.resolve_left (by decide)),
          fun q => (hJ.2.2.2.2.2.2.2.2.2.2.1) (q.resolve_left (by decide)),
          fun q => (hJ.2.2.2.2.2.2.2.2.2.2.2.1) (q.resolve_left (by decide)),
          fun q => (hJ.2.2.2.2.2.2.2.2.2.2.2.2.1) (q.resolve_left (by decide)),
          fun q => (hJ.2.2.2.2.2.2.2.2.2.2.2.2.2.1) (q.resolve_left (by decide)),
          fun q => (hJ.2.2.2.2.2.2.2.2.2.2.2.2.2.2.1) (q.resolve_left (by decide)),
          fun q => (hJ.2.2.2.2.2.2.2.2.2.2.2.2.2.2.2.1) (q.resolve_left (by decide)),
          fun q => (hJ.2.2.2.2.2.2.2.2.2.2.2.2.2.2.2.2.1) (q.resolve_left (by decide)),
          fun q => (hJ.2.2.2.2.2.2.2.2.2.2.2.2.2.2.2.2.2.1) (q.resolve_left (by decide)),
          fun q => (hJ.2.2.2.2.2.2.2.2.2.2.2.2.2.2.2.2.2.2.1) (q.resolve_left (by decide)),
          fun q => (hJ.2.2.2.2.2.2.2.2.2.2.2.2.2.2.2.2.2.2.2.1) (q.resolve_left (by decide)),
          fun q => (hJ.2.2.2.2.2.2.2.2.2.2.2.2.2.2.2.2.2.2.2.2) (q.resolve_left (by decide))⟩
      refine StepsOk.cons (i := 3) rfl (fun L x G w1 K Q hn hp hJ hK => ?_) ?_
      · skip
        have p1 : L 1 := hp ⟨1, .data⟩ (by simp) rfl
        have e1 := (hJ.2.2.1) p1
        have p2 : L 2 := hp ⟨2, .data⟩ (by simp) rfl
        have e2 := (hJ.2.2.2.1) p2
        simp only [putAll, Act.put, List.setIfInBounds_toArray, List.set_cons_zero, List.set_cons_succ]
        go_simp
        refine hK _ G _ (by kernel_rfl) ?_
        exact ⟨(hJ.1),
          fun q => (hJ.2.1) (q.resolve_left (by decide)),
          fun _ => by first | exact rfl | exact e1,
          fun _ => by first | exact rfl | exact e2,
          fun _ => rfl,
          fun q => (hJ.2.2.2.2.2.1) (q.resolve_left (by decide)),
          fun q => (hJ.2.2.2.2.2.2.1) (q.resolve_left (by decide)),
          fun q => (hJ.2.2.2.2.2.2.2.1) (q.resolve_left (by decide)),
          fun q => (hJ.2.2.2.2.2.2.2.2.1) (q.resolve_left (by decide)),
          fun q => (hJ.2.2.2.2.2.2.2.2.2.1) (q.resolve_left (by decide)),
          fun q => (hJ.2.2.2.2.2.2.2.2.2.2.1) (q.resolve_left (by decide)),
          fun q => (hJ.2.2.2.2.2.2.2.2.2.2.2.1) (q.resolve_left (by decide)),
          fun q => (hJ.2.2.2.2.2.2.2.2.2.2.2.2.1) (q.resolve_left (by decide)),
          fun q => (hJ.2.2.2.2.2.2.2.2.2.2.2.2.2.1) (q.resolve_left (by decide)),
          fun q => (hJ.2.2.2.2.2.2.2.2.2.2.2.2.2.2.1) (q.resolve_left (by decide)),
          fun q => (hJ.2.2.2.2.2.2.2.2.2.2.2.2.2.2.2.1) (q.resolve_left (by decide)),
          fun q => (hJ.2.2.2.2.2.2.2.2.2.2.2.2.2.2.2.2.1) (q.resolve_left (by decide)),
          fun q => (hJ.2.2.2.2.2.2.2.2.2.2.2.2.2.2.2.2.2.1) (q.resolve_left (by decide)),
          fun q => (hJ.2.2.2.2.2.2.2.2.2.2.2.2.2.2.2.2.2.2.1) (q.resolve_left (by decide)),
          fun q => (hJ.2.2.2.2.2.2.2.2.2.2.2.2.2.2.2.2.2.2.2.1) (q.resolve_left (by decide)),
          fun q => (hJ.2.2.2.2.2.2.2.2.2.2.2.2.2.2.2.2.2.2.2.2) (q.resolve_left (by decide))⟩
      refine StepsOk.cons (i := 4) rfl (fun L x G w1 K Q hn hp hJ hK => ?_) ?_
      · skip
        have p3 : L 3 := hp ⟨3, .data⟩ (by simp) rfl
        have e3 := (hJ.2.2.2.2.1) p3
        simp only [putAll, Act.put, List.setIfInBounds_toArray, List.set_cons_zero, List.set_cons_succ]
        go_simp
        refine hK _ G _ (by kernel_rfl) ?_
        exact ⟨(hJ.1),
          fun q => (hJ.2.1) (q.resolve_left (by decide)),
          fun q => (hJ.2.2.1) (q.resolve_left (by decide)),
          fun q => (hJ.2.2.2.1) (q.resolve_left (by decide)),
          fun _ => by first | exact rfl | exact e3,
          fun _ => rfl,
          fun q => (hJ.2.2.2.2.2.2.1) (q.resolve_left (by decide)),
          fun q => (hJ.2.2.2.2.2.2.2.1) (q.resolve_left (by decide)),
          fun q => (hJ.2.2.2.2.2.2.2.2.1) (q.resolve_left (by decide)),
          fun q => (hJ.2.2.2.2.2.2.2.2.2.1) (q.resolve_left (by decide)),
          fun q => (hJ.2.2.2.2.2.2.2.2.2.2.1) (q.resolve_left (by decide)),
          fun q => (hJ.2.2.2.2.2.2.2.2.2.2.2.1) (q.resolve_left (by decide)),
          fun q => (hJ.2.2.2.2.2.2.2.2.2.2.2.2.1) (q.resolve_left (by decide)),
          fun q => (hJ.2.2.2.2.2.2.2.2.2.2.2.2.2.1) (q.resolve_left (by decide)),
          fun q => (hJ.2.2.2.2.2.2.2.2.2.2.2.2.2.2.1) (q.resolve_left (by decide)),
          fun q => (hJ.2.2.2.2.2.2.2.2.2.2.2.2.2.2.2.1) (q.resolve_left (by decide)),
          fun q => (hJ.2.2.2.2.2.2.2.2.2.2.2.2.2.2.2.2.1) (q.resolve_left (by decide)),
          fun q => (hJ.2.2.2.2.2.2.2.2.2.2.2.2.2.2.2.2.2.1) (q.resolve_left (by decide)),
          fun q => (hJ.2.2.2.2.2.2.2.2.2.2.2.2.2.2.2.2.2.2.1) (q.resolve_left (by decide)),
          fun q => (hJ.2.2.2.2.2.2.2.2.2.2.2.2.2.2.2.2.2.2.2.1) (q.resolve_left (by decide)),
          fun q => (hJ.2.2.2.2.2.2.2.2.2.2.2.2.2.2.2.2.2.2.2.2) (q.resolve_left (by decide))⟩
      refine StepsOk.consT (i := 5) 4 54 true rfl rfl (by kernel_rfl) (fun L x G w1 hp hJ => hJ.2.2.2.2.2.1 (hp ⟨4, .guard⟩ (by simp) rfl)) (fun L x G w1 K Q hn hp hJ hK => ?_) ?_
      · skip
        simp only [putAll, Act.put, List.setIfInBounds_toArray, List.set_cons_zero, List.set_cons_succ]
        go_simp
        refine hK _ G _ (by kernel_rfl) ?_
        exact ⟨(hJ.1),
          fun q => (hJ.2.1) (q.resolve_left (by decide)),
          fun q => (hJ.2.2.1) (q.resolve_left (by decide)),
          fun q => (hJ.2.2.2.1) (q.resolve_left (by decide)),
          fun q => (hJ.2.2.2.2.1) (q.resolve_left (by decide)),
          fun q => (hJ.2.2.2.2.2.1) (q.resolve_left (by decide)),
          fun _ => rfl,
          fun q => (hJ.2.2.2.2.2.2.2.1) (q.resolve_left (by decide)),
          fun q => (hJ.2.2.2.2.2.2.2.2.1) (q.resolve_left (by decide)),
          fun q => (hJ.2.2.2.2.2.2.2.2.2.1) (q.resolve_left (by decide)),
          fun q => (hJ.2.2.2.2.2.2.2.2.2.2.1) (q.resolve_left (by decide)),
          fun q => (hJ.2.2.2.2.2.2.2.2.2.2.2.1) (q.resolve_left (by decide)),
          fun q => (hJ.2.2.2.2.2.2.2.2.2.2.2.2.1) (q.resolve_left (by decide)),
          fun q => (hJ.2.2.2.2.2.2.2.2.2.2.2.2.2.1) (q.resolve_left (by decide)),
          fun q => (hJ.2.2.2.2.2.2.2.2.2.2.2.2.2.2.1) (q.resolve_left (by decide)),
          fun q => (hJ.2.2.2.2.2.2.2.2.2.2.2.2.2.2.2.1) (q.resolve_left (by decide)),
          fun q => (hJ.2.2.2.2.2.2.2.2.2.2.2.2.2.2.2.2.1) (q.resolve_left (by decide)),
          fun q => (hJ.2.2.2.2.2.2.2.2.2.2.2.2.2.2.2.2.2.1) (q.resolve_left (by decide)),
          fun q => (hJ.2.2.2.2.2.2.2.2.2.2.2.2.2.2.2.2.2.2.1) (q.resolve_left (by decide)),
          fun q => (hJ.2.2.2.2.2.2.2.2.2.2.2.2.2.2.2.2.2.2.2.1) (q.resolve_left (by decide)),
          fun q => (hJ.2.2.2.2.2.2.2.2.2.2.2.2.2.2.2.2.2.2.2.2) (q.resolve_left (by decide))⟩
      refine StepsOk.cons (i := 6) rfl (fun L x G w1 K Q hn hp hJ hK => ?_) ?_
      · skip
        have p4 : L 4 := hp ⟨4, .data⟩ (by simp) rfl
        have e4 := (hJ.2.2.2.2.2.1) p4
        have p5 : L 5 := hp ⟨5, .data⟩ (by simp) rfl
        have e5 := (hJ.2.2.2.2.2.2.1) p5
        simp only [putAll, Act.put, List.setIfInBounds_toArray, List.set_cons_zero, List.set_cons_succ]
        go_simp
        refine hK _ G _ (by kernel_rfl) ?_
        exact ⟨(hJ.1),
          fun q => (hJ.2.1) (q.resolve_left (by decide)),
          fun q => (hJ.2.2.1) (q.resolve_left (by decide)),
          fun q => (hJ.2.2.2.1) (q.resolve_left (by decide)),
          fun q => (hJ.2.2.2.2.1) (q.resolve_left (by decide)),
          fun _ => by first | exact rfl | exact e4,
          fun _ => by first | exact rfl | exact e5,
          fun _ => rfl,
          fun q => (hJ.2.2.2.2.2.2.2.2.1) (q.resolve_left (by decide)),
          fun q => (hJ.2.2.2.2.2.2.2.2.2.1) (q.resolve_left (by decide)),
          fun q => (hJ.2.2.2.2.2.2.2.2.2.2.1) (q.resolve_left (by decide)),
          fun q => (hJ.2.2.2.2.2.2.2.2.2.2.2.1) (q.resolve_left (by decide)),
          fun q => (hJ.2.2.2.2.2.2.2.2.2.2.2.2.1) (q.resolve_left (by decide)),
          fun q => (hJ.2.2.2.2.2.2.2.2.2.2.2.2.2.1) (q.resolve_left (by decide)),
          fun q => (hJ.2.2.2.2.2.2.2.2.2.2.2.2.2.2.1) (q.resolve_left (by decide)),
          fun q => (hJ.2.2.2.2.2.2.2.2.2.2.2.2.2.2.2.1) (q.resolve_left (by decide)),
          fun q => (hJ.2.2.2.2.2.2.2.2.2.2.2.2.2.2.2.2.1) (q.resolve_left (by decide)),
          fun q => (hJ.2.2.2.2.2.2.2.2.2.2.2.2.2.2.2.2.2.1) (q.resolve_left (by decide)),
          fun q => (hJ.2.2.2.2.2.2.2.2.2.2.2.2.2.2.2.2.2.2.1) (q.resolve_left (by decide)),
          fun q => (hJ.2.2.2.2.2.2.2.2.2.2.2.2.2.2.2.2.2.2.2.1) (q.resolve_left (by decide)),
          fun q => (hJ.2.2.2.2.2.2.2.2.2.2.2.2.2.2.2.2.2.2.2.2) (q.resolve_left (by decide))⟩
      refine StepsOk.cons (i := 7) rfl (fun L x G w1 K Q hn hp hJ hK => ?_) ?_
      · skip
        have p6 : L 6 := hp ⟨6, .data⟩ (by simp) rfl
        have e6 := (hJ.2.2.2.2.2.2.2.1) p6
        simp only [putAll, Act.put, List.setIfInBounds_toArray, List.set_cons_zero, List.set_cons_succ]
        go_simp
        refine hK _ G _ (by kernel_rfl) ?_
        exact ⟨(hJ.1),
          fun q => (hJ.2.1) (q.resolve_left (by decide)),
          fun q => (hJ.2.2.1) (q.resolve_left (by decide)),
          fun q => (hJ.2.2.2.1) (q.resolve_left (by decide)),
          fun q => (hJ.2.2.2.2.1) (q.resolve_left (by decide)),
          fun q => (hJ.2.2.2.2.2.1) (q.resolve_left (by decide)),
          fun q => (hJ.2.2.2.2.2.2.1) (q.resolve_left (by decide)),
          fun _ => by first | exact rfl | exact e6,
          fun _ => rfl,
          fun q => (hJ.2.2.2.2.2.2.2.2.2.1) (q.resolve_left (by decide)),
          fun q => (hJ.2.2.2.2.2.2.2.2.2.2.1) (q.resolve_left (by decide)),
          fun q => (hJ.2.2.2.2.2.2.2.2.2.2.2.1) (q.resolve_left (by decide)),
          fun q => (hJ.2.2.2.2.2.2.2.2.2.2.2.2.1) (q.resolve_left (by decide)),
          fun q => (hJ.2.2.2.2.2.2.2.2.2.2.2.2.2.1) (q.resolve_left (by decide)),
          fun q => (hJ.2.2.2.2.2.2.2.2.2.2.2.2.2.2.1) (q.resolve_left (by decide)),
          fun q => (hJ.2.2.2.2.2.2.2.2.2.2.2.2.2.2.2.1) (q.resolve_left (by decide)),
          fun q => (hJ.2.2.2.2.2.2.2.2.2.2.2.2.2.2.2.2.1) (q.resolve_left (by decide)),
          fun q => (hJ.2.2.2.2.2.2.2.2.2.2.2.2.2.2.2.2.2.1) (q.resolve_left (by decide)),
          fun q => (hJ.2.2.2.2.2.2.2.2.2.2.2.2.2.2.2.2.2.2.1) (q.resolve_left (by decide)),
          fun q => (hJ.2.2.2.2.2.2.2.2.2.2.2.2.2.2.2.2.2.2.2.1) (q.resolve_left (by decide)),
          fun q => (hJ.2.2.2.2.2.2.2.2.2.2.2.2.2.2.2.2.2.2.2.2) (q.resolve_left (by decide))⟩
      refine StepsOk.consT (i := 8) 7 57 true rfl rfl (by kernel_rfl) (fun L x G w1 hp hJ => hJ.2.2.2.2.2.2.2.2.1 (hp ⟨7, .guard⟩ (by simp) rfl)) (fun L x G w1 K Q hn hp hJ hK => ?_) ?_
      · skip
        have hc := ((S).keep (hJ.1)).open2
        have c0 := hc.1
        have c1 := hc.2.1
        clear hc
        simp only [putAll, Act.put, List.setIfInBounds_toArray, List.set_cons_zero, List.set_cons_succ]
        go_simp
        refine hK _ G _ (by kernel_rfl) ?_
        exact ⟨(hJ.1),
          fun q => (hJ.2.1) (q.resolve_left (by decide)),
          fun q => (hJ.2.2.1) (q.resolve_left (by decide)),
          fun q => (hJ.2.2.2.1) (q.resolve_left (by decide)),
          fun q => (hJ.2.2.2.2.1) (q.resolve_left (by decide)),
          fun q => (hJ.2.2.2.2.2.1) (q.resolve_left (by decide)),
          fun q => (hJ.2.2.2.2.2.2.1) (q.resolve_left (by decide)),
          fun q => (hJ.2.2.2.2.2.2.2.1) (q.resolve_left (by decide)),
          fun q => (hJ.2.2.2.2.2.2.2.2.1) (q.resolve_left (by decide)),
          fun _ => rfl,
          fun q => (hJ.2.2.2.2.2.2.2.2.2.2.1) (q.resolve_left (by decide)),
          fun q => (hJ.2.2.2.2.2.2.2.2.2.2.2.1) (q.resolve_left (by decide)),
          fun q => (hJ.2.2.2.2.2.2.2.2.2.2.2.2.1) (q.resolve_left (by decide)),
          fun q => (hJ.2.2.2.2.2.2.2.2.2.2.2.2.2.1) (q.resolve_left (by decide)),
          fun q => (hJ.2.2.2.2.2.2.2.2.2.2.2.2.2.2.1) (q.resolve_left (by decide)),
          fun q => (hJ.2.2.2.2.2.2.2.2.2.2.2.2.2.2.2.1) (q.resolve_left (by decide)),
          fun q => (hJ.2.2.2.2.2.2.2.2.2.2.2.2.2.2.2.2.1) (q.resolve_left (by decide)),
          fun q => (hJ.2.2.2.2.2.2.2.2.2.2.2.2.2.2.2.2.2.1) (q.resolve_left (by decide)),
          fun q => (hJ.2.2.2.2.2.2.2.2.2.2.2.2.2.2.2.2.2.2.1) (q.resolve_left (by decide)),
          fun q => (hJ.2.2.2.2.2.2.2.2.2.2.2.2.2.2.2.2.2.2.2.1) (q.resolve_left (by decide)),
          fun q => (hJ.2.2.2.2.2.2.2.2.2.2.2.2.2.2.2.2.2.2.2.2) (q.resolve_left (by decide))⟩
      refine StepsOk.consT (i := 9) 7 57 true rfl rfl (by kernel_rfl) (fun L x G w1 hp hJ => hJ.2.2.2.2.2.2.2.2.1 (hp ⟨7, .guard⟩ (by simp) rfl)) (fun L x G w1 K Q hn hp hJ hK => ?_) ?_
      · skip
        have p8 : L 8 := hp ⟨8, .data⟩ (by simp) rfl
        have e8 := (hJ.2.2.2.2.2.2.2.2.2.1) p8
        simp only [putAll, Act.put, List.setIfInBounds_toArray, List.set_cons_zero, List.set_cons_succ]
        go_simp
        refine (sign_c _ _ _ _ wr).mono ?_
        rw [e1.out]
        rintro e w2 ⟨rfl, hb⟩
        have hz := hb.size
        try go_simp
        refine hK _ G _ (by kernel_rfl) ?_
        exact ⟨bt (hJ.1) hb,
          fun q => (hJ.2.1) (q.resolve_left (by decide)),
          fun q => (hJ.2.2.1) (q.resolve_left (by decide)),
          fun q => (hJ.2.2.2.1) (q.resolve_left (by decide)),
          fun q => (hJ.2.2.2.2.1) (q.resolve_left (by decide)),
          fun q => (hJ.2.2.2.2.2.1) (q.resolve_left (by decide)),
          fun q => (hJ.2.2.2.2.2.2.1) (q.resolve_left (by decide)),
          fun q => (hJ.2.2.2.2.2.2.2.1) (q.resolve_left (by decide)),
          fun q => (hJ.2.2.2.2.2.2.2.2.1) (q.resolve_left (by decide)),
          fun _ => by first | exact rfl | exact e8,
          fun _ => rfl,
          fun q => (hJ.2.2.2.2.2.2.2.2.2.2.2.1) (q.resolve_left (by decide)),
          fun q => (hJ.2.2.2.2.2.2.2.2.2.2.2.2.1) (q.resolve_left (by decide)),
          fun q => (hJ.2.2.2.2.2.2.2.2.2.2.2.2.2.1) (q.resolve_left (by decide)),
          fun q => (hJ.2.2.2.2.2.2.2.2.2.2.2.2.2.2.1) (q.resolve_left (by decide)),
          fun q => (hJ.2.2.2.2.2.2.2.2.2.2.2.2.2.2.2.1) (q.resolve_left (by decide)),
          fun q => (hJ.2.2.2.2.2.2.2.2.2.2.2.2.2.2.2.2.1) (q.resolve_left (by decide)),
          fun q => (hJ.2.2.2.2.2.2.2.2.2.2.2.2.2.2.2.2.2.1) (q.resolve_left (by decide)),
          fun q => (hJ.2.2.2.2.2.2.2.2.2.2.2.2.2.2.2.2.2.2.1) (q.resolve_left (by decide)),
          fun q => (hJ.2.2.2.2.2.2.2.2.2.2.2.2.2.2.2.2.2.2.2.1) (q.resolve_left (by decide)),
          fun q => (hJ.2.2.2.2.2.2.2.2.2.2.2.2.2.2.2.2.2.2.2.2) (q.resolve_left (by decide))⟩
      refine StepsOk.consT (i := 10) 7 57 true rfl rfl (by kernel_rfl) (fun L x G w1 hp hJ => hJ.2.2.2.2.2.2.2.2.1 (hp ⟨7, .guard⟩ (by simp) rfl)) (fun L x G w1 K Q hn hp hJ hK => ?_) ?_
      · skip
        have p9 : L 9 := hp ⟨9, .data⟩ (by simp) rfl
        have e9 := (hJ.2.2.2.2.2.2.2.2.2.2.1) p9
        simp only [putAll, Act.put, List.setIfInBounds_toArray, List.set_cons_zero, List.set_cons_succ]
        go_simp
        refine hK _ G _ (by kernel_rfl) ?_
        exact ⟨(hJ.1),
          fun q => (hJ.2.1) (q.resolve_left (by decide)),
          fun q => (hJ.2.2.1) (q.resolve_left (by decide)),
          fun q => (hJ.2.2.2.1) (q.resolve_left (by decide)),
          fun q => (hJ.2.2.2.2.1) (q.resolve_left (by decide)),
          fun q => (hJ.2.2.2.2.2.1) (q.resolve_left (by decide)),
          fun q => (hJ.2.2.2.2.2.2.1) (q.resolve_left (by decide)),
          fun q => (hJ.2.2.2.2.2.2.2.1) (q.resolve_left (by decide)),
          fun q => (hJ.2.2.2.2.2.2.2.2.1) (q.resolve_left (by decide)),
          fun q => (hJ.2.2.2.2.2.2.2.2.2.1) (q.resolve_left (by decide)),
          fun _ => by first | exact rfl | exact e9,
          fun _ => rfl,
          fun q => (hJ.2.2.2.2.2.2.2.2.2.2.2.2.1) (q.resolve_left (by decide)),
          fun q => (hJ.2.2.2.2.2.2.2.2.2.2.2.2.2.1) (q.resolve_left (by decide)),
          fun q => (hJ.2.2.2.2.2.2.2.2.2.2.2.2.2.2.1) (q.resolve_left (by decide)),
          fun q => (hJ.2.2.2.2.2.2.2.2.2.2.2.2.2.2.2.1) (q.resolve_left (by decide)),
          fun q => (hJ.2.2.2.2.2.2.2.2.2.2.2.2.2.2.2.2.1) (q.resolve_left (by decide)),
          fun q => (hJ.2.2.2.2.2.2.2.2.2.2.2.2.2.2.2.2.2.1) (q.resolve_left (by decide)),
          fun q => (hJ.2.2.2.2.2.2.2.2.2.2.2.2.2.2.2.2.2.2.1) (q.resolve_left (by decide)),
          fun q => (hJ.2.2.2.2.2.2.2.2.2.2.2.2.2.2.2.2.2.2.2.1) (q.resolve_left (by decide)),
          fun q => (hJ.2.2.2.2.2.2.2.2.2.2.2.2.2.2.2.2.2.2.2.2) (q.resolve_left (by decide))⟩
      refine StepsOk.cons (i := 11) rfl (fun L x G w1 K Q hn hp hJ hK => ?_) ?_
      · skip
        have p7 : L 7 := hp ⟨7, .data⟩ (by simp) rfl
        have e7 := (hJ.2.2.2.2.2.2.2.2.1) p7
        have p10 : L 10 := hp ⟨10, .data⟩ (by simp) rfl
        have e10 := (hJ.2.2.2.2.2.2.2.2.2.2.2.1) p10
        simp only [putAll, Act.put, List.setIfInBounds_toArray, List.set_cons_zero, List.set_cons_succ]
        go_simp
        refine hK _ G _ (by kernel_rfl) ?_
        exact ⟨(hJ.1),
          fun q => (hJ.2.1) (q.resolve_left (by decide)),
          fun q => (hJ.2.2.1) (q.resolve_left (by decide)),
          fun q => (hJ.2.2.2.1) (q.resolve_left (by decide)),
          fun q => (hJ.2.2.2.2.1) (q.resolve_left (by decide)),
          fun q => (hJ.2.2.2.2.2.1) (q.resolve_left (by decide)),
          fun q => (hJ.2.2.2.2.2.2.1) (q.resolve_left (by decide)),
          fun q => (hJ.2.2.2.2.2.2.2.1) (q.resolve_left (by decide)),
          fun _ => by first | exact rfl | exact e7,
          fun q => (hJ.2.2.2.2.2.2.2.2.2.1) (q.resolve_left (by decide)),
          fun q => (hJ.2.2.2.2.2.2.2.2.2.2.1) (q.resolve_left (by decide)),
          fun _ => by first | exact rfl | exact e10,
          fun _ => rfl,
          fun q => (hJ.2.2.2.2.2.2.2.2.2.2.2.2.2.1) (q.resolve_left (by decide)),
          fun q => (hJ.2.2.2.2.2.2.2.2.2.2.2.2.2.2.1) (q.resolve_left (by decide)),
          fun q => (hJ.2.2.2.2.2.2.2.2.2.2.2.2.2.2.2.1) (q.resolve_left (by decide)),
          fun q => (hJ.2.2.2.2.2.2.2.2.2.2.2.2.2.2.2.2.1) (q.resolve_left (by decide)),
          fun q => (hJ.2.2.2.2.2.2.2.2.2.2.2.2.2.2.2.2.2.1) (q.resolve_left (by decide)),
          fun q => (hJ.2.2.2.2.2.2.2.2.2.2.2.2.2.2.2.2.2.2.1) (q.resolve_left (by decide)),
          fun q => (hJ.2.2.2.2.2.2.2.2.2.2.2.2.2.2.2.2.2.2.2.1) (q.resolve_left (by decide)),
          fun q => (hJ.2.2.2.2.2.2.2.2.2.2.2.2.2.2.2.2.2.2.2.2) (q.resolve_left (by decide))⟩
      refine StepsOk.cons (i := 12) rfl (fun L x G w1 K Q hn hp hJ hK => ?_) ?_
      · skip
        have p11 : L 11 := hp ⟨11, .data⟩ (by simp) rfl
        have e11 := (hJ.2.2.2.2.2.2.2.2.2.2.2.2.1) p11
        simp only [putAll, Act.put, List.setIfInBounds_toArray, List.set_cons_zero, List.set_cons_succ]
        go_simp
        refine hK _ G _ (by kernel_rfl) ?_
        exact ⟨(hJ.1),
          fun q => (hJ.2.1) (q.resolve_left (by decide)),
          fun q => (hJ.2.2.1) (q.resolve_left (by decide)),
          fun q => (hJ.2.2.2.1) (q.resolve_left (by decide)),
          fun q => (hJ.2.2.2.2.1) (q.resolve_left (by decide)),
          fun q => (hJ.2.2.2.2.2.1) (q.resolve_left (by decide)),
          fun q => (hJ.2.2.2.2.2.2.1) (q.resolve_left (by decide)),
          fun q => (hJ.2.2.2.2.2.2.2.1) (q.resolve_left (by decide)),
          fun q => (hJ.2.2.2.2.2.2.2.2.1) (q.resolve_left (by decide)),
          fun q => (hJ.2.2.2.2.2.2.2.2.2.1) (q.resolve_left (by decide)),
          fun q => (hJ.2.2.2.2.2.2.2.2.2.2.1) (q.resolve_left (by decide)),
          fun q => (hJ.2.2.2.2.2.2.2.2.2.2.2.1) (q.resolve_left (by decide)),
          fun _ => by first | exact rfl | exact e11,
          fun _ => rfl,
          fun q => (hJ.2.2.2.2.2.2.2.2.2.2.2.2.2.2.1) (q.resolve_left (by decide)),
          fun q => (hJ.2.2.2.2.2.2.2.2.2.2.2.2.2.2.2.1) (q.resolve_left (by decide)),
          fun q => (hJ.2.2.2.2.2.2.2.2.2.2.2.2.2.2.2.2.1) (q.resolve_left (by decide)),
          fun q => (hJ.2.2.2.2.2.2.2.2.2.2.2.2.2.2.2.2.2.1) (q.resolve_left (by decide)),
          fun q => (hJ.2.2.2.2.2.2.2.2.2.2.2.2.2.2.2.2.2.2.1) (q.resolve_left (by decide)),
          fun q => (hJ.2.2.2.2.2.2.2.2.2.2.2.2.2.2.2.2.2.2.2.1) (q.resolve_left (by decide)),
          fun q => (hJ.2.2.2.2.2.2.2.2.2.2.2.2.2.2.2.2.2.2.2.2) (q.resolve_left (by decide))⟩
      refine StepsOk.consT (i := 13) 12 62 true rfl rfl (by kernel_rfl) (fun L x G w1 hp hJ => hJ.2.2.2.2.2.2.2.2.2.2.2.2.2.1 (hp ⟨12, .guard⟩ (by simp) rfl)) (fun L x G w1 K Q hn hp hJ hK => ?_) ?_
      · skip
        have hc := ((S).keep (hJ.1)).open2
        have c0 := hc.1
        have c1 := hc.2.1
        clear hc
        simp only [putAll, Act.put, List.setIfInBounds_toArray, List.set_cons_zero, List.set_cons_succ]
        go_simp
        refine hK _ G _ (by kernel_rfl) ?_
        exact ⟨(hJ.1),
          fun q => (hJ.2.1) (q.resolve_left (by decide)),
          fun q => (hJ.2.2.1) (q.resolve_left (by decide)),
          fun q => (hJ.2.2.2.1) (q.resolve_left (by decide)),
          fun q => (hJ.2.2.2.2.1) (q.resolve_left (by decide)),
          fun q => (hJ.2.2.2.2.2.1) (q.resolve_left (by decide)),
          fun q => (hJ.2.2.2.2.2.2.1) (q.resolve_left (by decide)),
          fun q => (hJ.2.2.2.2.2.2.2.1) (q.resolve_left (by decide)),
          fun q => (hJ.2.2.2.2.2.2.2.2.1) (q.resolve_left (by decide)),
          fun q => (hJ.2.2.2.2.2.2.2.2.2.1) (q.resolve_left (by decide)),
          fun q => (hJ.2.2.2.2.2.2.2.2.2.2.1) (q.resolve_left (by decide)),
          fun q => (hJ.2.2.2.2.2.2.2.2.2.2.2.1) (q.resolve_left (by decide)),
          fun q => (hJ.2.2.2.2.2.2.2.2.2.2.2.2.1) (q.resolve_left (by decide)),
          fun q => (hJ.2.2.2.2.2.2.2.2.2.2.2.2.2.1) (q.resolve_left (by decide)),
          fun _ => rfl,
          fun q => (hJ.2.2.2.2.2.2.2.2.2.2.2.2.2.2.2.1) (q.resolve_left (by decide)),
          fun q => (hJ.2.2.2.2.2.2.2.2.2.2.2.2.2.2.2.2.1) (q.resolve_left (by decide)),
          fun q => (hJ.2.2.2.2.2.2.2.2.2.2.2.2.2.2.2.2.2.1) (q.resolve_left (by decide)),
          fun q => (hJ.2.2.2.2.2.2.2.2.2.2.2.2.2.2.2.2.2.2.1) (q.resolve_left (by decide)),
          fun q => (hJ.2.2.2.2.2.2.2.2.2.2.2.2.2.2.2.2.2.2.2.1) (q.resolve_left (by decide)),
          fun q => (hJ.2.2.2.2.2.2.2.2.2.2.2.2.2.2.2.2.2.2.2.2) (q.resolve_left (by decide))⟩
      refine StepsOk.consT (i := 14) 12 62 true rfl rfl (by kernel_rfl) (fun L x G w1 hp hJ => hJ.2.2.2.2.2.2.2.2.2.2.2.2.2.1 (hp ⟨12, .guard⟩ (by simp) rfl)) (fun L x G w1 K Q hn hp hJ hK => ?_) ?_
      · skip
        simp only [putAll, Act.put, List.setIfInBounds_toArray, List.set_cons_zero, List.set_cons_succ]
        go_simp
        refine hK _ G _ (by kernel_rfl) ?_
        exact ⟨(hJ.1),
          fun q => (hJ.2.1) (q.resolve_left (by decide)),
          fun q => (hJ.2.2.1) (q.resolve_left (by decide)),
          fun q => (hJ.2.2.2.1) (q.resolve_left (by decide)),
          fun q => (hJ.2.2.2.2.1) (q.resolve_left (by decide)),
          fun q => (hJ.2.2.2.2.2.1) (q.resolve_left (by decide)),
          fun q => (hJ.2.2.2.2.2.2.1) (q.resolve_left (by decide)),
          fun q => (hJ.2.2.2.2.2.2.2.1) (q.resolve_left (by decide)),
          fun q => (hJ.2.2.2.2.2.2.2.2.1) (q.resolve_left (by decide)),
          fun q => (hJ.2.2.2.2.2.2.2.2.2.1) (q.resolve_left (by decide)),
          fun q => (hJ.2.2.2.2.2.2.2.2.2.2.1) (q.resolve_left (by decide)),
          fun q => (hJ.2.2.2.2.2.2.2.2.2.2.2.1) (q.resolve_left (by decide)),
          fun q => (hJ.2.2.2.2.2.2.2.2.2.2.2.2.1) (q.resolve_left (by decide)),
          fun q => (hJ.2.2.2.2.2.2.2.2.2.2.2.2.2.1) (q.resolve_left (by decide)),
          fun q => (hJ.2.2.2.2.2.2.2.2.2.2.2.2.2.2.1) (q.resolve_left (by decide)),
          fun _ => rfl,
          fun q => (hJ.2.2.2.2.2.2.2.2.2.2.2.2.2.2.2.2.1) (q.resolve_left (by decide)),
          fun q => (hJ.2.2.2.2.2.2.2.2.2.2.2.2.2.2.2.2.2.1) (q.resolve_left (by decide)),
          fun q => (hJ.2.2.2.2.2.2.2.2.2.2.2.2.2.2.2.2.2.2.1) (q.resolve_left (by decide)),
          fun q => (hJ.2.2.2.2.2.2.2.2.2.2.2.2.2.2.2.2.2.2.2.1) (q.resolve_left (by decide)),
          fun q => (hJ.2.2.2.2.2.2.2.2.2.2.2.2.2.2.2.2.2.2.2.2) (q.resolve_left (by decide))⟩
      refine StepsOk.consT (i := 15) 12 62 true rfl rfl (by kernel_rfl) (fun L x G w1 hp hJ => hJ.2.2.2.2.2.2.2.2.2.2.2.2.2.1 (hp ⟨12, .guard⟩ (by simp) rfl)) (fun L x G w1 K Q hn hp hJ hK => ?_) ?_
      · skip
        have p14 : L 14 := hp ⟨14, .data⟩ (by simp) rfl
        have e14 := (hJ.2.2.2.2.2.2.2.2.2.2.2.2.2.2.2.1) p14
        simp only [putAll, Act.put, List.setIfInBounds_toArray, List.set_cons_zero, List.set_cons_succ]
        go_simp
        refine (of_c _ _ a1 a2).mono ?_
        rintro e w2 ⟨rfl, hb⟩
        have hz := hb.size
        try go_simp
        refine hK _ G _ (by kernel_rfl) ?_
        exact ⟨bt (hJ.1) hb,
          fun q => (hJ.2.1) (q.resolve_left (by decide)),
          fun q => (hJ.2.2.1) (q.resolve_left (by decide)),
          fun q => (hJ.2.2.2.1) (q.resolve_left (by decide)),
          fun q => (hJ.2.2.2.2.1) (q.resolve_left (by decide)),
          fun q => (hJ.2.2.2.2.2.1) (q.resolve_left (by decide)),
          fun q => (hJ.2.2.2.2.2.2.1) (q.resolve_left (by decide)),
          fun q => (hJ.2.2.2.2.2.2.2.1) (q.resolve_left (by decide)),
          fun q => (hJ.2.2.2.2.2.2.2.2.1) (q.resolve_left (by decide)),
          fun q => (hJ.2.2.2.2.2.2.2.2.2.1) (q.resolve_left (by decide)),
          fun q => (hJ.2.2.2.2.2.2.2.2.2.2.1) (q.resolve_left (by decide)),
          fun q => (hJ.2.2.2.2.2.2.2.2.2.2.2.1) (q.resolve_left (by decide)),
          fun q => (hJ.2.2.2.2.2.2.2.2.2.2.2.2.1) (q.resolve_left (by decide)),
          fun q => (hJ.2.2.2.2.2.2.2.2.2.2.2.2.2.1) (q.resolve_left (by decide)),
          fun q => (hJ.2.2.2.2.2.2.2.2.2.2.2.2.2.2.1) (q.resolve_left (by decide)),
          fun _ => by first | exact rfl | exact e14,
          fun _ => rfl,
          fun q => (hJ.2.2.2.2.2.2.2.2.2.2.2.2.2.2.2.2.2.1) (q.resolve_left (by decide)),
          fun q => (hJ.2.2.2.2.2.2.2.2.2.2.2.2.2.2.2.2.2.2.1) (q.resolve_left (by decide)),
          fun q => (hJ.2.2.2.2.2.2.2.2.2.2.2.2.2.2.2.2.2.2.2.1) (q.resolve_left (by decide)),
          fun q => (hJ.2.2.2.2.2.2.2.2.2.2.2.2.2.2.2.2.2.2.2.2) (q.resolve_left (by decide))⟩
      refine StepsOk.consT (i := 16) 12 62 true rfl rfl (by kernel_rfl) (fun L x G w1 hp hJ => hJ.2.2.2.2.2.2.2.2.2.2.2.2.2.1 (hp ⟨12, .guard⟩ (by simp) rfl)) (fun L x G w1 K Q hn hp hJ hK => ?_) ?_
      · skip
        have p13 : L 13 := hp ⟨13, .data⟩ (by simp) rfl
        have e13 := (hJ.2.2.2.2.2.2.2.2.2.2.2.2.2.2.1) p13
        have p15 : L 15 := hp ⟨15, .data⟩ (by simp) rfl
        have e15 := (hJ.2.2.2.2.2.2.2.2.2.2.2.2.2.2.2.2.1) p15
        simp only [putAll, Act.put, List.setIfInBounds_toArray, List.set_cons_zero, List.set_cons_succ]
        go_simp
        refine (cmp_c _ _ _ _ _ _ _ wr oa).mono ?_
        rw [e2.out]
        rintro e w2 ⟨rfl, hb⟩
        have hz := hb.size
        try go_simp
        refine hK _ G _ (by kernel_rfl) ?_
        exact ⟨bt (hJ.1) hb,
          fun q => (hJ.2.1) (q.resolve_left (by decide)),
          fun q => (hJ.2.2.1) (q.resolve_left (by decide)),
          fun q => (hJ.2.2.2.1) (q.resolve_left (by decide)),
          fun q => (hJ.2.2.2.2.1) (q.resolve_left (by decide)),
          fun q => (hJ.2.2.2.2.2.1) (q.resolve_left (by decide)),
          fun q => (hJ.2.2.2.2.2.2.1) (q.resolve_left (by decide)),
          fun q => (hJ.2.2.2.2.2.2.2.1) (q.resolve_left (by decide)),
          fun q => (hJ.2.2.2.2.2.2.2.2.1) (q.resolve_left (by decide)),
          fun q => (hJ.2.2.2.2.2.2.2.2.2.1) (q.resolve_left (by decide)),
          fun q => (hJ.2.2.2.2.2.2.2.2.2.2.1) (q.resolve_left (by decide)),
          fun q => (hJ.2.2.2.2.2.2.2.2.2.2.2.1) (q.resolve_left (by decide)),
          fun q => (hJ.2.2.2.2.2.2.2.2.2.2.2.2.1) (q.resolve_left (by decide)),
          fun q => (hJ.2.2.2.2.2.2.2.2.2.2.2.2.2.1) (q.resolve_left (by decide)),
          fun _ => by first | exact rfl | exact e13,
          fun q => (hJ.2.2.2.2.2.2.2.2.2.2.2.2.2.2.2.1) (q.resolve_left (by decide)),
          fun _ => by first | exact rfl | exact e15,
          fun _ => rfl,
          fun q => (hJ.2.2.2.2.2.2.2.2.2.2.2.2.2.2.2.2.2.2.1) (q.resolve_left (by decide)),
          fun q => (hJ.2.2.2.2.2.2.2.2.2.2.2.2.2.2.2.2.2.2.2.1) (q.resolve_left (by decide)),
          fun q => (hJ.2.2.2.2.2.2.2.2.2.2.2.2.2.2.2.2.2.2.2.2) (q.resolve_left (by decide))⟩
      refine StepsOk.consT (i := 17) 12 62 true rfl rfl (by kernel_rfl) (fun L x G w1 hp hJ => hJ.2.2.2.2.2.2.2.2.2.2.2.2.2.1 (hp ⟨12, .guard⟩ (by simp) rfl)) (fun L x G w1 K Q hn hp hJ hK => ?_) ?_
      · skip
        have p16 : L 16 := hp ⟨16, .data⟩ (by simp) rfl
        have e16 := (hJ.2.2.2.2.2.2.2.2.2.2.2.2.2.2.2.2.2.1) p16
        simp only [putAll, Act.put, List.setIfInBounds_toArray, List.set_cons_zero, List.set_cons_succ]
        go_simp
        refine hK _ G _ (by kernel_rfl) ?_
        exact ⟨(hJ.1),
          fun q => (hJ.2.1) (q.resolve_left (by decide)),
          fun q => (hJ.2.2.1) (q.resolve_left (by decide)),
          fun q => (hJ.2.2.2.1) (q.resolve_left (by decide)),
          fun q => (hJ.2.2.2.2.1) (q.resolve_left (by decide)),
          fun q => (hJ.2.2.2.2.2.1) (q.resolve_left (by decide)),
          fun q => (hJ.2.2.2.2.2.2.1) (q.resolve_left (by decide)),
          fun q => (hJ.2.2.2.2.2.2.2.1) (q.resolve_left (by decide)),
          fun q => (hJ.2.2.2.2.2.2.2.2.1) (q.resolve_left (by decide)),
          fun q => (hJ.2.2.2.2.2.2.2.2.2.1) (q.resolve_left (by decide)),
          fun q => (hJ.2.2.2.2.2.2.2.2.2.2.1) (q.resolve_left (by decide)),
          fun q => (hJ.2.2.2.2.2.2.2.2.2.2.2.1) (q.resolve_left (by decide)),
          fun q => (hJ.2.2.2.2.2.2.2.2.2.2.2.2.1) (q.resolve_left (by decide)),
          fun q => (hJ.2.2.2.2.2.2.2.2.2.2.2.2.2.1) (q.resolve_left (by decide)),
          fun q => (hJ.2.2.2.2.2.2.2.2.2.2.2.2.2.2.1) (q.resolve_left (by decide)),
          fun q => (hJ.2.2.2.2.2.2.2.2.2.2.2.2.2.2.2.1) (q.resolve_left (by decide)),
          fun q => (hJ.2.2.2.2.2.2.2.2.2.2.2.2.2.2.2.2.1) (q.resolve_left (by decide)),
          fun _ => by first | exact rfl | exact e16,
          fun _ => rfl,
          fun q => (hJ.2.2.2.2.2.2.2.2.2.2.2.2.2.2.2.2.2.2.2.1) (q.resolve_left (by decide)),
          fun q => (hJ.2.2.2.2.2.2.2.2.2.2.2.2.2.2.2.2.2.2.2.2) (q.resolve_left (by decide))⟩
      refine StepsOk.cons (i := 18) rfl (fun L x G w1 K Q hn hp hJ hK => ?_) ?_
      · skip
        have p12 : L 12 := hp ⟨12, .data⟩ (by simp) rfl
        have e12 := (hJ.2.2.2.2.2.2.2.2.2.2.2.2.2.1) p12
        have p17 : L 17 := hp ⟨17, .data⟩ (by simp) rfl
        have e17 := (hJ.2.2.2.2.2.2.2.2.2.2.2.2.2.2.2.2.2.2.1) p17
        simp only [putAll, Act.put, List.setIfInBounds_toArray, List.set_cons_zero, List.set_cons_succ]
        go_simp
        refine hK _ G _ (by kernel_rfl) ?_
        exact ⟨(hJ.1),
          fun q => (hJ.2.1) (q.resolve_left (by decide)),
          fun q => (hJ.2.2.1) (q.resolve_left (by decide)),
          fun q => (hJ.2.2.2.1) (q.resolve_left (by decide)),
          fun q => (hJ.2.2.2.2.1) (q.resolve_left (by decide)),
          fun q => (hJ.2.2.2.2.2.1) (q.resolve_left (by decide)),
          fun q => (hJ.2.2.2.2.2.2.1) (q.resolve_left (by decide)),
          fun q => (hJ.2.2.2.2.2.2.2.1) (q.resolve_left (by decide)),
          fun q => (hJ.2.2.2.2.2.2.2.2.1) (q.resolve_left (by decide)),
          fun q => (hJ.2.2.2.2.2.2.2.2.2.1) (q.resolve_left (by decide)),
          fun q => (hJ.2.2.2.2.2.2.2.2.2.2.1) (q.resolve_left (by decide)),
          fun q => (hJ.2.2.2.2.2.2.2.2.2.2.2.1) (q.resolve_left (by decide)),
          fun q => (hJ.2.2.2.2.2.2.2.2.2.2.2.2.1) (q.resolve_left (by decide)),
          fun _ => by first | exact rfl | exact e12,
          fun q => (hJ.2.2.2.2.2.2.2.2.2.2.2.2.2.2.1) (q.resolve_left (by decide)),
          fun q => (hJ.2.2.2.2.2.2.2.2.2.2.2.2.2.2.2.1) (q.resolve_left (by decide)),
          fun q => (hJ.2.2.2.2.2.2.2.2.2.2.2.2.2.2.2.2.1) (q.resolve_left (by decide)),
          fun q => (hJ.2.2.2.2.2.2.2.2.2.2.2.2.2.2.2.2.2.1) (q.resolve_left (by decide)),
          fun _ => by first | exact rfl | exact e17,
          fun _ => rfl,
          fun q => (hJ.2.2.2.2.2.2.2.2.2.2.2.2.2.2.2.2.2.2.2.2) (q.resolve_left (by decide))⟩
      refine StepsOk.cons (i := 19) rfl (fun L x G w1 K Q hn hp hJ hK => ?_) ?_
      · skip
        have p18 : L 18 := hp ⟨18, .data⟩ (by simp) rfl
        have e18 := (hJ.2.2.2.2.2.2.2.2.2.2.2.2.2.2.2.2.2.2.2.1) p18
        simp only [putAll, Act.put, List.setIfInBounds_toArray, List.set_cons_zero, List.set_cons_succ]
        go_simp
        refine hK _ G _ (by kernel_rfl) ?_
        exact ⟨(hJ.1),
          fun q => (hJ.2.1) (q.resolve_left (by decide)),
          fun q => (hJ.2.2.1) (q.resolve_left (by decide)),
          fun q => (hJ.2.2.2.1) (q.resolve_left (by decide)),
          fun q => (hJ.2.2.2.2.1) (q.resolve_left (by decide)),
          fun q => (hJ.2.2.2.2.2.1) (q.resolve_left (by decide)),
          fun q => (hJ.2.2.2.2.2.2.1) (q.resolve_left (by decide)),
          fun q => (hJ.2.2.2.2.2.2.2.1) (q.resolve_left (by decide)),
          fun q => (hJ.2.2.2.2.2.2.2.2.1) (q.resolve_left (by decide)),
          fun q => (hJ.2.2.2.2.2.2.2.2.2.1) (q.resolve_left (by decide)),
          fun q => (hJ.2.2.2.2.2.2.2.2.2.2.1) (q.resolve_left (by decide)),
          fun q => (hJ.2.2.2.2.2.2.2.2.2.2.2.1) (q.resolve_left (by decide)),
          fun q => (hJ.2.2.2.2.2.2.2.2.2.2.2.2.1) (q.resolve_left (by decide)),
          fun q => (hJ.2.2.2.2.2.2.2.2.2.2.2.2.2.1) (q.resolve_left (by decide)),
          fun q => (hJ.2.2.2.2.2.2.2.2.2.2.2.2.2.2.1) (q.resolve_left (by decide)),
          fun q => (hJ.2.2.2.2.2.2.2.2.2.2.2.2.2.2.2.1) (q.resolve_left (by decide)),
          fun q => (hJ.2.2.2.2.2.2.2.2.2.2.2.2.2.2.2.2.1) (q.resolve_left (by decide)),
          fun q => (hJ.2.2.2.2.2.2.2.2.2.2.2.2.2.2.2.2.2.1) (q.resolve_left (by decide)),
          fun q => (hJ.2.2.2.2.2.2.2.2.2.2.2.2.2.2.2.2.2.2.1) (q.resolve_left (by decide)),
          fun _ => by first | exact rfl | exact e18,
          fun _ => rfl⟩
      exact StepsOk.nil
    case fin =>
      intro L x G w5 hall hJ
      have u0 := hJ.2.1 (hall 0 (by decide))
      have u1 := hJ.2.2.1 (hall 1 (by decide))
      have u2 := hJ.2.2.2.1 (hall 2 (by decide))
      have u3 := hJ.2.2.2.2.1 (hall 3 (by decide))
      have u4 := hJ.2.2.2.2.2.1 (hall 4 (by decide))
      have u5 := hJ.2.2.2.2.2.2.1 (hall 5 (by decide))
      have u6 := hJ.2.2.2.2.2.2.2.1 (hall 6 (by decide))
      have u7 := hJ.2.2.2.2.2.2.2.2.1 (hall 7 (by decide))
      have u8 := hJ.2.2.2.2.2.2.2.2.2.1 (hall 8 (by decide))
      have u9 := hJ.2.2.2.2.2.2.2.2.2.2.1 (hall 9 (by decide))
      have u10 := hJ.2.2.2.2.2.2.2.2.2.2.2.1 (hall 10 (by decide))
      have u11 := hJ.2.2.2.2.2.2.2.2.2.2.2.2.1 (hall 11 (by decide))
      have u12 := hJ.2.2.2.2.2.2.2.2.2.2.2.2.2.1 (hall 12 (by decide))
      have u13 := hJ.2.2.2.2.2.2.2.2.2.2.2.2.2.2.1 (hall 13 (by decide))
      have u14 := hJ.2.2.2.2.2.2.2.2.2.2.2.2.2.2.2.1 (hall 14 (by decide))
      have u15 := hJ.2.2.2.2.2.2.2.2.2.2.2.2.2.2.2.2.1 (hall 15 (by decide))
      have u16 := hJ.2.2.2.2.2.2.2.2.2.2.2.2.2.2.2.2.2.1 (hall 16 (by decide))
      have u17 := hJ.2.2.2.2.2.2.2.2.2.2.2.2.2.2.2.2.2.2.1 (hall 17 (by decide))
      have u18 := hJ.2.2.2.2.2.2.2.2.2.2.2.2.2.2.2.2.2.2.2.1 (hall 18 (by decide))
      have u19 := hJ.2.2.2.2.2.2.2.2.2.2.2.2.2.2.2.2.2.2.2.2 (hall 19 (by decide))
      have hr_ := hJ.1
      replace S := S.keep hr_
      replace hB := bt hB hr_
      have sz5 := hr_.size
      clear hr_
      simp only [putAll, Act.put, List.setIfInBounds_toArray, List.set_cons_zero, List.set_cons_succ]
      simp only [u0, u1, u2, u3, u4, u5, u6, u7, u8, u9, u10, u11, u12, u13, u14, u15, u16, u17, u18, u19]
      clear hall hJ u0 u1 u2 u3 u4 u5 u6 u7 u8 u9 u10 u11 u12 u13 u14 u15 u16 u17 u18 u19
      go_wp2_with fail
      go_returns
      exact ⟨rfl, hB⟩

theorem law_remainder (h l xx a : Int) (w : World) (H : Wi.Wd h l xx) (a1 : -9223372036854775808 ≤ a) (a2 : a ≤ 9223372036854775807) : Calls Try.prog 11 #[.agg #[.int .i64 h, .int .u64 l], .int .i64 a] w fun e w' =>
    e = .returned (.bool true) ∧ Below w.heap.size w w' := by
  by_cases h0 : a = 0
  · exact rem_1 h l xx a w H a1 a2 h0
  · by_cases h1 : a < 0
    · exact rem_2 h l xx a w H a1 a2 h1
    · by_cases h2 : h = -9223372036854775808
      · exact rem_3 h l xx a w H a1 a2 (by omega) h2
      · have r0 := Int.emod_nonneg xx h0
        by_cases h3 : xx % a = 0
        · exact rem_4 h l xx a w H a1 a2 (by omega) h2 h3
        · exact rem_5 h l xx a w H a1 a2 (by omega) h2 (by omega)
end Go.Proofs.Ytnkgoojjnikaeaa
