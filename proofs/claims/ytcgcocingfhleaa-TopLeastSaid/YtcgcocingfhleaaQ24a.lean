/-
  The walk of TopLeast, by cases.
-/
import Derived.Test.YtcgcocingfhleaaQ24p
import Derived.Test.YtcgcocingfhleaaInv2
namespace Go.Proofs.Ytcgcocingfhleaa
set_option linter.unusedVariables false
set_option linter.unusedSimpArgs false
open Go.RowKit
attribute [local irreducible] World.setCell World.cell?

set_option maxRecDepth 100000 in
set_option maxHeartbeats 4000000 in
theorem top_e (A : Option Addr) (n c : Nat) (M : Lq.Tab) (ux uy v : Int) (w : World) (T : Rd w 6 A n c (iv M)) (bx : -9223372036854775808 ≤ ux ∧ ux ≤ 9223372036854775807) (by_ : -9223372036854775808 ≤ uy ∧ uy ≤ 9223372036854775807) (k : Nat) (hkn : k ≤ n) (f2 : (if (17 : Int) < (n : Int) then (17 : Int) else (n : Int)) = (k : Int)) (h : Lq.er k M ≠ 0) :
    Calls Try.prog 12 #[.slice A n c, .agg #[.int .i64 ux, .int .i64 uy], .int .i64 v] w fun e w' => e = .returned (.bool true) ∧ Below w.heap.size w w' := by
  have r1 := T.le
  have r2 := T.mx
  have f3 : (k : Int) ≤ (c : Int) := by omega
  have T0 := T.short hkn
  have KN1 := fun W_ : World => nav_c ux W_ bx.1 bx.2
  have KN2 := fun W_ : World => nav_c uy W_ by_.1 by_.2
  go_enter Try.func12, Try.ntmps12
  try simp only [List.append_eq, List.cons_append, List.nil_append]
  have P := Blk.new w 36 #[.int .i64 (ux), .int .i64 (uy)]
  have hB := ba w (.cells #[.int .i64 (ux), .int .i64 (uy)] 36)
  have A4 := Blk.new1 w (.cells #[.int .i64 (ux), .int .i64 (uy)] 36) 43 #[.int .i64 (1), .int .i64 (2), .int .i64 (0), .int .i64 (6), .int .i64 (0), .int .i64 (1), .int .i64 (2), .int .i64 (0), .int .i64 (1), .int .i64 (5), .int .i64 (0), .int .i64 (2)]
  replace P := P.alloc (.cells #[.int .i64 (1), .int .i64 (2), .int .i64 (0), .int .i64 (6), .int .i64 (0), .int .i64 (1), .int .i64 (2), .int .i64 (0), .int .i64 (1), .int .i64 (5), .int .i64 (0), .int .i64 (2)] 43)
  replace hB := bal hB (.cells #[.int .i64 (1), .int .i64 (2), .int .i64 (0), .int .i64 (6), .int .i64 (0), .int .i64 (1), .int .i64 (2), .int .i64 (0), .int .i64 (1), .int .i64 (5), .int .i64 (0), .int .i64 (2)] 43)
  obtain ⟨c00, c01, c02, c03⟩ := P.open2
  go_wp2_with fail
  refine (sol4 A4).mono ?_
  rintro e w1 ⟨rfl, hb⟩
  clear c00 c01 c02 c03
  replace P := P.keep hb
  replace A4 := A4.keep hb
  replace hB := bt hB hb
  clear hb
  have hz1 := hB.size
  have l1P := P.lt
  have l1A4 := A4.lt
  replace P := P.alloc (.cells #[.int .i64 (Wi.Hq (24)), .int .u64 (Wi.Lr (24)), .int .i64 (Wi.Hq (40)), .int .u64 (Wi.Lr (40)), .int .i64 (8), .int .i64 (3), .int .i64 (5)] 38)
  replace A4 := A4.alloc (.cells #[.int .i64 (Wi.Hq (24)), .int .u64 (Wi.Lr (24)), .int .i64 (Wi.Hq (40)), .int .u64 (Wi.Lr (40)), .int .i64 (8), .int .i64 (3), .int .i64 (5)] 38)
  replace hB := bal hB (.cells #[.int .i64 (Wi.Hq (24)), .int .u64 (Wi.Lr (24)), .int .i64 (Wi.Hq (40)), .int .u64 (Wi.Lr (40)), .int .i64 (8), .int .i64 (3), .int .i64 (5)] 38)
  have S := Blk.new w1 38 #[.int .i64 (Wi.Hq (24)), .int .u64 (Wi.Lr (24)), .int .i64 (Wi.Hq (40)), .int .u64 (Wi.Lr (40)), .int .i64 (8), .int .i64 (3), .int .i64 (5)]
  have h1 : (Lq.er k M != 0) = true := by simpa using h
  have h4 : (Lq.er k M == 0) = false := by simpa using h
  have H := Lib.hid h
  clear h
  obtain ⟨c00, c01, c02, c03⟩ := P.open2
  obtain ⟨c10, c11, c12, c13, c14, c15, c16, c17, c18⟩ := S.open7
  go_wp2_with fail
  refine (least_no _ _ _ _ _ (T0.keep hB) H.out).mono ?_
  rintro e w2 ⟨rfl, hb⟩
  clear c00 c01 c02 c03 c10 c11 c12 c13 c14 c15 c16 c17 c18
  replace P := P.keep hb
  replace S := S.keep hb
  replace hB := bt hB hb
  clear hb
  have hz2 := hB.size
  have l2P := P.lt
  have l2S := S.lt
  replace P := P.alloc (.cells #[.int .i64 (0), .int .u64 (0)] 34)
  replace S := S.alloc (.cells #[.int .i64 (0), .int .u64 (0)] 34)
  replace hB := bal hB (.cells #[.int .i64 (0), .int .u64 (0)] 34)
  have N := Blk.new w2 34 #[.int .i64 (0), .int .u64 (0)]
  generalize w2.heap.size = gN at *
  skip
  go_wp2_with fail
  refine wp_region_inv (fun L x G wx => (((((Below w.heap.size w wx
        ∧ w.heap.size < wx.heap.size)
        ∧ (Blk wx (w.heap.size) 36 #[.int .i64 (ux), .int .i64 (uy)]
        ∧ gN < wx.heap.size))
        ∧ ((Blk wx (gN) 34 #[.int .i64 (0), .int .u64 (0)]
        ∧ (L 0 → x 51 = .int .i64 (Lq.er k M)))
        ∧ ((L 1 → x 52 = .bool (true))
        ∧ (L 2 → x 53 = .bool (true)))))
        ∧ ((((L 3 → x 54 = undef)
        ∧ (L 4 → x 55 = undef))
        ∧ ((L 5 → x 56 = .bool (true))
        ∧ (L 6 → x 57 = .bool (true))))
        ∧ (((L 7 → x 58 = undef)
        ∧ (L 8 → x 59 = undef))
        ∧ ((L 9 → x 60 = .bool (true))
        ∧ ((L 10 → x 61 = .bool (true))
        ∧ (L 11 → x 62 = undef))))))
        ∧ (((((L 12 → x 63 = undef)
        ∧ (L 13 → x 64 = undef))
        ∧ ((L 14 → x 65 = undef)
        ∧ (L 15 → x 66 = undef)))
        ∧ (((L 16 → x 67 = undef)
        ∧ (L 17 → x 68 = undef))
        ∧ ((L 18 → x 69 = undef)
        ∧ ((L 19 → x 70 = .bool (true))
        ∧ (L 20 → x 71 = .bool (true))))))
        ∧ ((((L 21 → x 72 = undef)
        ∧ (L 22 → x 73 = undef))
        ∧ ((L 23 → x 74 = undef)
        ∧ (L 24 → x 75 = .bool (true))))
        ∧ (((L 25 → x 76 = .bool (true))
        ∧ (L 26 → x 77 = undef))
        ∧ ((L 27 → x 78 = undef)
        ∧ ((L 28 → x 79 = undef)
        ∧ (L 29 → x 80 = .bool (true))))))))) [51, 52, 53, 54, 55, 56, 57, 58, 59, 60, 61, 62, 63, 64, 65, 66, 67, 68, 69, 70, 71, 72, 73, 74, 75, 76, 77, 78, 79, 80] 30 (by kernel_rfl) (by kernel_rfl) (by kernel_rfl) ?h0 ?st ?fin
  case h0 =>
    exact ⟨⟨⟨⟨⟨bdr hB, Blk.lt P.drew⟩, ⟨P.drew, Blk.lt N.drew⟩⟩, ⟨⟨N.drew, fun q => q.elim⟩, ⟨fun q => q.elim, fun q => q.elim⟩⟩⟩, ⟨⟨⟨fun q => q.elim, fun q => q.elim⟩, ⟨fun q => q.elim, fun q => q.elim⟩⟩, ⟨⟨fun q => q.elim, fun q => q.elim⟩, ⟨fun q => q.elim, ⟨fun q => q.elim, fun q => q.elim⟩⟩⟩⟩⟩, ⟨⟨⟨⟨fun q => q.elim, fun q => q.elim⟩, ⟨fun q => q.elim, fun q => q.elim⟩⟩, ⟨⟨fun q => q.elim, fun q => q.elim⟩, ⟨fun q => q.elim, ⟨fun q => q.elim, fun q => q.elim⟩⟩⟩⟩, ⟨⟨⟨fun q => q.elim, fun q => q.elim⟩, ⟨fun q => q.elim, fun q => q.elim⟩⟩, ⟨⟨fun q => q.elim, fun q => q.elim⟩, ⟨fun q => q.elim, ⟨fun q => q.elim, fun q => q.elim⟩⟩⟩⟩⟩⟩
  case st =>
    refine StepsOk.cons (i := 0) rfl (fun L x G w1 K Q hn hp hJ hK => ?_) ?_
    · skip
      simp only [putAll, Act.put, List.setIfInBounds_toArray, List.set_cons_zero, List.set_cons_succ]
      go_simp
      refine hK _ G _ (by kernel_rfl) ?_
      exact ⟨⟨⟨⟨⟨(hJ.1.1.1.1.1), (hJ.1.1.1.1.2)⟩, ⟨(hJ.1.1.1.2.1), (hJ.1.1.1.2.2)⟩⟩, ⟨⟨(hJ.1.1.2.1.1), fun _ => rfl⟩, ⟨fun q => (hJ.1.1.2.2.1) (rl q), fun q => (hJ.1.1.2.2.2) (rl q)⟩⟩⟩, ⟨⟨⟨fun q => (hJ.1.2.1.1.1) (rl q), fun q => (hJ.1.2.1.1.2) (rl q)⟩, ⟨fun q => (hJ.1.2.1.2.1) (rl q), fun q => (hJ.1.2.1.2.2) (rl q)⟩⟩, ⟨⟨fun q => (hJ.1.2.2.1.1) (rl q), fun q => (hJ.1.2.2.1.2) (rl q)⟩, ⟨fun q => (hJ.1.2.2.2.1) (rl q), ⟨fun q => (hJ.1.2.2.2.2.1) (rl q), fun q => (hJ.1.2.2.2.2.2) (rl q)⟩⟩⟩⟩⟩, ⟨⟨⟨⟨fun q => (hJ.2.1.1.1.1) (rl q), fun q => (hJ.2.1.1.1.2) (rl q)⟩, ⟨fun q => (hJ.2.1.1.2.1) (rl q), fun q => (hJ.2.1.1.2.2) (rl q)⟩⟩, ⟨⟨fun q => (hJ.2.1.2.1.1) (rl q), fun q => (hJ.2.1.2.1.2) (rl q)⟩, ⟨fun q => (hJ.2.1.2.2.1) (rl q), ⟨fun q => (hJ.2.1.2.2.2.1) (rl q), fun q => (hJ.2.1.2.2.2.2) (rl q)⟩⟩⟩⟩, ⟨⟨⟨fun q => (hJ.2.2.1.1.1) (rl q), fun q => (hJ.2.2.1.1.2) (rl q)⟩, ⟨fun q => (hJ.2.2.1.2.1) (rl q), fun q => (hJ.2.2.1.2.2) (rl q)⟩⟩, ⟨⟨fun q => (hJ.2.2.2.1.1) (rl q), fun q => (hJ.2.2.2.1.2) (rl q)⟩, ⟨fun q => (hJ.2.2.2.2.1) (rl q), ⟨fun q => (hJ.2.2.2.2.2.1) (rl q), fun q => (hJ.2.2.2.2.2.2) (rl q)⟩⟩⟩⟩⟩⟩
    refine StepsOk.cons (i := 1) rfl (fun L x G w1 K Q hn hp hJ hK => ?_) ?_
    · skip
      have p0 : L 0 := hp ⟨0, .data⟩ (by simp) rfl
      have e0 := (hJ.1.1.2.1.2) p0
      simp only [putAll, Act.put, List.setIfInBounds_toArray, List.set_cons_zero, List.set_cons_succ]
      go_simp
      refine hK _ G _ (by kernel_rfl) ?_
      exact ⟨⟨⟨⟨⟨(hJ.1.1.1.1.1), (hJ.1.1.1.1.2)⟩, ⟨(hJ.1.1.1.2.1), (hJ.1.1.1.2.2)⟩⟩, ⟨⟨(hJ.1.1.2.1.1), fun _ => by first | exact rfl | exact e0⟩, ⟨fun _ => rfl, fun q => (hJ.1.1.2.2.2) (rl q)⟩⟩⟩, ⟨⟨⟨fun q => (hJ.1.2.1.1.1) (rl q), fun q => (hJ.1.2.1.1.2) (rl q)⟩, ⟨fun q => (hJ.1.2.1.2.1) (rl q), fun q => (hJ.1.2.1.2.2) (rl q)⟩⟩, ⟨⟨fun q => (hJ.1.2.2.1.1) (rl q), fun q => (hJ.1.2.2.1.2) (rl q)⟩, ⟨fun q => (hJ.1.2.2.2.1) (rl q), ⟨fun q => (hJ.1.2.2.2.2.1) (rl q), fun q => (hJ.1.2.2.2.2.2) (rl q)⟩⟩⟩⟩⟩, ⟨⟨⟨⟨fun q => (hJ.2.1.1.1.1) (rl q), fun q => (hJ.2.1.1.1.2) (rl q)⟩, ⟨fun q => (hJ.2.1.1.2.1) (rl q), fun q => (hJ.2.1.1.2.2) (rl q)⟩⟩, ⟨⟨fun q => (hJ.2.1.2.1.1) (rl q), fun q => (hJ.2.1.2.1.2) (rl q)⟩, ⟨fun q => (hJ.2.1.2.2.1) (rl q), ⟨fun q => (hJ.2.1.2.2.2.1) (rl q), fun q => (hJ.2.1.2.2.2.2) (rl q)⟩⟩⟩⟩, ⟨⟨⟨fun q => (hJ.2.2.1.1.1) (rl q), fun q => (hJ.2.2.1.1.2) (rl q)⟩, ⟨fun q => (hJ.2.2.1.2.1) (rl q), fun q => (hJ.2.2.1.2.2) (rl q)⟩⟩, ⟨⟨fun q => (hJ.2.2.2.1.1) (rl q), fun q => (hJ.2.2.2.1.2) (rl q)⟩, ⟨fun q => (hJ.2.2.2.2.1) (rl q), ⟨fun q => (hJ.2.2.2.2.2.1) (rl q), fun q => (hJ.2.2.2.2.2.2) (rl q)⟩⟩⟩⟩⟩⟩
    refine StepsOk.cons (i := 2) rfl (fun L x G w1 K Q hn hp hJ hK => ?_) ?_
    · skip
      have p1 : L 1 := hp ⟨1, .data⟩ (by simp) rfl
      have e1 := (hJ.1.1.2.2.1) p1
      simp only [putAll, Act.put, List.setIfInBounds_toArray, List.set_cons_zero, List.set_cons_succ]
      go_simp
      refine hK _ G _ (by kernel_rfl) ?_
      exact ⟨⟨⟨⟨⟨(hJ.1.1.1.1.1), (hJ.1.1.1.1.2)⟩, ⟨(hJ.1.1.1.2.1), (hJ.1.1.1.2.2)⟩⟩, ⟨⟨(hJ.1.1.2.1.1), fun q => (hJ.1.1.2.1.2) (rl q)⟩, ⟨fun _ => by first | exact rfl | exact e1, fun _ => rfl⟩⟩⟩, ⟨⟨⟨fun q => (hJ.1.2.1.1.1) (rl q), fun q => (hJ.1.2.1.1.2) (rl q)⟩, ⟨fun q => (hJ.1.2.1.2.1) (rl q), fun q => (hJ.1.2.1.2.2) (rl q)⟩⟩, ⟨⟨fun q => (hJ.1.2.2.1.1) (rl q), fun q => (hJ.1.2.2.1.2) (rl q)⟩, ⟨fun q => (hJ.1.2.2.2.1) (rl q), ⟨fun q => (hJ.1.2.2.2.2.1) (rl q), fun q => (hJ.1.2.2.2.2.2) (rl q)⟩⟩⟩⟩⟩, ⟨⟨⟨⟨fun q => (hJ.2.1.1.1.1) (rl q), fun q => (hJ.2.1.1.1.2) (rl q)⟩, ⟨fun q => (hJ.2.1.1.2.1) (rl q), fun q => (hJ.2.1.1.2.2) (rl q)⟩⟩, ⟨⟨fun q => (hJ.2.1.2.1.1) (rl q), fun q => (hJ.2.1.2.1.2) (rl q)⟩, ⟨fun q => (hJ.2.1.2.2.1) (rl q), ⟨fun q => (hJ.2.1.2.2.2.1) (rl q), fun q => (hJ.2.1.2.2.2.2) (rl q)⟩⟩⟩⟩, ⟨⟨⟨fun q => (hJ.2.2.1.1.1) (rl q), fun q => (hJ.2.2.1.1.2) (rl q)⟩, ⟨fun q => (hJ.2.2.1.2.1) (rl q), fun q => (hJ.2.2.1.2.2) (rl q)⟩⟩, ⟨⟨fun q => (hJ.2.2.2.1.1) (rl q), fun q => (hJ.2.2.2.1.2) (rl q)⟩, ⟨fun q => (hJ.2.2.2.2.1) (rl q), ⟨fun q => (hJ.2.2.2.2.2.1) (rl q), fun q => (hJ.2.2.2.2.2.2) (rl q)⟩⟩⟩⟩⟩⟩
    refine StepsOk.consF (i := 3) 2 53 false (.bool (true)) rfl rfl (by kernel_rfl) rfl (fun L x G w1 hp hJ => hJ.1.1.2.2.2 (hp ⟨2, .guard⟩ (by simp) rfl)) (fun L x G w1 K hn hp hJ hK => ?_) ?_
    · skip
      simp only [putAll, Act.put, List.setIfInBounds_toArray, List.set_cons_zero, List.set_cons_succ]
      refine hK _ G _ (by kernel_rfl) ?_
      exact ⟨⟨⟨⟨⟨(hJ.1.1.1.1.1), (hJ.1.1.1.1.2)⟩, ⟨(hJ.1.1.1.2.1), (hJ.1.1.1.2.2)⟩⟩, ⟨⟨(hJ.1.1.2.1.1), fun q => (hJ.1.1.2.1.2) (rl q)⟩, ⟨fun q => (hJ.1.1.2.2.1) (rl q), fun q => (hJ.1.1.2.2.2) (rl q)⟩⟩⟩, ⟨⟨⟨fun _ => rfl, fun q => (hJ.1.2.1.1.2) (rl q)⟩, ⟨fun q => (hJ.1.2.1.2.1) (rl q), fun q => (hJ.1.2.1.2.2) (rl q)⟩⟩, ⟨⟨fun q => (hJ.1.2.2.1.1) (rl q), fun q => (hJ.1.2.2.1.2) (rl q)⟩, ⟨fun q => (hJ.1.2.2.2.1) (rl q), ⟨fun q => (hJ.1.2.2.2.2.1) (rl q), fun q => (hJ.1.2.2.2.2.2) (rl q)⟩⟩⟩⟩⟩, ⟨⟨⟨⟨fun q => (hJ.2.1.1.1.1) (rl q), fun q => (hJ.2.1.1.1.2) (rl q)⟩, ⟨fun q => (hJ.2.1.1.2.1) (rl q), fun q => (hJ.2.1.1.2.2) (rl q)⟩⟩, ⟨⟨fun q => (hJ.2.1.2.1.1) (rl q), fun q => (hJ.2.1.2.1.2) (rl q)⟩, ⟨fun q => (hJ.2.1.2.2.1) (rl q), ⟨fun q => (hJ.2.1.2.2.2.1) (rl q), fun q => (hJ.2.1.2.2.2.2) (rl q)⟩⟩⟩⟩, ⟨⟨⟨fun q => (hJ.2.2.1.1.1) (rl q), fun q => (hJ.2.2.1.1.2) (rl q)⟩, ⟨fun q => (hJ.2.2.1.2.1) (rl q), fun q => (hJ.2.2.1.2.2) (rl q)⟩⟩, ⟨⟨fun q => (hJ.2.2.2.1.1) (rl q), fun q => (hJ.2.2.2.1.2) (rl q)⟩, ⟨fun q => (hJ.2.2.2.2.1) (rl q), ⟨fun q => (hJ.2.2.2.2.2.1) (rl q), fun q => (hJ.2.2.2.2.2.2) (rl q)⟩⟩⟩⟩⟩⟩
    refine StepsOk.consF (i := 4) 2 53 false (.bool (true)) rfl rfl (by kernel_rfl) rfl (fun L x G w1 hp hJ => hJ.1.1.2.2.2 (hp ⟨2, .guard⟩ (by simp) rfl)) (fun L x G w1 K hn hp hJ hK => ?_) ?_
    · skip
      simp only [putAll, Act.put, List.setIfInBounds_toArray, List.set_cons_zero, List.set_cons_succ]
      refine hK _ G _ (by kernel_rfl) ?_
      exact ⟨⟨⟨⟨⟨(hJ.1.1.1.1.1), (hJ.1.1.1.1.2)⟩, ⟨(hJ.1.1.1.2.1), (hJ.1.1.1.2.2)⟩⟩, ⟨⟨(hJ.1.1.2.1.1), fun q => (hJ.1.1.2.1.2) (rl q)⟩, ⟨fun q => (hJ.1.1.2.2.1) (rl q), fun q => (hJ.1.1.2.2.2) (rl q)⟩⟩⟩, ⟨⟨⟨fun q => (hJ.1.2.1.1.1) (rl q), fun _ => rfl⟩, ⟨fun q => (hJ.1.2.1.2.1) (rl q), fun q => (hJ.1.2.1.2.2) (rl q)⟩⟩, ⟨⟨fun q => (hJ.1.2.2.1.1) (rl q), fun q => (hJ.1.2.2.1.2) (rl q)⟩, ⟨fun q => (hJ.1.2.2.2.1) (rl q), ⟨fun q => (hJ.1.2.2.2.2.1) (rl q), fun q => (hJ.1.2.2.2.2.2) (rl q)⟩⟩⟩⟩⟩, ⟨⟨⟨⟨fun q => (hJ.2.1.1.1.1) (rl q), fun q => (hJ.2.1.1.1.2) (rl q)⟩, ⟨fun q => (hJ.2.1.1.2.1) (rl q), fun q => (hJ.2.1.1.2.2) (rl q)⟩⟩, ⟨⟨fun q => (hJ.2.1.2.1.1) (rl q), fun q => (hJ.2.1.2.1.2) (rl q)⟩, ⟨fun q => (hJ.2.1.2.2.1) (rl q), ⟨fun q => (hJ.2.1.2.2.2.1) (rl q), fun q => (hJ.2.1.2.2.2.2) (rl q)⟩⟩⟩⟩, ⟨⟨⟨fun q => (hJ.2.2.1.1.1) (rl q), fun q => (hJ.2.2.1.1.2) (rl q)⟩, ⟨fun q => (hJ.2.2.1.2.1) (rl q), fun q => (hJ.2.2.1.2.2) (rl q)⟩⟩, ⟨⟨fun q => (hJ.2.2.2.1.1) (rl q), fun q => (hJ.2.2.2.1.2) (rl q)⟩, ⟨fun q => (hJ.2.2.2.2.1) (rl q), ⟨fun q => (hJ.2.2.2.2.2.1) (rl q), fun q => (hJ.2.2.2.2.2.2) (rl q)⟩⟩⟩⟩⟩⟩
    refine StepsOk.cons (i := 5) rfl (fun L x G w1 K Q hn hp hJ hK => ?_) ?_
    · skip
      have p2 : L 2 := hp ⟨2, .data⟩ (by simp) rfl
      have e2 := (hJ.1.1.2.2.2) p2
      have p4 : L 4 := hp ⟨4, .data⟩ (by simp) rfl
      have e4 := (hJ.1.2.1.1.2) p4
      simp only [putAll, Act.put, List.setIfInBounds_toArray, List.set_cons_zero, List.set_cons_succ]
      go_simp
      refine hK _ G _ (by kernel_rfl) ?_
      exact ⟨⟨⟨⟨⟨(hJ.1.1.1.1.1), (hJ.1.1.1.1.2)⟩, ⟨(hJ.1.1.1.2.1), (hJ.1.1.1.2.2)⟩⟩, ⟨⟨(hJ.1.1.2.1.1), fun q => (hJ.1.1.2.1.2) (rl q)⟩, ⟨fun q => (hJ.1.1.2.2.1) (rl q), fun _ => by first | exact rfl | exact e2⟩⟩⟩, ⟨⟨⟨fun q => (hJ.1.2.1.1.1) (rl q), fun _ => by first | exact rfl | exact e4⟩, ⟨fun _ => rfl, fun q => (hJ.1.2.1.2.2) (rl q)⟩⟩, ⟨⟨fun q => (hJ.1.2.2.1.1) (rl q), fun q => (hJ.1.2.2.1.2) (rl q)⟩, ⟨fun q => (hJ.1.2.2.2.1) (rl q), ⟨fun q => (hJ.1.2.2.2.2.1) (rl q), fun q => (hJ.1.2.2.2.2.2) (rl q)⟩⟩⟩⟩⟩, ⟨⟨⟨⟨fun q => (hJ.2.1.1.1.1) (rl q), fun q => (hJ.2.1.1.1.2) (rl q)⟩, ⟨fun q => (hJ.2.1.1.2.1) (rl q), fun q => (hJ.2.1.1.2.2) (rl q)⟩⟩, ⟨⟨fun q => (hJ.2.1.2.1.1) (rl q), fun q => (hJ.2.1.2.1.2) (rl q)⟩, ⟨fun q => (hJ.2.1.2.2.1) (rl q), ⟨fun q => (hJ.2.1.2.2.2.1) (rl q), fun q => (hJ.2.1.2.2.2.2) (rl q)⟩⟩⟩⟩, ⟨⟨⟨fun q => (hJ.2.2.1.1.1) (rl q), fun q => (hJ.2.2.1.1.2) (rl q)⟩, ⟨fun q => (hJ.2.2.1.2.1) (rl q), fun q => (hJ.2.2.1.2.2) (rl q)⟩⟩, ⟨⟨fun q => (hJ.2.2.2.1.1) (rl q), fun q => (hJ.2.2.2.1.2) (rl q)⟩, ⟨fun q => (hJ.2.2.2.2.1) (rl q), ⟨fun q => (hJ.2.2.2.2.2.1) (rl q), fun q => (hJ.2.2.2.2.2.2) (rl q)⟩⟩⟩⟩⟩⟩
    refine StepsOk.cons (i := 6) rfl (fun L x G w1 K Q hn hp hJ hK => ?_) ?_
    · skip
      have p5 : L 5 := hp ⟨5, .data⟩ (by simp) rfl
      have e5 := (hJ.1.2.1.2.1) p5
      simp only [putAll, Act.put, List.setIfInBounds_toArray, List.set_cons_zero, List.set_cons_succ]
      go_simp
      refine hK _ G _ (by kernel_rfl) ?_
      exact ⟨⟨⟨⟨⟨(hJ.1.1.1.1.1), (hJ.1.1.1.1.2)⟩, ⟨(hJ.1.1.1.2.1), (hJ.1.1.1.2.2)⟩⟩, ⟨⟨(hJ.1.1.2.1.1), fun q => (hJ.1.1.2.1.2) (rl q)⟩, ⟨fun q => (hJ.1.1.2.2.1) (rl q), fun q => (hJ.1.1.2.2.2) (rl q)⟩⟩⟩, ⟨⟨⟨fun q => (hJ.1.2.1.1.1) (rl q), fun q => (hJ.1.2.1.1.2) (rl q)⟩, ⟨fun _ => by first | exact rfl | exact e5, fun _ => rfl⟩⟩, ⟨⟨fun q => (hJ.1.2.2.1.1) (rl q), fun q => (hJ.1.2.2.1.2) (rl q)⟩, ⟨fun q => (hJ.1.2.2.2.1) (rl q), ⟨fun q => (hJ.1.2.2.2.2.1) (rl q), fun q => (hJ.1.2.2.2.2.2) (rl q)⟩⟩⟩⟩⟩, ⟨⟨⟨⟨fun q => (hJ.2.1.1.1.1) (rl q), fun q => (hJ.2.1.1.1.2) (rl q)⟩, ⟨fun q => (hJ.2.1.1.2.1) (rl q), fun q => (hJ.2.1.1.2.2) (rl q)⟩⟩, ⟨⟨fun q => (hJ.2.1.2.1.1) (rl q), fun q => (hJ.2.1.2.1.2) (rl q)⟩, ⟨fun q => (hJ.2.1.2.2.1) (rl q), ⟨fun q => (hJ.2.1.2.2.2.1) (rl q), fun q => (hJ.2.1.2.2.2.2) (rl q)⟩⟩⟩⟩, ⟨⟨⟨fun q => (hJ.2.2.1.1.1) (rl q), fun q => (hJ.2.2.1.1.2) (rl q)⟩, ⟨fun q => (hJ.2.2.1.2.1) (rl q), fun q => (hJ.2.2.1.2.2) (rl q)⟩⟩, ⟨⟨fun q => (hJ.2.2.2.1.1) (rl q), fun q => (hJ.2.2.2.1.2) (rl q)⟩, ⟨fun q => (hJ.2.2.2.2.1) (rl q), ⟨fun q => (hJ.2.2.2.2.2.1) (rl q), fun q => (hJ.2.2.2.2.2.2) (rl q)⟩⟩⟩⟩⟩⟩
    refine StepsOk.consF (i := 7) 6 57 false (.bool (true)) rfl rfl (by kernel_rfl) rfl (fun L x G w1 hp hJ => hJ.1.2.1.2.2 (hp ⟨6, .guard⟩ (by simp) rfl)) (fun L x G w1 K hn hp hJ hK => ?_) ?_
    · skip
      simp only [putAll, Act.put, List.setIfInBounds_toArray, List.set_cons_zero, List.set_cons_succ]
      refine hK _ G _ (by kernel_rfl) ?_
      exact ⟨⟨⟨⟨⟨(hJ.1.1.1.1.1), (hJ.1.1.1.1.2)⟩, ⟨(hJ.1.1.1.2.1), (hJ.1.1.1.2.2)⟩⟩, ⟨⟨(hJ.1.1.2.1.1), fun q => (hJ.1.1.2.1.2) (rl q)⟩, ⟨fun q => (hJ.1.1.2.2.1) (rl q), fun q => (hJ.1.1.2.2.2) (rl q)⟩⟩⟩, ⟨⟨⟨fun q => (hJ.1.2.1.1.1) (rl q), fun q => (hJ.1.2.1.1.2) (rl q)⟩, ⟨fun q => (hJ.1.2.1.2.1) (rl q), fun q => (hJ.1.2.1.2.2) (rl q)⟩⟩, ⟨⟨fun _ => rfl, fun q => (hJ.1.2.2.1.2) (rl q)⟩, ⟨fun q => (hJ.1.2.2.2.1) (rl q), ⟨fun q => (hJ.1.2.2.2.2.1) (rl q), fun q => (hJ.1.2.2.2.2.2) (rl q)⟩⟩⟩⟩⟩, ⟨⟨⟨⟨fun q => (hJ.2.1.1.1.1) (rl q), fun q => (hJ.2.1.1.1.2) (rl q)⟩, ⟨fun q => (hJ.2.1.1.2.1) (rl q), fun q => (hJ.2.1.1.2.2) (rl q)⟩⟩, ⟨⟨fun q => (hJ.2.1.2.1.1) (rl q), fun q => (hJ.2.1.2.1.2) (rl q)⟩, ⟨fun q => (hJ.2.1.2.2.1) (rl q), ⟨fun q => (hJ.2.1.2.2.2.1) (rl q), fun q => (hJ.2.1.2.2.2.2) (rl q)⟩⟩⟩⟩, ⟨⟨⟨fun q => (hJ.2.2.1.1.1) (rl q), fun q => (hJ.2.2.1.1.2) (rl q)⟩, ⟨fun q => (hJ.2.2.1.2.1) (rl q), fun q => (hJ.2.2.1.2.2) (rl q)⟩⟩, ⟨⟨fun q => (hJ.2.2.2.1.1) (rl q), fun q => (hJ.2.2.2.1.2) (rl q)⟩, ⟨fun q => (hJ.2.2.2.2.1) (rl q), ⟨fun q => (hJ.2.2.2.2.2.1) (rl q), fun q => (hJ.2.2.2.2.2.2) (rl q)⟩⟩⟩⟩⟩⟩
    refine StepsOk.consF (i := 8) 6 57 false (.bool (true)) rfl rfl (by kernel_rfl) rfl (fun L x G w1 hp hJ => hJ.1.2.1.2.2 (hp ⟨6, .guard⟩ (by simp) rfl)) (fun L x G w1 K hn hp hJ hK => ?_) ?_
    · skip
      simp only [putAll, Act.put, List.setIfInBounds_toArray, List.set_cons_zero, List.set_cons_succ]
      refine hK _ G _ (by kernel_rfl) ?_
      exact ⟨⟨⟨⟨⟨(hJ.1.1.1.1.1), (hJ.1.1.1.1.2)⟩, ⟨(hJ.1.1.1.2.1), (hJ.1.1.1.2.2)⟩⟩, ⟨⟨(hJ.1.1.2.1.1), fun q => (hJ.1.1.2.1.2) (rl q)⟩, ⟨fun q => (hJ.1.1.2.2.1) (rl q), fun q => (hJ.1.1.2.2.2) (rl q)⟩⟩⟩, ⟨⟨⟨fun q => (hJ.1.2.1.1.1) (rl q), fun q => (hJ.1.2.1.1.2) (rl q)⟩, ⟨fun q => (hJ.1.2.1.2.1) (rl q), fun q => (hJ.1.2.1.2.2) (rl q)⟩⟩, ⟨⟨fun q => (hJ.1.2.2.1.1) (rl q), fun _ => rfl⟩, ⟨fun q => (hJ.1.2.2.2.1) (rl q), ⟨fun q => (hJ.1.2.2.2.2.1) (rl q), fun q => (hJ.1.2.2.2.2.2) (rl q)⟩⟩⟩⟩⟩, ⟨⟨⟨⟨fun q => (hJ.2.1.1.1.1) (rl q), fun q => (hJ.2.1.1.1.2) (rl q)⟩, ⟨fun q => (hJ.2.1.1.2.1) (rl q), fun q => (hJ.2.1.1.2.2) (rl q)⟩⟩, ⟨⟨fun q => (hJ.2.1.2.1.1) (rl q), fun q => (hJ.2.1.2.1.2) (rl q)⟩, ⟨fun q => (hJ.2.1.2.2.1) (rl q), ⟨fun q => (hJ.2.1.2.2.2.1) (rl q), fun q => (hJ.2.1.2.2.2.2) (rl q)⟩⟩⟩⟩, ⟨⟨⟨fun q => (hJ.2.2.1.1.1) (rl q), fun q => (hJ.2.2.1.1.2) (rl q)⟩, ⟨fun q => (hJ.2.2.1.2.1) (rl q), fun q => (hJ.2.2.1.2.2) (rl q)⟩⟩, ⟨⟨fun q => (hJ.2.2.2.1.1) (rl q), fun q => (hJ.2.2.2.1.2) (rl q)⟩, ⟨fun q => (hJ.2.2.2.2.1) (rl q), ⟨fun q => (hJ.2.2.2.2.2.1) (rl q), fun q => (hJ.2.2.2.2.2.2) (rl q)⟩⟩⟩⟩⟩⟩
    refine StepsOk.cons (i := 9) rfl (fun L x G w1 K Q hn hp hJ hK => ?_) ?_
    · skip
      have p6 : L 6 := hp ⟨6, .data⟩ (by simp) rfl
      have e6 := (hJ.1.2.1.2.2) p6
      have p8 : L 8 := hp ⟨8, .data⟩ (by simp) rfl
      have e8 := (hJ.1.2.2.1.2) p8
      simp only [putAll, Act.put, List.setIfInBounds_toArray, List.set_cons_zero, List.set_cons_succ]
      go_simp
      refine hK _ G _ (by kernel_rfl) ?_
      exact ⟨⟨⟨⟨⟨(hJ.1.1.1.1.1), (hJ.1.1.1.1.2)⟩, ⟨(hJ.1.1.1.2.1), (hJ.1.1.1.2.2)⟩⟩, ⟨⟨(hJ.1.1.2.1.1), fun q => (hJ.1.1.2.1.2) (rl q)⟩, ⟨fun q => (hJ.1.1.2.2.1) (rl q), fun q => (hJ.1.1.2.2.2) (rl q)⟩⟩⟩, ⟨⟨⟨fun q => (hJ.1.2.1.1.1) (rl q), fun q => (hJ.1.2.1.1.2) (rl q)⟩, ⟨fun q => (hJ.1.2.1.2.1) (rl q), fun _ => by first | exact rfl | exact e6⟩⟩, ⟨⟨fun q => (hJ.1.2.2.1.1) (rl q), fun _ => by first | exact rfl | exact e8⟩, ⟨fun _ => rfl, ⟨fun q => (hJ.1.2.2.2.2.1) (rl q), fun q => (hJ.1.2.2.2.2.2) (rl q)⟩⟩⟩⟩⟩, ⟨⟨⟨⟨fun q => (hJ.2.1.1.1.1) (rl q), fun q => (hJ.2.1.1.1.2) (rl q)⟩, ⟨fun q => (hJ.2.1.1.2.1) (rl q), fun q => (hJ.2.1.1.2.2) (rl q)⟩⟩, ⟨⟨fun q => (hJ.2.1.2.1.1) (rl q), fun q => (hJ.2.1.2.1.2) (rl q)⟩, ⟨fun q => (hJ.2.1.2.2.1) (rl q), ⟨fun q => (hJ.2.1.2.2.2.1) (rl q), fun q => (hJ.2.1.2.2.2.2) (rl q)⟩⟩⟩⟩, ⟨⟨⟨fun q => (hJ.2.2.1.1.1) (rl q), fun q => (hJ.2.2.1.1.2) (rl q)⟩, ⟨fun q => (hJ.2.2.1.2.1) (rl q), fun q => (hJ.2.2.1.2.2) (rl q)⟩⟩, ⟨⟨fun q => (hJ.2.2.2.1.1) (rl q), fun q => (hJ.2.2.2.1.2) (rl q)⟩, ⟨fun q => (hJ.2.2.2.2.1) (rl q), ⟨fun q => (hJ.2.2.2.2.2.1) (rl q), fun q => (hJ.2.2.2.2.2.2) (rl q)⟩⟩⟩⟩⟩⟩
    refine StepsOk.cons (i := 10) rfl (fun L x G w1 K Q hn hp hJ hK => ?_) ?_
    · skip
      have p9 : L 9 := hp ⟨9, .data⟩ (by simp) rfl
      have e9 := (hJ.1.2.2.2.1) p9
      simp only [putAll, Act.put, List.setIfInBounds_toArray, List.set_cons_zero, List.set_cons_succ]
      go_simp
      refine hK _ G _ (by kernel_rfl) ?_
      exact ⟨⟨⟨⟨⟨(hJ.1.1.1.1.1), (hJ.1.1.1.1.2)⟩, ⟨(hJ.1.1.1.2.1), (hJ.1.1.1.2.2)⟩⟩, ⟨⟨(hJ.1.1.2.1.1), fun q => (hJ.1.1.2.1.2) (rl q)⟩, ⟨fun q => (hJ.1.1.2.2.1) (rl q), fun q => (hJ.1.1.2.2.2) (rl q)⟩⟩⟩, ⟨⟨⟨fun q => (hJ.1.2.1.1.1) (rl q), fun q => (hJ.1.2.1.1.2) (rl q)⟩, ⟨fun q => (hJ.1.2.1.2.1) (rl q), fun q => (hJ.1.2.1.2.2) (rl q)⟩⟩, ⟨⟨fun q => (hJ.1.2.2.1.1) (rl q), fun q => (hJ.1.2.2.1.2) (rl q)⟩, ⟨fun _ => by first | exact rfl | exact e9, ⟨fun _ => rfl, fun q => (hJ.1.2.2.2.2.2) (rl q)⟩⟩⟩⟩⟩, ⟨⟨⟨⟨fun q => (hJ.2.1.1.1.1) (rl q), fun q => (hJ.2.1.1.1.2) (rl q)⟩, ⟨fun q => (hJ.2.1.1.2.1) (rl q), fun q => (hJ.2.1.1.2.2) (rl q)⟩⟩, ⟨⟨fun q => (hJ.2.1.2.1.1) (rl q), fun q => (hJ.2.1.2.1.2) (rl q)⟩, ⟨fun q => (hJ.2.1.2.2.1) (rl q), ⟨fun q => (hJ.2.1.2.2.2.1) (rl q), fun q => (hJ.2.1.2.2.2.2) (rl q)⟩⟩⟩⟩, ⟨⟨⟨fun q => (hJ.2.2.1.1.1) (rl q), fun q => (hJ.2.2.1.1.2) (rl q)⟩, ⟨fun q => (hJ.2.2.1.2.1) (rl q), fun q => (hJ.2.2.1.2.2) (rl q)⟩⟩, ⟨⟨fun q => (hJ.2.2.2.1.1) (rl q), fun q => (hJ.2.2.2.1.2) (rl q)⟩, ⟨fun q => (hJ.2.2.2.2.1) (rl q), ⟨fun q => (hJ.2.2.2.2.2.1) (rl q), fun q => (hJ.2.2.2.2.2.2) (rl q)⟩⟩⟩⟩⟩⟩
    refine StepsOk.consF (i := 11) 10 61 false (.bool (true)) rfl rfl (by kernel_rfl) rfl (fun L x G w1 hp hJ => hJ.1.2.2.2.2.1 (hp ⟨10, .guard⟩ (by simp) rfl)) (fun L x G w1 K hn hp hJ hK => ?_) ?_
    · skip
      simp only [putAll, Act.put, List.setIfInBounds_toArray, List.set_cons_zero, List.set_cons_succ]
      refine hK _ G _ (by kernel_rfl) ?_
      exact ⟨⟨⟨⟨⟨(hJ.1.1.1.1.1), (hJ.1.1.1.1.2)⟩, ⟨(hJ.1.1.1.2.1), (hJ.1.1.1.2.2)⟩⟩, ⟨⟨(hJ.1.1.2.1.1), fun q => (hJ.1.1.2.1.2) (rl q)⟩, ⟨fun q => (hJ.1.1.2.2.1) (rl q), fun q => (hJ.1.1.2.2.2) (rl q)⟩⟩⟩, ⟨⟨⟨fun q => (hJ.1.2.1.1.1) (rl q), fun q => (hJ.1.2.1.1.2) (rl q)⟩, ⟨fun q => (hJ.1.2.1.2.1) (rl q), fun q => (hJ.1.2.1.2.2) (rl q)⟩⟩, ⟨⟨fun q => (hJ.1.2.2.1.1) (rl q), fun q => (hJ.1.2.2.1.2) (rl q)⟩, ⟨fun q => (hJ.1.2.2.2.1) (rl q), ⟨fun q => (hJ.1.2.2.2.2.1) (rl q), fun _ => rfl⟩⟩⟩⟩⟩, ⟨⟨⟨⟨fun q => (hJ.2.1.1.1.1) (rl q), fun q => (hJ.2.1.1.1.2) (rl q)⟩, ⟨fun q => (hJ.2.1.1.2.1) (rl q), fun q => (hJ.2.1.1.2.2) (rl q)⟩⟩, ⟨⟨fun q => (hJ.2.1.2.1.1) (rl q), fun q => (hJ.2.1.2.1.2) (rl q)⟩, ⟨fun q => (hJ.2.1.2.2.1) (rl q), ⟨fun q => (hJ.2.1.2.2.2.1) (rl q), fun q => (hJ.2.1.2.2.2.2) (rl q)⟩⟩⟩⟩, ⟨⟨⟨fun q => (hJ.2.2.1.1.1) (rl q), fun q => (hJ.2.2.1.1.2) (rl q)⟩, ⟨fun q => (hJ.2.2.1.2.1) (rl q), fun q => (hJ.2.2.1.2.2) (rl q)⟩⟩, ⟨⟨fun q => (hJ.2.2.2.1.1) (rl q), fun q => (hJ.2.2.2.1.2) (rl q)⟩, ⟨fun q => (hJ.2.2.2.2.1) (rl q), ⟨fun q => (hJ.2.2.2.2.2.1) (rl q), fun q => (hJ.2.2.2.2.2.2) (rl q)⟩⟩⟩⟩⟩⟩
    refine StepsOk.consF (i := 12) 10 61 false (.bool (true)) rfl rfl (by kernel_rfl) rfl (fun L x G w1 hp hJ => hJ.1.2.2.2.2.1 (hp ⟨10, .guard⟩ (by simp) rfl)) (fun L x G w1 K hn hp hJ hK => ?_) ?_
    · skip
      simp only [putAll, Act.put, List.setIfInBounds_toArray, List.set_cons_zero, List.set_cons_succ]
      refine hK _ G _ (by kernel_rfl) ?_
      exact ⟨⟨⟨⟨⟨(hJ.1.1.1.1.1), (hJ.1.1.1.1.2)⟩, ⟨(hJ.1.1.1.2.1), (hJ.1.1.1.2.2)⟩⟩, ⟨⟨(hJ.1.1.2.1.1), fun q => (hJ.1.1.2.1.2) (rl q)⟩, ⟨fun q => (hJ.1.1.2.2.1) (rl q), fun q => (hJ.1.1.2.2.2) (rl q)⟩⟩⟩, ⟨⟨⟨fun q => (hJ.1.2.1.1.1) (rl q), fun q => (hJ.1.2.1.1.2) (rl q)⟩, ⟨fun q => (hJ.1.2.1.2.1) (rl q), fun q => (hJ.1.2.1.2.2) (rl q)⟩⟩, ⟨⟨fun q => (hJ.1.2.2.1.1) (rl q), fun q => (hJ.1.2.2.1.2) (rl q)⟩, ⟨fun q => (hJ.1.2.2.2.1) (rl q), ⟨fun q => (hJ.1.2.2.2.2.1) (rl q), fun q => (hJ.1.2.2.2.2.2) (rl q)⟩⟩⟩⟩⟩, ⟨⟨⟨⟨fun _ => rfl, fun q => (hJ.2.1.1.1.2) (rl q)⟩, ⟨fun q => (hJ.2.1.1.2.1) (rl q), fun q => (hJ.2.1.1.2.2) (rl q)⟩⟩, ⟨⟨fun q => (hJ.2.1.2.1.1) (rl q), fun q => (hJ.2.1.2.1.2) (rl q)⟩, ⟨fun q => (hJ.2.1.2.2.1) (rl q), ⟨fun q => (hJ.2.1.2.2.2.1) (rl q), fun q => (hJ.2.1.2.2.2.2) (rl q)⟩⟩⟩⟩, ⟨⟨⟨fun q => (hJ.2.2.1.1.1) (rl q), fun q => (hJ.2.2.1.1.2) (rl q)⟩, ⟨fun q => (hJ.2.2.1.2.1) (rl q), fun q => (hJ.2.2.1.2.2) (rl q)⟩⟩, ⟨⟨fun q => (hJ.2.2.2.1.1) (rl q), fun q => (hJ.2.2.2.1.2) (rl q)⟩, ⟨fun q => (hJ.2.2.2.2.1) (rl q), ⟨fun q => (hJ.2.2.2.2.2.1) (rl q), fun q => (hJ.2.2.2.2.2.2) (rl q)⟩⟩⟩⟩⟩⟩
    refine StepsOk.consF (i := 13) 10 61 false (.bool (true)) rfl rfl (by kernel_rfl) rfl (fun L x G w1 hp hJ => hJ.1.2.2.2.2.1 (hp ⟨10, .guard⟩ (by simp) rfl)) (fun L x G w1 K hn hp hJ hK => ?_) ?_
    · skip
      simp only [putAll, Act.put, List.setIfInBounds_toArray, List.set_cons_zero, List.set_cons_succ]
      refine hK _ G _ (by kernel_rfl) ?_
      exact ⟨⟨⟨⟨⟨(hJ.1.1.1.1.1), (hJ.1.1.1.1.2)⟩, ⟨(hJ.1.1.1.2.1), (hJ.1.1.1.2.2)⟩⟩, ⟨⟨(hJ.1.1.2.1.1), fun q => (hJ.1.1.2.1.2) (rl q)⟩, ⟨fun q => (hJ.1.1.2.2.1) (rl q), fun q => (hJ.1.1.2.2.2) (rl q)⟩⟩⟩, ⟨⟨⟨fun q => (hJ.1.2.1.1.1) (rl q), fun q => (hJ.1.2.1.1.2) (rl q)⟩, ⟨fun q => (hJ.1.2.1.2.1) (rl q), fun q => (hJ.1.2.1.2.2) (rl q)⟩⟩, ⟨⟨fun q => (hJ.1.2.2.1.1) (rl q), fun q => (hJ.1.2.2.1.2) (rl q)⟩, ⟨fun q => (hJ.1.2.2.2.1) (rl q), ⟨fun q => (hJ.1.2.2.2.2.1) (rl q), fun q => (hJ.1.2.2.2.2.2) (rl q)⟩⟩⟩⟩⟩, ⟨⟨⟨⟨fun q => (hJ.2.1.1.1.1) (rl q), fun _ => rfl⟩, ⟨fun q => (hJ.2.1.1.2.1) (rl q), fun q => (hJ.2.1.1.2.2) (rl q)⟩⟩, ⟨⟨fun q => (hJ.2.1.2.1.1) (rl q), fun q => (hJ.2.1.2.1.2) (rl q)⟩, ⟨fun q => (hJ.2.1.2.2.1) (rl q), ⟨fun q => (hJ.2.1.2.2.2.1) (rl q), fun q => (hJ.2.1.2.2.2.2) (rl q)⟩⟩⟩⟩, ⟨⟨⟨fun q => (hJ.2.2.1.1.1) (rl q), fun q => (hJ.2.2.1.1.2) (rl q)⟩, ⟨fun q => (hJ.2.2.1.2.1) (rl q), fun q => (hJ.2.2.1.2.2) (rl q)⟩⟩, ⟨⟨fun q => (hJ.2.2.2.1.1) (rl q), fun q => (hJ.2.2.2.1.2) (rl q)⟩, ⟨fun q => (hJ.2.2.2.2.1) (rl q), ⟨fun q => (hJ.2.2.2.2.2.1) (rl q), fun q => (hJ.2.2.2.2.2.2) (rl q)⟩⟩⟩⟩⟩⟩
    refine StepsOk.consF (i := 14) 10 61 false (.bool (true)) rfl rfl (by kernel_rfl) rfl (fun L x G w1 hp hJ => hJ.1.2.2.2.2.1 (hp ⟨10, .guard⟩ (by simp) rfl)) (fun L x G w1 K hn hp hJ hK => ?_) ?_
    · skip
      simp only [putAll, Act.put, List.setIfInBounds_toArray, List.set_cons_zero, List.set_cons_succ]
      refine hK _ G _ (by kernel_rfl) ?_
      exact ⟨⟨⟨⟨⟨(hJ.1.1.1.1.1), (hJ.1.1.1.1.2)⟩, ⟨(hJ.1.1.1.2.1), (hJ.1.1.1.2.2)⟩⟩, ⟨⟨(hJ.1.1.2.1.1), fun q => (hJ.1.1.2.1.2) (rl q)⟩, ⟨fun q => (hJ.1.1.2.2.1) (rl q), fun q => (hJ.1.1.2.2.2) (rl q)⟩⟩⟩, ⟨⟨⟨fun q => (hJ.1.2.1.1.1) (rl q), fun q => (hJ.1.2.1.1.2) (rl q)⟩, ⟨fun q => (hJ.1.2.1.2.1) (rl q), fun q => (hJ.1.2.1.2.2) (rl q)⟩⟩, ⟨⟨fun q => (hJ.1.2.2.1.1) (rl q), fun q => (hJ.1.2.2.1.2) (rl q)⟩, ⟨fun q => (hJ.1.2.2.2.1) (rl q), ⟨fun q => (hJ.1.2.2.2.2.1) (rl q), fun q => (hJ.1.2.2.2.2.2) (rl q)⟩⟩⟩⟩⟩, ⟨⟨⟨⟨fun q => (hJ.2.1.1.1.1) (rl q), fun q => (hJ.2.1.1.1.2) (rl q)⟩, ⟨fun _ => rfl, fun q => (hJ.2.1.1.2.2) (rl q)⟩⟩, ⟨⟨fun q => (hJ.2.1.2.1.1) (rl q), fun q => (hJ.2.1.2.1.2) (rl q)⟩, ⟨fun q => (hJ.2.1.2.2.1) (rl q), ⟨fun q => (hJ.2.1.2.2.2.1) (rl q), fun q => (hJ.2.1.2.2.2.2) (rl q)⟩⟩⟩⟩, ⟨⟨⟨fun q => (hJ.2.2.1.1.1) (rl q), fun q => (hJ.2.2.1.1.2) (rl q)⟩, ⟨fun q => (hJ.2.2.1.2.1) (rl q), fun q => (hJ.2.2.1.2.2) (rl q)⟩⟩, ⟨⟨fun q => (hJ.2.2.2.1.1) (rl q), fun q => (hJ.2.2.2.1.2) (rl q)⟩, ⟨fun q => (hJ.2.2.2.2.1) (rl q), ⟨fun q => (hJ.2.2.2.2.2.1) (rl q), fun q => (hJ.2.2.2.2.2.2) (rl q)⟩⟩⟩⟩⟩⟩
    refine StepsOk.consF (i := 15) 10 61 false (.bool (true)) rfl rfl (by kernel_rfl) rfl (fun L x G w1 hp hJ => hJ.1.2.2.2.2.1 (hp ⟨10, .guard⟩ (by simp) rfl)) (fun L x G w1 K hn hp hJ hK => ?_) ?_
    · skip
      simp only [putAll, Act.put, List.setIfInBounds_toArray, List.set_cons_zero, List.set_cons_succ]
      refine hK _ G _ (by kernel_rfl) ?_
      exact ⟨⟨⟨⟨⟨(hJ.1.1.1.1.1), (hJ.1.1.1.1.2)⟩, ⟨(hJ.1.1.1.2.1), (hJ.1.1.1.2.2)⟩⟩, ⟨⟨(hJ.1.1.2.1.1), fun q => (hJ.1.1.2.1.2) (rl q)⟩, ⟨fun q => (hJ.1.1.2.2.1) (rl q), fun q => (hJ.1.1.2.2.2) (rl q)⟩⟩⟩, ⟨⟨⟨fun q => (hJ.1.2.1.1.1) (rl q), fun q => (hJ.1.2.1.1.2) (rl q)⟩, ⟨fun q => (hJ.1.2.1.2.1) (rl q), fun q => (hJ.1.2.1.2.2) (rl q)⟩⟩, ⟨⟨fun q => (hJ.1.2.2.1.1) (rl q), fun q => (hJ.1.2.2.1.2) (rl q)⟩, ⟨fun q => (hJ.1.2.2.2.1) (rl q), ⟨fun q => (hJ.1.2.2.2.2.1) (rl q), fun q => (hJ.1.2.2.2.2.2) (rl q)⟩⟩⟩⟩⟩, ⟨⟨⟨⟨fun q => (hJ.2.1.1.1.1) (rl q), fun q => (hJ.2.1.1.1.2) (rl q)⟩, ⟨fun q => (hJ.2.1.1.2.1) (rl q), fun _ => rfl⟩⟩, ⟨⟨fun q => (hJ.2.1.2.1.1) (rl q), fun q => (hJ.2.1.2.1.2) (rl q)⟩, ⟨fun q => (hJ.2.1.2.2.1) (rl q), ⟨fun q => (hJ.2.1.2.2.2.1) (rl q), fun q => (hJ.2.1.2.2.2.2) (rl q)⟩⟩⟩⟩, ⟨⟨⟨fun q => (hJ.2.2.1.1.1) (rl q), fun q => (hJ.2.2.1.1.2) (rl q)⟩, ⟨fun q => (hJ.2.2.1.2.1) (rl q), fun q => (hJ.2.2.1.2.2) (rl q)⟩⟩, ⟨⟨fun q => (hJ.2.2.2.1.1) (rl q), fun q => (hJ.2.2.2.1.2) (rl q)⟩, ⟨fun q => (hJ.2.2.2.2.1) (rl q), ⟨fun q => (hJ.2.2.2.2.2.1) (rl q), fun q => (hJ.2.2.2.2.2.2) (rl q)⟩⟩⟩⟩⟩⟩
    refine StepsOk.consF (i := 16) 10 61 false (.bool (true)) rfl rfl (by kernel_rfl) rfl (fun L x G w1 hp hJ => hJ.1.2.2.2.2.1 (hp ⟨10, .guard⟩ (by simp) rfl)) (fun L x G w1 K hn hp hJ hK => ?_) ?_
    · skip
      simp only [putAll, Act.put, List.setIfInBounds_toArray, List.set_cons_zero, List.set_cons_succ]
      refine hK _ G _ (by kernel_rfl) ?_
      exact ⟨⟨⟨⟨⟨(hJ.1.1.1.1.1), (hJ.1.1.1.1.2)⟩, ⟨(hJ.1.1.1.2.1), (hJ.1.1.1.2.2)⟩⟩, ⟨⟨(hJ.1.1.2.1.1), fun q => (hJ.1.1.2.1.2) (rl q)⟩, ⟨fun q => (hJ.1.1.2.2.1) (rl q), fun q => (hJ.1.1.2.2.2) (rl q)⟩⟩⟩, ⟨⟨⟨fun q => (hJ.1.2.1.1.1) (rl q), fun q => (hJ.1.2.1.1.2) (rl q)⟩, ⟨fun q => (hJ.1.2.1.2.1) (rl q), fun q => (hJ.1.2.1.2.2) (rl q)⟩⟩, ⟨⟨fun q => (hJ.1.2.2.1.1) (rl q), fun q => (hJ.1.2.2.1.2) (rl q)⟩, ⟨fun q => (hJ.1.2.2.2.1) (rl q), ⟨fun q => (hJ.1.2.2.2.2.1) (rl q), fun q => (hJ.1.2.2.2.2.2) (rl q)⟩⟩⟩⟩⟩, ⟨⟨⟨⟨fun q => (hJ.2.1.1.1.1) (rl q), fun q => (hJ.2.1.1.1.2) (rl q)⟩, ⟨fun q => (hJ.2.1.1.2.1) (rl q), fun q => (hJ.2.1.1.2.2) (rl q)⟩⟩, ⟨⟨fun _ => rfl, fun q => (hJ.2.1.2.1.2) (rl q)⟩, ⟨fun q => (hJ.2.1.2.2.1) (rl q), ⟨fun q => (hJ.2.1.2.2.2.1) (rl q), fun q => (hJ.2.1.2.2.2.2) (rl q)⟩⟩⟩⟩, ⟨⟨⟨fun q => (hJ.2.2.1.1.1) (rl q), fun q => (hJ.2.2.1.1.2) (rl q)⟩, ⟨fun q => (hJ.2.2.1.2.1) (rl q), fun q => (hJ.2.2.1.2.2) (rl q)⟩⟩, ⟨⟨fun q => (hJ.2.2.2.1.1) (rl q), fun q => (hJ.2.2.2.1.2) (rl q)⟩, ⟨fun q => (hJ.2.2.2.2.1) (rl q), ⟨fun q => (hJ.2.2.2.2.2.1) (rl q), fun q => (hJ.2.2.2.2.2.2) (rl q)⟩⟩⟩⟩⟩⟩
    refine StepsOk.consF (i := 17) 10 61 false (.bool (true)) rfl rfl (by kernel_rfl) rfl (fun L x G w1 hp hJ => hJ.1.2.2.2.2.1 (hp ⟨10, .guard⟩ (by simp) rfl)) (fun L x G w1 K hn hp hJ hK => ?_) ?_
    · skip
      simp only [putAll, Act.put, List.setIfInBounds_toArray, List.set_cons_zero, List.set_cons_succ]
      refine hK _ G _ (by kernel_rfl) ?_
      exact ⟨⟨⟨⟨⟨(hJ.1.1.1.1.1), (hJ.1.1.1.1.2)⟩, ⟨(hJ.1.1.1.2.1), (hJ.1.1.1.2.2)⟩⟩, ⟨⟨(hJ.1.1.2.1.1), fun q => (hJ.1.1.2.1.2) (rl q)⟩, ⟨fun q => (hJ.1.1.2.2.1) (rl q), fun q => (hJ.1.1.2.2.2) (rl q)⟩⟩⟩, ⟨⟨⟨fun q => (hJ.1.2.1.1.1) (rl q), fun q => (hJ.1.2.1.1.2) (rl q)⟩, ⟨fun q => (hJ.1.2.1.2.1) (rl q), fun q => (hJ.1.2.1.2.2) (rl q)⟩⟩, ⟨⟨fun q => (hJ.1.2.2.1.1) (rl q), fun q => (hJ.1.2.2.1.2) (rl q)⟩, ⟨fun q => (hJ.1.2.2.2.1) (rl q), ⟨fun q => (hJ.1.2.2.2.2.1) (rl q), fun q => (hJ.1.2.2.2.2.2) (rl q)⟩⟩⟩⟩⟩, ⟨⟨⟨⟨fun q => (hJ.2.1.1.1.1) (rl q), fun q => (hJ.2.1.1.1.2) (rl q)⟩, ⟨fun q => (hJ.2.1.1.2.1) (rl q), fun q => (hJ.2.1.1.2.2) (rl q)⟩⟩, ⟨⟨fun q => (hJ.2.1.2.1.1) (rl q), fun _ => rfl⟩, ⟨fun q => (hJ.2.1.2.2.1) (rl q), ⟨fun q => (hJ.2.1.2.2.2.1) (rl q), fun q => (hJ.2.1.2.2.2.2) (rl q)⟩⟩⟩⟩, ⟨⟨⟨fun q => (hJ.2.2.1.1.1) (rl q), fun q => (hJ.2.2.1.1.2) (rl q)⟩, ⟨fun q => (hJ.2.2.1.2.1) (rl q), fun q => (hJ.2.2.1.2.2) (rl q)⟩⟩, ⟨⟨fun q => (hJ.2.2.2.1.1) (rl q), fun q => (hJ.2.2.2.1.2) (rl q)⟩, ⟨fun q => (hJ.2.2.2.2.1) (rl q), ⟨fun q => (hJ.2.2.2.2.2.1) (rl q), fun q => (hJ.2.2.2.2.2.2) (rl q)⟩⟩⟩⟩⟩⟩
    refine StepsOk.consF (i := 18) 10 61 false (.bool (true)) rfl rfl (by kernel_rfl) rfl (fun L x G w1 hp hJ => hJ.1.2.2.2.2.1 (hp ⟨10, .guard⟩ (by simp) rfl)) (fun L x G w1 K hn hp hJ hK => ?_) ?_
    · skip
      simp only [putAll, Act.put, List.setIfInBounds_toArray, List.set_cons_zero, List.set_cons_succ]
      refine hK _ G _ (by kernel_rfl) ?_
      exact ⟨⟨⟨⟨⟨(hJ.1.1.1.1.1), (hJ.1.1.1.1.2)⟩, ⟨(hJ.1.1.1.2.1), (hJ.1.1.1.2.2)⟩⟩, ⟨⟨(hJ.1.1.2.1.1), fun q => (hJ.1.1.2.1.2) (rl q)⟩, ⟨fun q => (hJ.1.1.2.2.1) (rl q), fun q => (hJ.1.1.2.2.2) (rl q)⟩⟩⟩, ⟨⟨⟨fun q => (hJ.1.2.1.1.1) (rl q), fun q => (hJ.1.2.1.1.2) (rl q)⟩, ⟨fun q => (hJ.1.2.1.2.1) (rl q), fun q => (hJ.1.2.1.2.2) (rl q)⟩⟩, ⟨⟨fun q => (hJ.1.2.2.1.1) (rl q), fun q => (hJ.1.2.2.1.2) (rl q)⟩, ⟨fun q => (hJ.1.2.2.2.1) (rl q), ⟨fun q => (hJ.1.2.2.2.2.1) (rl q), fun q => (hJ.1.2.2.2.2.2) (rl q)⟩⟩⟩⟩⟩, ⟨⟨⟨⟨fun q => (hJ.2.1.1.1.1) (rl q), fun q => (hJ.2.1.1.1.2) (rl q)⟩, ⟨fun q => (hJ.2.1.1.2.1) (rl q), fun q => (hJ.2.1.1.2.2) (rl q)⟩⟩, ⟨⟨fun q => (hJ.2.1.2.1.1) (rl q), fun q => (hJ.2.1.2.1.2) (rl q)⟩, ⟨fun _ => rfl, ⟨fun q => (hJ.2.1.2.2.2.1) (rl q), fun q => (hJ.2.1.2.2.2.2) (rl q)⟩⟩⟩⟩, ⟨⟨⟨fun q => (hJ.2.2.1.1.1) (rl q), fun q => (hJ.2.2.1.1.2) (rl q)⟩, ⟨fun q => (hJ.2.2.1.2.1) (rl q), fun q => (hJ.2.2.1.2.2) (rl q)⟩⟩, ⟨⟨fun q => (hJ.2.2.2.1.1) (rl q), fun q => (hJ.2.2.2.1.2) (rl q)⟩, ⟨fun q => (hJ.2.2.2.2.1) (rl q), ⟨fun q => (hJ.2.2.2.2.2.1) (rl q), fun q => (hJ.2.2.2.2.2.2) (rl q)⟩⟩⟩⟩⟩⟩
    refine StepsOk.cons (i := 19) rfl (fun L x G w1 K Q hn hp hJ hK => ?_) ?_
    · skip
      have p10 : L 10 := hp ⟨10, .data⟩ (by simp) rfl
      have e10 := (hJ.1.2.2.2.2.1) p10
      have p18 : L 18 := hp ⟨18, .data⟩ (by simp) rfl
      have e18 := (hJ.2.1.2.2.1) p18
      simp only [putAll, Act.put, List.setIfInBounds_toArray, List.set_cons_zero, List.set_cons_succ]
      go_simp
      refine hK _ G _ (by kernel_rfl) ?_
      exact ⟨⟨⟨⟨⟨(hJ.1.1.1.1.1), (hJ.1.1.1.1.2)⟩, ⟨(hJ.1.1.1.2.1), (hJ.1.1.1.2.2)⟩⟩, ⟨⟨(hJ.1.1.2.1.1), fun q => (hJ.1.1.2.1.2) (rl q)⟩, ⟨fun q => (hJ.1.1.2.2.1) (rl q), fun q => (hJ.1.1.2.2.2) (rl q)⟩⟩⟩, ⟨⟨⟨fun q => (hJ.1.2.1.1.1) (rl q), fun q => (hJ.1.2.1.1.2) (rl q)⟩, ⟨fun q => (hJ.1.2.1.2.1) (rl q), fun q => (hJ.1.2.1.2.2) (rl q)⟩⟩, ⟨⟨fun q => (hJ.1.2.2.1.1) (rl q), fun q => (hJ.1.2.2.1.2) (rl q)⟩, ⟨fun q => (hJ.1.2.2.2.1) (rl q), ⟨fun _ => by first | exact rfl | exact e10, fun q => (hJ.1.2.2.2.2.2) (rl q)⟩⟩⟩⟩⟩, ⟨⟨⟨⟨fun q => (hJ.2.1.1.1.1) (rl q), fun q => (hJ.2.1.1.1.2) (rl q)⟩, ⟨fun q => (hJ.2.1.1.2.1) (rl q), fun q => (hJ.2.1.1.2.2) (rl q)⟩⟩, ⟨⟨fun q => (hJ.2.1.2.1.1) (rl q), fun q => (hJ.2.1.2.1.2) (rl q)⟩, ⟨fun _ => by first | exact rfl | exact e18, ⟨fun _ => rfl, fun q => (hJ.2.1.2.2.2.2) (rl q)⟩⟩⟩⟩, ⟨⟨⟨fun q => (hJ.2.2.1.1.1) (rl q), fun q => (hJ.2.2.1.1.2) (rl q)⟩, ⟨fun q => (hJ.2.2.1.2.1) (rl q), fun q => (hJ.2.2.1.2.2) (rl q)⟩⟩, ⟨⟨fun q => (hJ.2.2.2.1.1) (rl q), fun q => (hJ.2.2.2.1.2) (rl q)⟩, ⟨fun q => (hJ.2.2.2.2.1) (rl q), ⟨fun q => (hJ.2.2.2.2.2.1) (rl q), fun q => (hJ.2.2.2.2.2.2) (rl q)⟩⟩⟩⟩⟩⟩
    refine StepsOk.cons (i := 20) rfl (fun L x G w1 K Q hn hp hJ hK => ?_) ?_
    · skip
      have p19 : L 19 := hp ⟨19, .data⟩ (by simp) rfl
      have e19 := (hJ.2.1.2.2.2.1) p19
      simp only [putAll, Act.put, List.setIfInBounds_toArray, List.set_cons_zero, List.set_cons_succ]
      go_simp
      refine hK _ G _ (by kernel_rfl) ?_
      exact ⟨⟨⟨⟨⟨(hJ.1.1.1.1.1), (hJ.1.1.1.1.2)⟩, ⟨(hJ.1.1.1.2.1), (hJ.1.1.1.2.2)⟩⟩, ⟨⟨(hJ.1.1.2.1.1), fun q => (hJ.1.1.2.1.2) (rl q)⟩, ⟨fun q => (hJ.1.1.2.2.1) (rl q), fun q => (hJ.1.1.2.2.2) (rl q)⟩⟩⟩, ⟨⟨⟨fun q => (hJ.1.2.1.1.1) (rl q), fun q => (hJ.1.2.1.1.2) (rl q)⟩, ⟨fun q => (hJ.1.2.1.2.1) (rl q), fun q => (hJ.1.2.1.2.2) (rl q)⟩⟩, ⟨⟨fun q => (hJ.1.2.2.1.1) (rl q), fun q => (hJ.1.2.2.1.2) (rl q)⟩, ⟨fun q => (hJ.1.2.2.2.1) (rl q), ⟨fun q => (hJ.1.2.2.2.2.1) (rl q), fun q => (hJ.1.2.2.2.2.2) (rl q)⟩⟩⟩⟩⟩, ⟨⟨⟨⟨fun q => (hJ.2.1.1.1.1) (rl q), fun q => (hJ.2.1.1.1.2) (rl q)⟩, ⟨fun q => (hJ.2.1.1.2.1) (rl q), fun q => (hJ.2.1.1.2.2) (rl q)⟩⟩, ⟨⟨fun q => (hJ.2.1.2.1.1) (rl q), fun q => (hJ.2.1.2.1.2) (rl q)⟩, ⟨fun q => (hJ.2.1.2.2.1) (rl q), ⟨fun _ => by first | exact rfl | exact e19, fun _ => rfl⟩⟩⟩⟩, ⟨⟨⟨fun q => (hJ.2.2.1.1.1) (rl q), fun q => (hJ.2.2.1.1.2) (rl q)⟩, ⟨fun q => (hJ.2.2.1.2.1) (rl q), fun q => (hJ.2.2.1.2.2) (rl q)⟩⟩, ⟨⟨fun q => (hJ.2.2.2.1.1) (rl q), fun q => (hJ.2.2.2.1.2) (rl q)⟩, ⟨fun q => (hJ.2.2.2.2.1) (rl q), ⟨fun q => (hJ.2.2.2.2.2.1) (rl q), fun q => (hJ.2.2.2.2.2.2) (rl q)⟩⟩⟩⟩⟩⟩
    refine StepsOk.consF (i := 21) 20 71 false (.bool (true)) rfl rfl (by kernel_rfl) rfl (fun L x G w1 hp hJ => hJ.2.1.2.2.2.2 (hp ⟨20, .guard⟩ (by simp) rfl)) (fun L x G w1 K hn hp hJ hK => ?_) ?_
    · skip
      simp only [putAll, Act.put, List.setIfInBounds_toArray, List.set_cons_zero, List.set_cons_succ]
      refine hK _ G _ (by kernel_rfl) ?_
      exact ⟨⟨⟨⟨⟨(hJ.1.1.1.1.1), (hJ.1.1.1.1.2)⟩, ⟨(hJ.1.1.1.2.1), (hJ.1.1.1.2.2)⟩⟩, ⟨⟨(hJ.1.1.2.1.1), fun q => (hJ.1.1.2.1.2) (rl q)⟩, ⟨fun q => (hJ.1.1.2.2.1) (rl q), fun q => (hJ.1.1.2.2.2) (rl q)⟩⟩⟩, ⟨⟨⟨fun q => (hJ.1.2.1.1.1) (rl q), fun q => (hJ.1.2.1.1.2) (rl q)⟩, ⟨fun q => (hJ.1.2.1.2.1) (rl q), fun q => (hJ.1.2.1.2.2) (rl q)⟩⟩, ⟨⟨fun q => (hJ.1.2.2.1.1) (rl q), fun q => (hJ.1.2.2.1.2) (rl q)⟩, ⟨fun q => (hJ.1.2.2.2.1) (rl q), ⟨fun q => (hJ.1.2.2.2.2.1) (rl q), fun q => (hJ.1.2.2.2.2.2) (rl q)⟩⟩⟩⟩⟩, ⟨⟨⟨⟨fun q => (hJ.2.1.1.1.1) (rl q), fun q => (hJ.2.1.1.1.2) (rl q)⟩, ⟨fun q => (hJ.2.1.1.2.1) (rl q), fun q => (hJ.2.1.1.2.2) (rl q)⟩⟩, ⟨⟨fun q => (hJ.2.1.2.1.1) (rl q), fun q => (hJ.2.1.2.1.2) (rl q)⟩, ⟨fun q => (hJ.2.1.2.2.1) (rl q), ⟨fun q => (hJ.2.1.2.2.2.1) (rl q), fun q => (hJ.2.1.2.2.2.2) (rl q)⟩⟩⟩⟩, ⟨⟨⟨fun _ => rfl, fun q => (hJ.2.2.1.1.2) (rl q)⟩, ⟨fun q => (hJ.2.2.1.2.1) (rl q), fun q => (hJ.2.2.1.2.2) (rl q)⟩⟩, ⟨⟨fun q => (hJ.2.2.2.1.1) (rl q), fun q => (hJ.2.2.2.1.2) (rl q)⟩, ⟨fun q => (hJ.2.2.2.2.1) (rl q), ⟨fun q => (hJ.2.2.2.2.2.1) (rl q), fun q => (hJ.2.2.2.2.2.2) (rl q)⟩⟩⟩⟩⟩⟩
    refine StepsOk.consF (i := 22) 20 71 false (.bool (true)) rfl rfl (by kernel_rfl) rfl (fun L x G w1 hp hJ => hJ.2.1.2.2.2.2 (hp ⟨20, .guard⟩ (by simp) rfl)) (fun L x G w1 K hn hp hJ hK => ?_) ?_
    · skip
      simp only [putAll, Act.put, List.setIfInBounds_toArray, List.set_cons_zero, List.set_cons_succ]
      refine hK _ G _ (by kernel_rfl) ?_
      exact ⟨⟨⟨⟨⟨(hJ.1.1.1.1.1), (hJ.1.1.1.1.2)⟩, ⟨(hJ.1.1.1.2.1), (hJ.1.1.1.2.2)⟩⟩, ⟨⟨(hJ.1.1.2.1.1), fun q => (hJ.1.1.2.1.2) (rl q)⟩, ⟨fun q => (hJ.1.1.2.2.1) (rl q), fun q => (hJ.1.1.2.2.2) (rl q)⟩⟩⟩, ⟨⟨⟨fun q => (hJ.1.2.1.1.1) (rl q), fun q => (hJ.1.2.1.1.2) (rl q)⟩, ⟨fun q => (hJ.1.2.1.2.1) (rl q), fun q => (hJ.1.2.1.2.2) (rl q)⟩⟩, ⟨⟨fun q => (hJ.1.2.2.1.1) (rl q), fun q => (hJ.1.2.2.1.2) (rl q)⟩, ⟨fun q => (hJ.1.2.2.2.1) (rl q), ⟨fun q => (hJ.1.2.2.2.2.1) (rl q), fun q => (hJ.1.2.2.2.2.2) (rl q)⟩⟩⟩⟩⟩, ⟨⟨⟨⟨fun q => (hJ.2.1.1.1.1) (rl q), fun q => (hJ.2.1.1.1.2) (rl q)⟩, ⟨fun q => (hJ.2.1.1.2.1) (rl q), fun q => (hJ.2.1.1.2.2) (rl q)⟩⟩, ⟨⟨fun q => (hJ.2.1.2.1.1) (rl q), fun q => (hJ.2.1.2.1.2) (rl q)⟩, ⟨fun q => (hJ.2.1.2.2.1) (rl q), ⟨fun q => (hJ.2.1.2.2.2.1) (rl q), fun q => (hJ.2.1.2.2.2.2) (rl q)⟩⟩⟩⟩, ⟨⟨⟨fun q => (hJ.2.2.1.1.1) (rl q), fun _ => rfl⟩, ⟨fun q => (hJ.2.2.1.2.1) (rl q), fun q => (hJ.2.2.1.2.2) (rl q)⟩⟩, ⟨⟨fun q => (hJ.2.2.2.1.1) (rl q), fun q => (hJ.2.2.2.1.2) (rl q)⟩, ⟨fun q => (hJ.2.2.2.2.1) (rl q), ⟨fun q => (hJ.2.2.2.2.2.1) (rl q), fun q => (hJ.2.2.2.2.2.2) (rl q)⟩⟩⟩⟩⟩⟩
    refine StepsOk.consF (i := 23) 20 71 false (.bool (true)) rfl rfl (by kernel_rfl) rfl (fun L x G w1 hp hJ => hJ.2.1.2.2.2.2 (hp ⟨20, .guard⟩ (by simp) rfl)) (fun L x G w1 K hn hp hJ hK => ?_) ?_
    · skip
      simp only [putAll, Act.put, List.setIfInBounds_toArray, List.set_cons_zero, List.set_cons_succ]
      refine hK _ G _ (by kernel_rfl) ?_
      exact ⟨⟨⟨⟨⟨(hJ.1.1.1.1.1), (hJ.1.1.1.1.2)⟩, ⟨(hJ.1.1.1.2.1), (hJ.1.1.1.2.2)⟩⟩, ⟨⟨(hJ.1.1.2.1.1), fun q => (hJ.1.1.2.1.2) (rl q)⟩, ⟨fun q => (hJ.1.1.2.2.1) (rl q), fun q => (hJ.1.1.2.2.2) (rl q)⟩⟩⟩, ⟨⟨⟨fun q => (hJ.1.2.1.1.1) (rl q), fun q => (hJ.1.2.1.1.2) (rl q)⟩, ⟨fun q => (hJ.1.2.1.2.1) (rl q), fun q => (hJ.1.2.1.2.2) (rl q)⟩⟩, ⟨⟨fun q => (hJ.1.2.2.1.1) (rl q), fun q => (hJ.1.2.2.1.2) (rl q)⟩, ⟨fun q => (hJ.1.2.2.2.1) (rl q), ⟨fun q => (hJ.1.2.2.2.2.1) (rl q), fun q => (hJ.1.2.2.2.2.2) (rl q)⟩⟩⟩⟩⟩, ⟨⟨⟨⟨fun q => (hJ.2.1.1.1.1) (rl q), fun q => (hJ.2.1.1.1.2) (rl q)⟩, ⟨fun q => (hJ.2.1.1.2.1) (rl q), fun q => (hJ.2.1.1.2.2) (rl q)⟩⟩, ⟨⟨fun q => (hJ.2.1.2.1.1) (rl q), fun q => (hJ.2.1.2.1.2) (rl q)⟩, ⟨fun q => (hJ.2.1.2.2.1) (rl q), ⟨fun q => (hJ.2.1.2.2.2.1) (rl q), fun q => (hJ.2.1.2.2.2.2) (rl q)⟩⟩⟩⟩, ⟨⟨⟨fun q => (hJ.2.2.1.1.1) (rl q), fun q => (hJ.2.2.1.1.2) (rl q)⟩, ⟨fun _ => rfl, fun q => (hJ.2.2.1.2.2) (rl q)⟩⟩, ⟨⟨fun q => (hJ.2.2.2.1.1) (rl q), fun q => (hJ.2.2.2.1.2) (rl q)⟩, ⟨fun q => (hJ.2.2.2.2.1) (rl q), ⟨fun q => (hJ.2.2.2.2.2.1) (rl q), fun q => (hJ.2.2.2.2.2.2) (rl q)⟩⟩⟩⟩⟩⟩
    refine StepsOk.cons (i := 24) rfl (fun L x G w1 K Q hn hp hJ hK => ?_) ?_
    · skip
      have p20 : L 20 := hp ⟨20, .data⟩ (by simp) rfl
      have e20 := (hJ.2.1.2.2.2.2) p20
      have p23 : L 23 := hp ⟨23, .data⟩ (by simp) rfl
      have e23 := (hJ.2.2.1.2.1) p23
      simp only [putAll, Act.put, List.setIfInBounds_toArray, List.set_cons_zero, List.set_cons_succ]
      go_simp
      refine hK _ G _ (by kernel_rfl) ?_
      exact ⟨⟨⟨⟨⟨(hJ.1.1.1.1.1), (hJ.1.1.1.1.2)⟩, ⟨(hJ.1.1.1.2.1), (hJ.1.1.1.2.2)⟩⟩, ⟨⟨(hJ.1.1.2.1.1), fun q => (hJ.1.1.2.1.2) (rl q)⟩, ⟨fun q => (hJ.1.1.2.2.1) (rl q), fun q => (hJ.1.1.2.2.2) (rl q)⟩⟩⟩, ⟨⟨⟨fun q => (hJ.1.2.1.1.1) (rl q), fun q => (hJ.1.2.1.1.2) (rl q)⟩, ⟨fun q => (hJ.1.2.1.2.1) (rl q), fun q => (hJ.1.2.1.2.2) (rl q)⟩⟩, ⟨⟨fun q => (hJ.1.2.2.1.1) (rl q), fun q => (hJ.1.2.2.1.2) (rl q)⟩, ⟨fun q => (hJ.1.2.2.2.1) (rl q), ⟨fun q => (hJ.1.2.2.2.2.1) (rl q), fun q => (hJ.1.2.2.2.2.2) (rl q)⟩⟩⟩⟩⟩, ⟨⟨⟨⟨fun q => (hJ.2.1.1.1.1) (rl q), fun q => (hJ.2.1.1.1.2) (rl q)⟩, ⟨fun q => (hJ.2.1.1.2.1) (rl q), fun q => (hJ.2.1.1.2.2) (rl q)⟩⟩, ⟨⟨fun q => (hJ.2.1.2.1.1) (rl q), fun q => (hJ.2.1.2.1.2) (rl q)⟩, ⟨fun q => (hJ.2.1.2.2.1) (rl q), ⟨fun q => (hJ.2.1.2.2.2.1) (rl q), fun _ => by first | exact rfl | exact e20⟩⟩⟩⟩, ⟨⟨⟨fun q => (hJ.2.2.1.1.1) (rl q), fun q => (hJ.2.2.1.1.2) (rl q)⟩, ⟨fun _ => by first | exact rfl | exact e23, fun _ => rfl⟩⟩, ⟨⟨fun q => (hJ.2.2.2.1.1) (rl q), fun q => (hJ.2.2.2.1.2) (rl q)⟩, ⟨fun q => (hJ.2.2.2.2.1) (rl q), ⟨fun q => (hJ.2.2.2.2.2.1) (rl q), fun q => (hJ.2.2.2.2.2.2) (rl q)⟩⟩⟩⟩⟩⟩
    refine StepsOk.cons (i := 25) rfl (fun L x G w1 K Q hn hp hJ hK => ?_) ?_
    · skip
      have p24 : L 24 := hp ⟨24, .data⟩ (by simp) rfl
      have e24 := (hJ.2.2.1.2.2) p24
      simp only [putAll, Act.put, List.setIfInBounds_toArray, List.set_cons_zero, List.set_cons_succ]
      go_simp
      refine hK _ G _ (by kernel_rfl) ?_
      exact ⟨⟨⟨⟨⟨(hJ.1.1.1.1.1), (hJ.1.1.1.1.2)⟩, ⟨(hJ.1.1.1.2.1), (hJ.1.1.1.2.2)⟩⟩, ⟨⟨(hJ.1.1.2.1.1), fun q => (hJ.1.1.2.1.2) (rl q)⟩, ⟨fun q => (hJ.1.1.2.2.1) (rl q), fun q => (hJ.1.1.2.2.2) (rl q)⟩⟩⟩, ⟨⟨⟨fun q => (hJ.1.2.1.1.1) (rl q), fun q => (hJ.1.2.1.1.2) (rl q)⟩, ⟨fun q => (hJ.1.2.1.2.1) (rl q), fun q => (hJ.1.2.1.2.2) (rl q)⟩⟩, ⟨⟨fun q => (hJ.1.2.2.1.1) (rl q), fun q => (hJ.1.2.2.1.2) (rl q)⟩, ⟨fun q => (hJ.1.2.2.2.1) (rl q), ⟨fun q => (hJ.1.2.2.2.2.1) (rl q), fun q => (hJ.1.2.2.2.2.2) (rl q)⟩⟩⟩⟩⟩, ⟨⟨⟨⟨fun q => (hJ.2.1.1.1.1) (rl q), fun q => (hJ.2.1.1.1.2) (rl q)⟩, ⟨fun q => (hJ.2.1.1.2.1) (rl q), fun q => (hJ.2.1.1.2.2) (rl q)⟩⟩, ⟨⟨fun q => (hJ.2.1.2.1.1) (rl q), fun q => (hJ.2.1.2.1.2) (rl q)⟩, ⟨fun q => (hJ.2.1.2.2.1) (rl q), ⟨fun q => (hJ.2.1.2.2.2.1) (rl q), fun q => (hJ.2.1.2.2.2.2) (rl q)⟩⟩⟩⟩, ⟨⟨⟨fun q => (hJ.2.2.1.1.1) (rl q), fun q => (hJ.2.2.1.1.2) (rl q)⟩, ⟨fun q => (hJ.2.2.1.2.1) (rl q), fun _ => by first | exact rfl | exact e24⟩⟩, ⟨⟨fun _ => rfl, fun q => (hJ.2.2.2.1.2) (rl q)⟩, ⟨fun q => (hJ.2.2.2.2.1) (rl q), ⟨fun q => (hJ.2.2.2.2.2.1) (rl q), fun q => (hJ.2.2.2.2.2.2) (rl q)⟩⟩⟩⟩⟩⟩
    refine StepsOk.consF (i := 26) 25 76 false (.bool (true)) rfl rfl (by kernel_rfl) rfl (fun L x G w1 hp hJ => hJ.2.2.2.1.1 (hp ⟨25, .guard⟩ (by simp) rfl)) (fun L x G w1 K hn hp hJ hK => ?_) ?_
    · skip
      simp only [putAll, Act.put, List.setIfInBounds_toArray, List.set_cons_zero, List.set_cons_succ]
      refine hK _ G _ (by kernel_rfl) ?_
      exact ⟨⟨⟨⟨⟨(hJ.1.1.1.1.1), (hJ.1.1.1.1.2)⟩, ⟨(hJ.1.1.1.2.1), (hJ.1.1.1.2.2)⟩⟩, ⟨⟨(hJ.1.1.2.1.1), fun q => (hJ.1.1.2.1.2) (rl q)⟩, ⟨fun q => (hJ.1.1.2.2.1) (rl q), fun q => (hJ.1.1.2.2.2) (rl q)⟩⟩⟩, ⟨⟨⟨fun q => (hJ.1.2.1.1.1) (rl q), fun q => (hJ.1.2.1.1.2) (rl q)⟩, ⟨fun q => (hJ.1.2.1.2.1) (rl q), fun q => (hJ.1.2.1.2.2) (rl q)⟩⟩, ⟨⟨fun q => (hJ.1.2.2.1.1) (rl q), fun q => (hJ.1.2.2.1.2) (rl q)⟩, ⟨fun q => (hJ.1.2.2.2.1) (rl q), ⟨fun q => (hJ.1.2.2.2.2.1) (rl q), fun q => (hJ.1.2.2.2.2.2) (rl q)⟩⟩⟩⟩⟩, ⟨⟨⟨⟨fun q => (hJ.2.1.1.1.1) (rl q), fun q => (hJ.2.1.1.1.2) (rl q)⟩, ⟨fun q => (hJ.2.1.1.2.1) (rl q), fun q => (hJ.2.1.1.2.2) (rl q)⟩⟩, ⟨⟨fun q => (hJ.2.1.2.1.1) (rl q), fun q => (hJ.2.1.2.1.2) (rl q)⟩, ⟨fun q => (hJ.2.1.2.2.1) (rl q), ⟨fun q => (hJ.2.1.2.2.2.1) (rl q), fun q => (hJ.2.1.2.2.2.2) (rl q)⟩⟩⟩⟩, ⟨⟨⟨fun q => (hJ.2.2.1.1.1) (rl q), fun q => (hJ.2.2.1.1.2) (rl q)⟩, ⟨fun q => (hJ.2.2.1.2.1) (rl q), fun q => (hJ.2.2.1.2.2) (rl q)⟩⟩, ⟨⟨fun q => (hJ.2.2.2.1.1) (rl q), fun _ => rfl⟩, ⟨fun q => (hJ.2.2.2.2.1) (rl q), ⟨fun q => (hJ.2.2.2.2.2.1) (rl q), fun q => (hJ.2.2.2.2.2.2) (rl q)⟩⟩⟩⟩⟩⟩
    refine StepsOk.consF (i := 27) 25 76 false (.bool (true)) rfl rfl (by kernel_rfl) rfl (fun L x G w1 hp hJ => hJ.2.2.2.1.1 (hp ⟨25, .guard⟩ (by simp) rfl)) (fun L x G w1 K hn hp hJ hK => ?_) ?_
    · skip
      simp only [putAll, Act.put, List.setIfInBounds_toArray, List.set_cons_zero, List.set_cons_succ]
      refine hK _ G _ (by kernel_rfl) ?_
      exact ⟨⟨⟨⟨⟨(hJ.1.1.1.1.1), (hJ.1.1.1.1.2)⟩, ⟨(hJ.1.1.1.2.1), (hJ.1.1.1.2.2)⟩⟩, ⟨⟨(hJ.1.1.2.1.1), fun q => (hJ.1.1.2.1.2) (rl q)⟩, ⟨fun q => (hJ.1.1.2.2.1) (rl q), fun q => (hJ.1.1.2.2.2) (rl q)⟩⟩⟩, ⟨⟨⟨fun q => (hJ.1.2.1.1.1) (rl q), fun q => (hJ.1.2.1.1.2) (rl q)⟩, ⟨fun q => (hJ.1.2.1.2.1) (rl q), fun q => (hJ.1.2.1.2.2) (rl q)⟩⟩, ⟨⟨fun q => (hJ.1.2.2.1.1) (rl q), fun q => (hJ.1.2.2.1.2) (rl q)⟩, ⟨fun q => (hJ.1.2.2.2.1) (rl q), ⟨fun q => (hJ.1.2.2.2.2.1) (rl q), fun q => (hJ.1.2.2.2.2.2) (rl q)⟩⟩⟩⟩⟩, ⟨⟨⟨⟨fun q => (hJ.2.1.1.1.1) (rl q), fun q => (hJ.2.1.1.1.2) (rl q)⟩, ⟨fun q => (hJ.2.1.1.2.1) (rl q), fun q => (hJ.2.1.1.2.2) (rl q)⟩⟩, ⟨⟨fun q => (hJ.2.1.2.1.1) (rl q), fun q => (hJ.2.1.2.1.2) (rl q)⟩, ⟨fun q => (hJ.2.1.2.2.1) (rl q), ⟨fun q => (hJ.2.1.2.2.2.1) (rl q), fun q => (hJ.2.1.2.2.2.2) (rl q)⟩⟩⟩⟩, ⟨⟨⟨fun q => (hJ.2.2.1.1.1) (rl q), fun q => (hJ.2.2.1.1.2) (rl q)⟩, ⟨fun q => (hJ.2.2.1.2.1) (rl q), fun q => (hJ.2.2.1.2.2) (rl q)⟩⟩, ⟨⟨fun q => (hJ.2.2.2.1.1) (rl q), fun q => (hJ.2.2.2.1.2) (rl q)⟩, ⟨fun _ => rfl, ⟨fun q => (hJ.2.2.2.2.2.1) (rl q), fun q => (hJ.2.2.2.2.2.2) (rl q)⟩⟩⟩⟩⟩⟩
    refine StepsOk.consF (i := 28) 25 76 false (.bool (true)) rfl rfl (by kernel_rfl) rfl (fun L x G w1 hp hJ => hJ.2.2.2.1.1 (hp ⟨25, .guard⟩ (by simp) rfl)) (fun L x G w1 K hn hp hJ hK => ?_) ?_
    · skip
      simp only [putAll, Act.put, List.setIfInBounds_toArray, List.set_cons_zero, List.set_cons_succ]
      refine hK _ G _ (by kernel_rfl) ?_
      exact ⟨⟨⟨⟨⟨(hJ.1.1.1.1.1), (hJ.1.1.1.1.2)⟩, ⟨(hJ.1.1.1.2.1), (hJ.1.1.1.2.2)⟩⟩, ⟨⟨(hJ.1.1.2.1.1), fun q => (hJ.1.1.2.1.2) (rl q)⟩, ⟨fun q => (hJ.1.1.2.2.1) (rl q), fun q => (hJ.1.1.2.2.2) (rl q)⟩⟩⟩, ⟨⟨⟨fun q => (hJ.1.2.1.1.1) (rl q), fun q => (hJ.1.2.1.1.2) (rl q)⟩, ⟨fun q => (hJ.1.2.1.2.1) (rl q), fun q => (hJ.1.2.1.2.2) (rl q)⟩⟩, ⟨⟨fun q => (hJ.1.2.2.1.1) (rl q), fun q => (hJ.1.2.2.1.2) (rl q)⟩, ⟨fun q => (hJ.1.2.2.2.1) (rl q), ⟨fun q => (hJ.1.2.2.2.2.1) (rl q), fun q => (hJ.1.2.2.2.2.2) (rl q)⟩⟩⟩⟩⟩, ⟨⟨⟨⟨fun q => (hJ.2.1.1.1.1) (rl q), fun q => (hJ.2.1.1.1.2) (rl q)⟩, ⟨fun q => (hJ.2.1.1.2.1) (rl q), fun q => (hJ.2.1.1.2.2) (rl q)⟩⟩, ⟨⟨fun q => (hJ.2.1.2.1.1) (rl q), fun q => (hJ.2.1.2.1.2) (rl q)⟩, ⟨fun q => (hJ.2.1.2.2.1) (rl q), ⟨fun q => (hJ.2.1.2.2.2.1) (rl q), fun q => (hJ.2.1.2.2.2.2) (rl q)⟩⟩⟩⟩, ⟨⟨⟨fun q => (hJ.2.2.1.1.1) (rl q), fun q => (hJ.2.2.1.1.2) (rl q)⟩, ⟨fun q => (hJ.2.2.1.2.1) (rl q), fun q => (hJ.2.2.1.2.2) (rl q)⟩⟩, ⟨⟨fun q => (hJ.2.2.2.1.1) (rl q), fun q => (hJ.2.2.2.1.2) (rl q)⟩, ⟨fun q => (hJ.2.2.2.2.1) (rl q), ⟨fun _ => rfl, fun q => (hJ.2.2.2.2.2.2) (rl q)⟩⟩⟩⟩⟩⟩
    refine StepsOk.cons (i := 29) rfl (fun L x G w1 K Q hn hp hJ hK => ?_) ?_
    · skip
      have p25 : L 25 := hp ⟨25, .data⟩ (by simp) rfl
      have e25 := (hJ.2.2.2.1.1) p25
      have p28 : L 28 := hp ⟨28, .data⟩ (by simp) rfl
      have e28 := (hJ.2.2.2.2.2.1) p28
      simp only [putAll, Act.put, List.setIfInBounds_toArray, List.set_cons_zero, List.set_cons_succ]
      go_simp
      refine hK _ G _ (by kernel_rfl) ?_
      exact ⟨⟨⟨⟨⟨(hJ.1.1.1.1.1), (hJ.1.1.1.1.2)⟩, ⟨(hJ.1.1.1.2.1), (hJ.1.1.1.2.2)⟩⟩, ⟨⟨(hJ.1.1.2.1.1), fun q => (hJ.1.1.2.1.2) (rl q)⟩, ⟨fun q => (hJ.1.1.2.2.1) (rl q), fun q => (hJ.1.1.2.2.2) (rl q)⟩⟩⟩, ⟨⟨⟨fun q => (hJ.1.2.1.1.1) (rl q), fun q => (hJ.1.2.1.1.2) (rl q)⟩, ⟨fun q => (hJ.1.2.1.2.1) (rl q), fun q => (hJ.1.2.1.2.2) (rl q)⟩⟩, ⟨⟨fun q => (hJ.1.2.2.1.1) (rl q), fun q => (hJ.1.2.2.1.2) (rl q)⟩, ⟨fun q => (hJ.1.2.2.2.1) (rl q), ⟨fun q => (hJ.1.2.2.2.2.1) (rl q), fun q => (hJ.1.2.2.2.2.2) (rl q)⟩⟩⟩⟩⟩, ⟨⟨⟨⟨fun q => (hJ.2.1.1.1.1) (rl q), fun q => (hJ.2.1.1.1.2) (rl q)⟩, ⟨fun q => (hJ.2.1.1.2.1) (rl q), fun q => (hJ.2.1.1.2.2) (rl q)⟩⟩, ⟨⟨fun q => (hJ.2.1.2.1.1) (rl q), fun q => (hJ.2.1.2.1.2) (rl q)⟩, ⟨fun q => (hJ.2.1.2.2.1) (rl q), ⟨fun q => (hJ.2.1.2.2.2.1) (rl q), fun q => (hJ.2.1.2.2.2.2) (rl q)⟩⟩⟩⟩, ⟨⟨⟨fun q => (hJ.2.2.1.1.1) (rl q), fun q => (hJ.2.2.1.1.2) (rl q)⟩, ⟨fun q => (hJ.2.2.1.2.1) (rl q), fun q => (hJ.2.2.1.2.2) (rl q)⟩⟩, ⟨⟨fun _ => by first | exact rfl | exact e25, fun q => (hJ.2.2.2.1.2) (rl q)⟩, ⟨fun q => (hJ.2.2.2.2.1) (rl q), ⟨fun _ => by first | exact rfl | exact e28, fun _ => rfl⟩⟩⟩⟩⟩⟩
    exact StepsOk.nil
  case fin =>
    intro L x G w3 hall hJ
    replace P := (hJ.1.1.1.2.1)
    replace N := (hJ.1.1.2.1.1)
    have u0 := hJ.1.1.2.1.2 (hall 0 (by decide))
    have u1 := hJ.1.1.2.2.1 (hall 1 (by decide))
    have u2 := hJ.1.1.2.2.2 (hall 2 (by decide))
    have u3 := hJ.1.2.1.1.1 (hall 3 (by decide))
    have u4 := hJ.1.2.1.1.2 (hall 4 (by decide))
    have u5 := hJ.1.2.1.2.1 (hall 5 (by decide))
    have u6 := hJ.1.2.1.2.2 (hall 6 (by decide))
    have u7 := hJ.1.2.2.1.1 (hall 7 (by decide))
    have u8 := hJ.1.2.2.1.2 (hall 8 (by decide))
    have u9 := hJ.1.2.2.2.1 (hall 9 (by decide))
    have u10 := hJ.1.2.2.2.2.1 (hall 10 (by decide))
    have u11 := hJ.1.2.2.2.2.2 (hall 11 (by decide))
    have u12 := hJ.2.1.1.1.1 (hall 12 (by decide))
    have u13 := hJ.2.1.1.1.2 (hall 13 (by decide))
    have u14 := hJ.2.1.1.2.1 (hall 14 (by decide))
    have u15 := hJ.2.1.1.2.2 (hall 15 (by decide))
    have u16 := hJ.2.1.2.1.1 (hall 16 (by decide))
    have u17 := hJ.2.1.2.1.2 (hall 17 (by decide))
    have u18 := hJ.2.1.2.2.1 (hall 18 (by decide))
    have u19 := hJ.2.1.2.2.2.1 (hall 19 (by decide))
    have u20 := hJ.2.1.2.2.2.2 (hall 20 (by decide))
    have u21 := hJ.2.2.1.1.1 (hall 21 (by decide))
    have u22 := hJ.2.2.1.1.2 (hall 22 (by decide))
    have u23 := hJ.2.2.1.2.1 (hall 23 (by decide))
    have u24 := hJ.2.2.1.2.2 (hall 24 (by decide))
    have u25 := hJ.2.2.2.1.1 (hall 25 (by decide))
    have u26 := hJ.2.2.2.1.2 (hall 26 (by decide))
    have u27 := hJ.2.2.2.2.1 (hall 27 (by decide))
    have u28 := hJ.2.2.2.2.2.1 (hall 28 (by decide))
    have u29 := hJ.2.2.2.2.2.2 (hall 29 (by decide))
    replace hB := hJ.1.1.1.1.1
    simp only [putAll, Act.put, List.setIfInBounds_toArray, List.set_cons_zero, List.set_cons_succ]
    simp only [u0, u1, u2, u3, u4, u5, u6, u7, u8, u9, u10, u11, u12, u13, u14, u15, u16, u17, u18, u19, u20, u21, u22, u23, u24, u25, u26, u27, u28, u29]
    clear hall hJ u0 u1 u2 u3 u4 u5 u6 u7 u8 u9 u10 u11 u12 u13 u14 u15 u16 u17 u18 u19 u20 u21 u22 u23 u24 u25 u26 u27 u28 u29
    go_wp2_with fail
    go_returns
    exact ⟨rfl, hB⟩
set_option maxRecDepth 100000 in
set_option maxHeartbeats 4000000 in
theorem top_0 (A : Option Addr) (n c : Nat) (M : Lq.Tab) (ux uy v : Int) (w : World) (T : Rd w 6 A n c (iv M)) (bx : -9223372036854775808 ≤ ux ∧ ux ≤ 9223372036854775807) (by_ : -9223372036854775808 ≤ uy ∧ uy ≤ 9223372036854775807) (k : Nat) (hkn : k ≤ n) (f2 : (if (17 : Int) < (n : Int) then (17 : Int) else (n : Int)) = (k : Int)) (h : Lq.er k M = 0) (c0 : v < 1) :
    Calls Try.prog 12 #[.slice A n c, .agg #[.int .i64 ux, .int .i64 uy], .int .i64 v] w fun e w' => e = .returned (.bool true) ∧ Below w.heap.size w w' := by
  have r1 := T.le
  have r2 := T.mx
  have f3 : (k : Int) ≤ (c : Int) := by omega
  have T0 := T.short hkn
  have KN1 := fun W_ : World => nav_c ux W_ bx.1 bx.2
  have KN2 := fun W_ : World => nav_c uy W_ by_.1 by_.2
  go_enter Try.func12, Try.ntmps12
  try simp only [List.append_eq, List.cons_append, List.nil_append]
  have P := Blk.new w 36 #[.int .i64 (ux), .int .i64 (uy)]
  have hB := ba w (.cells #[.int .i64 (ux), .int .i64 (uy)] 36)
  have A4 := Blk.new1 w (.cells #[.int .i64 (ux), .int .i64 (uy)] 36) 43 #[.int .i64 (1), .int .i64 (2), .int .i64 (0), .int .i64 (6), .int .i64 (0), .int .i64 (1), .int .i64 (2), .int .i64 (0), .int .i64 (1), .int .i64 (5), .int .i64 (0), .int .i64 (2)]
  replace P := P.alloc (.cells #[.int .i64 (1), .int .i64 (2), .int .i64 (0), .int .i64 (6), .int .i64 (0), .int .i64 (1), .int .i64 (2), .int .i64 (0), .int .i64 (1), .int .i64 (5), .int .i64 (0), .int .i64 (2)] 43)
  replace hB := bal hB (.cells #[.int .i64 (1), .int .i64 (2), .int .i64 (0), .int .i64 (6), .int .i64 (0), .int .i64 (1), .int .i64 (2), .int .i64 (0), .int .i64 (1), .int .i64 (5), .int .i64 (0), .int .i64 (2)] 43)
  obtain ⟨c00, c01, c02, c03⟩ := P.open2
  go_wp2_with fail
  refine (sol4 A4).mono ?_
  rintro e w1 ⟨rfl, hb⟩
  clear c00 c01 c02 c03
  replace P := P.keep hb
  replace A4 := A4.keep hb
  replace hB := bt hB hb
  clear hb
  have hz1 := hB.size
  have l1P := P.lt
  have l1A4 := A4.lt
  replace P := P.alloc (.cells #[.int .i64 (Wi.Hq (24)), .int .u64 (Wi.Lr (24)), .int .i64 (Wi.Hq (40)), .int .u64 (Wi.Lr (40)), .int .i64 (8), .int .i64 (3), .int .i64 (5)] 38)
  replace A4 := A4.alloc (.cells #[.int .i64 (Wi.Hq (24)), .int .u64 (Wi.Lr (24)), .int .i64 (Wi.Hq (40)), .int .u64 (Wi.Lr (40)), .int .i64 (8), .int .i64 (3), .int .i64 (5)] 38)
  replace hB := bal hB (.cells #[.int .i64 (Wi.Hq (24)), .int .u64 (Wi.Lr (24)), .int .i64 (Wi.Hq (40)), .int .u64 (Wi.Lr (40)), .int .i64 (8), .int .i64 (3), .int .i64 (5)] 38)
  have S := Blk.new w1 38 #[.int .i64 (Wi.Hq (24)), .int .u64 (Wi.Lr (24)), .int .i64 (Wi.Hq (40)), .int .u64 (Wi.Lr (40)), .int .i64 (8), .int .i64 (3), .int .i64 (5)]
  have S0 := Lq.er_ok.1 h
  have H := Lib.hid h
  have O := S0.ok
  have hd0 := S0.d
  have dt2 := (Lq.Ok.sxb O).2.2.2
  clear h S0
  obtain ⟨c00, c01, c02, c03⟩ := P.open2
  obtain ⟨c10, c11, c12, c13, c14, c15, c16, c17, c18⟩ := S.open7
  go_wp2_with fail
  refine (least_ok _ _ _ _ _ (T0.keep hB) H.out).mono ?_
  rintro e w2 ⟨rfl, hb⟩
  clear c00 c01 c02 c03 c10 c11 c12 c13 c14 c15 c16 c17 c18
  replace P := P.keep hb
  replace S := S.keep hb
  replace hB := bt hB hb
  clear hb
  have hz2 := hB.size
  have l2P := P.lt
  have l2S := S.lt
  replace P := P.alloc (.cells #[.int .i64 (Wi.Hq (Lq.num k M)), .int .u64 (Wi.Lr (Lq.num k M))] 34)
  replace S := S.alloc (.cells #[.int .i64 (Wi.Hq (Lq.num k M)), .int .u64 (Wi.Lr (Lq.num k M))] 34)
  replace hB := bal hB (.cells #[.int .i64 (Wi.Hq (Lq.num k M)), .int .u64 (Wi.Lr (Lq.num k M))] 34)
  have N := Blk.new w2 34 #[.int .i64 (Wi.Hq (Lq.num k M)), .int .u64 (Wi.Lr (Lq.num k M))]
  have lN0 := N.lt
  have lPN : w.heap.size < w2.heap.size := by have := l2P; omega
  generalize w2.heap.size = gN at *
  obtain ⟨mx, emx, hmx⟩ : ∃ m, (if nsz uy > nsz ux then nsz uy else nsz ux) = m ∧ Hid (m = max (nsz ux) (nsz uy)) := ⟨_, rfl, Lib.hid (by split <;> omega)⟩
  have d0 : decide (v < 1) = true := decide_eq_true (by omega)
  go_wp2_with fail
  refine wp_region_inv (fun L x G wx => (((((Below w.heap.size w wx
        ∧ w.heap.size < wx.heap.size)
        ∧ (Blk wx (w.heap.size) 36 #[.int .i64 (ux), .int .i64 (uy)]
        ∧ gN < wx.heap.size))
        ∧ ((Blk wx (gN) 34 #[.int .i64 (Wi.Hq (Lq.num k M)), .int .u64 (Wi.Lr (Lq.num k M))]
        ∧ (L 0 → x 51 = .int .i64 (0)))
        ∧ ((L 1 → x 52 = .bool (false))
        ∧ (L 2 → x 53 = .bool (false)))))
        ∧ ((((L 3 → x 54 = .int .i64 (v))
        ∧ (L 4 → x 55 = .bool (true)))
        ∧ ((L 5 → x 56 = .bool (true))
        ∧ (L 6 → x 57 = .bool (true))))
        ∧ (((L 7 → x 58 = undef)
        ∧ (L 8 → x 59 = undef))
        ∧ ((L 9 → x 60 = .bool (true))
        ∧ ((L 10 → x 61 = .bool (true))
        ∧ (L 11 → x 62 = undef))))))
        ∧ (((((L 12 → x 63 = undef)
        ∧ (L 13 → x 64 = undef))
        ∧ ((L 14 → x 65 = undef)
        ∧ (L 15 → x 66 = undef)))
        ∧ (((L 16 → x 67 = undef)
        ∧ (L 17 → x 68 = undef))
        ∧ ((L 18 → x 69 = undef)
        ∧ ((L 19 → x 70 = .bool (true))
        ∧ (L 20 → x 71 = .bool (true))))))
        ∧ ((((L 21 → x 72 = undef)
        ∧ (L 22 → x 73 = undef))
        ∧ ((L 23 → x 74 = undef)
        ∧ (L 24 → x 75 = .bool (true))))
        ∧ (((L 25 → x 76 = .bool (true))
        ∧ (L 26 → x 77 = undef))
        ∧ ((L 27 → x 78 = undef)
        ∧ ((L 28 → x 79 = undef)
        ∧ (L 29 → x 80 = .bool (true))))))))) [51, 52, 53, 54, 55, 56, 57, 58, 59, 60, 61, 62, 63, 64, 65, 66, 67, 68, 69, 70, 71, 72, 73, 74, 75, 76, 77, 78, 79, 80] 30 (by kernel_rfl) (by kernel_rfl) (by kernel_rfl) ?h0 ?st ?fin
  case h0 =>
    exact ⟨⟨⟨⟨⟨bdr hB, Blk.lt P.drew⟩, ⟨P.drew, Blk.lt N.drew⟩⟩, ⟨⟨N.drew, fun q => q.elim⟩, ⟨fun q => q.elim, fun q => q.elim⟩⟩⟩, ⟨⟨⟨fun q => q.elim, fun q => q.elim⟩, ⟨fun q => q.elim, fun q => q.elim⟩⟩, ⟨⟨fun q => q.elim, fun q => q.elim⟩, ⟨fun q => q.elim, ⟨fun q => q.elim, fun q => q.elim⟩⟩⟩⟩⟩, ⟨⟨⟨⟨fun q => q.elim, fun q => q.elim⟩, ⟨fun q => q.elim, fun q => q.elim⟩⟩, ⟨⟨fun q => q.elim, fun q => q.elim⟩, ⟨fun q => q.elim, ⟨fun q => q.elim, fun q => q.elim⟩⟩⟩⟩, ⟨⟨⟨fun q => q.elim, fun q => q.elim⟩, ⟨fun q => q.elim, fun q => q.elim⟩⟩, ⟨⟨fun q => q.elim, fun q => q.elim⟩, ⟨fun q => q.elim, ⟨fun q => q.elim, fun q => q.elim⟩⟩⟩⟩⟩⟩
  case st =>
    refine StepsOk.cons (i := 0) rfl (fun L x G w1 K Q hn hp hJ hK => ?_) ?_
    · skip
      simp only [putAll, Act.put, List.setIfInBounds_toArray, List.set_cons_zero, List.set_cons_succ]
      go_simp
      refine hK _ G _ (by kernel_rfl) ?_
      exact ⟨⟨⟨⟨⟨(hJ.1.1.1.1.1), (hJ.1.1.1.1.2)⟩, ⟨(hJ.1.1.1.2.1), (hJ.1.1.1.2.2)⟩⟩, ⟨⟨(hJ.1.1.2.1.1), fun _ => rfl⟩, ⟨fun q => (hJ.1.1.2.2.1) (rl q), fun q => (hJ.1.1.2.2.2) (rl q)⟩⟩⟩, ⟨⟨⟨fun q => (hJ.1.2.1.1.1) (rl q), fun q => (hJ.1.2.1.1.2) (rl q)⟩, ⟨fun q => (hJ.1.2.1.2.1) (rl q), fun q => (hJ.1.2.1.2.2) (rl q)⟩⟩, ⟨⟨fun q => (hJ.1.2.2.1.1) (rl q), fun q => (hJ.1.2.2.1.2) (rl q)⟩, ⟨fun q => (hJ.1.2.2.2.1) (rl q), ⟨fun q => (hJ.1.2.2.2.2.1) (rl q), fun q => (hJ.1.2.2.2.2.2) (rl q)⟩⟩⟩⟩⟩, ⟨⟨⟨⟨fun q => (hJ.2.1.1.1.1) (rl q), fun q => (hJ.2.1.1.1.2) (rl q)⟩, ⟨fun q => (hJ.2.1.1.2.1) (rl q), fun q => (hJ.2.1.1.2.2) (rl q)⟩⟩, ⟨⟨fun q => (hJ.2.1.2.1.1) (rl q), fun q => (hJ.2.1.2.1.2) (rl q)⟩, ⟨fun q => (hJ.2.1.2.2.1) (rl q), ⟨fun q => (hJ.2.1.2.2.2.1) (rl q), fun q => (hJ.2.1.2.2.2.2) (rl q)⟩⟩⟩⟩, ⟨⟨⟨fun q => (hJ.2.2.1.1.1) (rl q), fun q => (hJ.2.2.1.1.2) (rl q)⟩, ⟨fun q => (hJ.2.2.1.2.1) (rl q), fun q => (hJ.2.2.1.2.2) (rl q)⟩⟩, ⟨⟨fun q => (hJ.2.2.2.1.1) (rl q), fun q => (hJ.2.2.2.1.2) (rl q)⟩, ⟨fun q => (hJ.2.2.2.2.1) (rl q), ⟨fun q => (hJ.2.2.2.2.2.1) (rl q), fun q => (hJ.2.2.2.2.2.2) (rl q)⟩⟩⟩⟩⟩⟩
    refine StepsOk.cons (i := 1) rfl (fun L x G w1 K Q hn hp hJ hK => ?_) ?_
    · skip
      have p0 : L 0 := hp ⟨0, .data⟩ (by simp) rfl
      have e0 := (hJ.1.1.2.1.2) p0
      simp only [putAll, Act.put, List.setIfInBounds_toArray, List.set_cons_zero, List.set_cons_succ]
      go_simp
      refine hK _ G _ (by kernel_rfl) ?_
      exact ⟨⟨⟨⟨⟨(hJ.1.1.1.1.1), (hJ.1.1.1.1.2)⟩, ⟨(hJ.1.1.1.2.1), (hJ.1.1.1.2.2)⟩⟩, ⟨⟨(hJ.1.1.2.1.1), fun _ => by first | exact rfl | exact e0⟩, ⟨fun _ => rfl, fun q => (hJ.1.1.2.2.2) (rl q)⟩⟩⟩, ⟨⟨⟨fun q => (hJ.1.2.1.1.1) (rl q), fun q => (hJ.1.2.1.1.2) (rl q)⟩, ⟨fun q => (hJ.1.2.1.2.1) (rl q), fun q => (hJ.1.2.1.2.2) (rl q)⟩⟩, ⟨⟨fun q => (hJ.1.2.2.1.1) (rl q), fun q => (hJ.1.2.2.1.2) (rl q)⟩, ⟨fun q => (hJ.1.2.2.2.1) (rl q), ⟨fun q => (hJ.1.2.2.2.2.1) (rl q), fun q => (hJ.1.2.2.2.2.2) (rl q)⟩⟩⟩⟩⟩, ⟨⟨⟨⟨fun q => (hJ.2.1.1.1.1) (rl q), fun q => (hJ.2.1.1.1.2) (rl q)⟩, ⟨fun q => (hJ.2.1.1.2.1) (rl q), fun q => (hJ.2.1.1.2.2) (rl q)⟩⟩, ⟨⟨fun q => (hJ.2.1.2.1.1) (rl q), fun q => (hJ.2.1.2.1.2) (rl q)⟩, ⟨fun q => (hJ.2.1.2.2.1) (rl q), ⟨fun q => (hJ.2.1.2.2.2.1) (rl q), fun q => (hJ.2.1.2.2.2.2) (rl q)⟩⟩⟩⟩, ⟨⟨⟨fun q => (hJ.2.2.1.1.1) (rl q), fun q => (hJ.2.2.1.1.2) (rl q)⟩, ⟨fun q => (hJ.2.2.1.2.1) (rl q), fun q => (hJ.2.2.1.2.2) (rl q)⟩⟩, ⟨⟨fun q => (hJ.2.2.2.1.1) (rl q), fun q => (hJ.2.2.2.1.2) (rl q)⟩, ⟨fun q => (hJ.2.2.2.2.1) (rl q), ⟨fun q => (hJ.2.2.2.2.2.1) (rl q), fun q => (hJ.2.2.2.2.2.2) (rl q)⟩⟩⟩⟩⟩⟩
    refine StepsOk.cons (i := 2) rfl (fun L x G w1 K Q hn hp hJ hK => ?_) ?_
    · skip
      have p1 : L 1 := hp ⟨1, .data⟩ (by simp) rfl
      have e1 := (hJ.1.1.2.2.1) p1
      simp only [putAll, Act.put, List.setIfInBounds_toArray, List.set_cons_zero, List.set_cons_succ]
      go_simp
      refine hK _ G _ (by kernel_rfl) ?_
      exact ⟨⟨⟨⟨⟨(hJ.1.1.1.1.1), (hJ.1.1.1.1.2)⟩, ⟨(hJ.1.1.1.2.1), (hJ.1.1.1.2.2)⟩⟩, ⟨⟨(hJ.1.1.2.1.1), fun q => (hJ.1.1.2.1.2) (rl q)⟩, ⟨fun _ => by first | exact rfl | exact e1, fun _ => rfl⟩⟩⟩, ⟨⟨⟨fun q => (hJ.1.2.1.1.1) (rl q), fun q => (hJ.1.2.1.1.2) (rl q)⟩, ⟨fun q => (hJ.1.2.1.2.1) (rl q), fun q => (hJ.1.2.1.2.2) (rl q)⟩⟩, ⟨⟨fun q => (hJ.1.2.2.1.1) (rl q), fun q => (hJ.1.2.2.1.2) (rl q)⟩, ⟨fun q => (hJ.1.2.2.2.1) (rl q), ⟨fun q => (hJ.1.2.2.2.2.1) (rl q), fun q => (hJ.1.2.2.2.2.2) (rl q)⟩⟩⟩⟩⟩, ⟨⟨⟨⟨fun q => (hJ.2.1.1.1.1) (rl q), fun q => (hJ.2.1.1.1.2) (rl q)⟩, ⟨fun q => (hJ.2.1.1.2.1) (rl q), fun q => (hJ.2.1.1.2.2) (rl q)⟩⟩, ⟨⟨fun q => (hJ.2.1.2.1.1) (rl q), fun q => (hJ.2.1.2.1.2) (rl q)⟩, ⟨fun q => (hJ.2.1.2.2.1) (rl q), ⟨fun q => (hJ.2.1.2.2.2.1) (rl q), fun q => (hJ.2.1.2.2.2.2) (rl q)⟩⟩⟩⟩, ⟨⟨⟨fun q => (hJ.2.2.1.1.1) (rl q), fun q => (hJ.2.2.1.1.2) (rl q)⟩, ⟨fun q => (hJ.2.2.1.2.1) (rl q), fun q => (hJ.2.2.1.2.2) (rl q)⟩⟩, ⟨⟨fun q => (hJ.2.2.2.1.1) (rl q), fun q => (hJ.2.2.2.1.2) (rl q)⟩, ⟨fun q => (hJ.2.2.2.2.1) (rl q), ⟨fun q => (hJ.2.2.2.2.2.1) (rl q), fun q => (hJ.2.2.2.2.2.2) (rl q)⟩⟩⟩⟩⟩⟩
    refine StepsOk.consT (i := 3) 2 53 false rfl rfl (by kernel_rfl) (fun L x G w1 hp hJ => hJ.1.1.2.2.2 (hp ⟨2, .guard⟩ (by simp) rfl)) (fun L x G w1 K Q hn hp hJ hK => ?_) ?_
    · skip
      simp only [putAll, Act.put, List.setIfInBounds_toArray, List.set_cons_zero, List.set_cons_succ]
      go_simp
      refine hK _ G _ (by kernel_rfl) ?_
      exact ⟨⟨⟨⟨⟨(hJ.1.1.1.1.1), (hJ.1.1.1.1.2)⟩, ⟨(hJ.1.1.1.2.1), (hJ.1.1.1.2.2)⟩⟩, ⟨⟨(hJ.1.1.2.1.1), fun q => (hJ.1.1.2.1.2) (rl q)⟩, ⟨fun q => (hJ.1.1.2.2.1) (rl q), fun q => (hJ.1.1.2.2.2) (rl q)⟩⟩⟩, ⟨⟨⟨fun _ => rfl, fun q => (hJ.1.2.1.1.2) (rl q)⟩, ⟨fun q => (hJ.1.2.1.2.1) (rl q), fun q => (hJ.1.2.1.2.2) (rl q)⟩⟩, ⟨⟨fun q => (hJ.1.2.2.1.1) (rl q), fun q => (hJ.1.2.2.1.2) (rl q)⟩, ⟨fun q => (hJ.1.2.2.2.1) (rl q), ⟨fun q => (hJ.1.2.2.2.2.1) (rl q), fun q => (hJ.1.2.2.2.2.2) (rl q)⟩⟩⟩⟩⟩, ⟨⟨⟨⟨fun q => (hJ.2.1.1.1.1) (rl q), fun q => (hJ.2.1.1.1.2) (rl q)⟩, ⟨fun q => (hJ.2.1.1.2.1) (rl q), fun q => (hJ.2.1.1.2.2) (rl q)⟩⟩, ⟨⟨fun q => (hJ.2.1.2.1.1) (rl q), fun q => (hJ.2.1.2.1.2) (rl q)⟩, ⟨fun q => (hJ.2.1.2.2.1) (rl q), ⟨fun q => (hJ.2.1.2.2.2.1) (rl q), fun q => (hJ.2.1.2.2.2.2) (rl q)⟩⟩⟩⟩, ⟨⟨⟨fun q => (hJ.2.2.1.1.1) (rl q), fun q => (hJ.2.2.1.1.2) (rl q)⟩, ⟨fun q => (hJ.2.2.1.2.1) (rl q), fun q => (hJ.2.2.1.2.2) (rl q)⟩⟩, ⟨⟨fun q => (hJ.2.2.2.1.1) (rl q), fun q => (hJ.2.2.2.1.2) (rl q)⟩, ⟨fun q => (hJ.2.2.2.2.1) (rl q), ⟨fun q => (hJ.2.2.2.2.2.1) (rl q), fun q => (hJ.2.2.2.2.2.2) (rl q)⟩⟩⟩⟩⟩⟩
    refine StepsOk.consT (i := 4) 2 53 false rfl rfl (by kernel_rfl) (fun L x G w1 hp hJ => hJ.1.1.2.2.2 (hp ⟨2, .guard⟩ (by simp) rfl)) (fun L x G w1 K Q hn hp hJ hK => ?_) ?_
    · skip
      have p3 : L 3 := hp ⟨3, .data⟩ (by simp) rfl
      have e3 := (hJ.1.2.1.1.1) p3
      simp only [putAll, Act.put, List.setIfInBounds_toArray, List.set_cons_zero, List.set_cons_succ]
      go_simp
      refine hK _ G _ (by kernel_rfl) ?_
      exact ⟨⟨⟨⟨⟨(hJ.1.1.1.1.1), (hJ.1.1.1.1.2)⟩, ⟨(hJ.1.1.1.2.1), (hJ.1.1.1.2.2)⟩⟩, ⟨⟨(hJ.1.1.2.1.1), fun q => (hJ.1.1.2.1.2) (rl q)⟩, ⟨fun q => (hJ.1.1.2.2.1) (rl q), fun q => (hJ.1.1.2.2.2) (rl q)⟩⟩⟩, ⟨⟨⟨fun _ => by first | exact rfl | exact e3, fun _ => rfl⟩, ⟨fun q => (hJ.1.2.1.2.1) (rl q), fun q => (hJ.1.2.1.2.2) (rl q)⟩⟩, ⟨⟨fun q => (hJ.1.2.2.1.1) (rl q), fun q => (hJ.1.2.2.1.2) (rl q)⟩, ⟨fun q => (hJ.1.2.2.2.1) (rl q), ⟨fun q => (hJ.1.2.2.2.2.1) (rl q), fun q => (hJ.1.2.2.2.2.2) (rl q)⟩⟩⟩⟩⟩, ⟨⟨⟨⟨fun q => (hJ.2.1.1.1.1) (rl q), fun q => (hJ.2.1.1.1.2) (rl q)⟩, ⟨fun q => (hJ.2.1.1.2.1) (rl q), fun q => (hJ.2.1.1.2.2) (rl q)⟩⟩, ⟨⟨fun q => (hJ.2.1.2.1.1) (rl q), fun q => (hJ.2.1.2.1.2) (rl q)⟩, ⟨fun q => (hJ.2.1.2.2.1) (rl q), ⟨fun q => (hJ.2.1.2.2.2.1) (rl q), fun q => (hJ.2.1.2.2.2.2) (rl q)⟩⟩⟩⟩, ⟨⟨⟨fun q => (hJ.2.2.1.1.1) (rl q), fun q => (hJ.2.2.1.1.2) (rl q)⟩, ⟨fun q => (hJ.2.2.1.2.1) (rl q), fun q => (hJ.2.2.1.2.2) (rl q)⟩⟩, ⟨⟨fun q => (hJ.2.2.2.1.1) (rl q), fun q => (hJ.2.2.2.1.2) (rl q)⟩, ⟨fun q => (hJ.2.2.2.2.1) (rl q), ⟨fun q => (hJ.2.2.2.2.2.1) (rl q), fun q => (hJ.2.2.2.2.2.2) (rl q)⟩⟩⟩⟩⟩⟩
    refine StepsOk.cons (i := 5) rfl (fun L x G w1 K Q hn hp hJ hK => ?_) ?_
    · skip
      have p2 : L 2 := hp ⟨2, .data⟩ (by simp) rfl
      have e2 := (hJ.1.1.2.2.2) p2
      have p4 : L 4 := hp ⟨4, .data⟩ (by simp) rfl
      have e4 := (hJ.1.2.1.1.2) p4
      simp only [putAll, Act.put, List.setIfInBounds_toArray, List.set_cons_zero, List.set_cons_succ]
      go_simp
      refine hK _ G _ (by kernel_rfl) ?_
      exact ⟨⟨⟨⟨⟨(hJ.1.1.1.1.1), (hJ.1.1.1.1.2)⟩, ⟨(hJ.1.1.1.2.1), (hJ.1.1.1.2.2)⟩⟩, ⟨⟨(hJ.1.1.2.1.1), fun q => (hJ.1.1.2.1.2) (rl q)⟩, ⟨fun q => (hJ.1.1.2.2.1) (rl q), fun _ => by first | exact rfl | exact e2⟩⟩⟩, ⟨⟨⟨fun q => (hJ.1.2.1.1.1) (rl q), fun _ => by first | exact rfl | exact e4⟩, ⟨fun _ => rfl, fun q => (hJ.1.2.1.2.2) (rl q)⟩⟩, ⟨⟨fun q => (hJ.1.2.2.1.1) (rl q), fun q => (hJ.1.2.2.1.2) (rl q)⟩, ⟨fun q => (hJ.1.2.2.2.1) (rl q), ⟨fun q => (hJ.1.2.2.2.2.1) (rl q), fun q => (hJ.1.2.2.2.2.2) (rl q)⟩⟩⟩⟩⟩, ⟨⟨⟨⟨fun q => (hJ.2.1.1.1.1) (rl q), fun q => (hJ.2.1.1.1.2) (rl q)⟩, ⟨fun q => (hJ.2.1.1.2.1) (rl q), fun q => (hJ.2.1.1.2.2) (rl q)⟩⟩, ⟨⟨fun q => (hJ.2.1.2.1.1) (rl q), fun q => (hJ.2.1.2.1.2) (rl q)⟩, ⟨fun q => (hJ.2.1.2.2.1) (rl q), ⟨fun q => (hJ.2.1.2.2.2.1) (rl q), fun q => (hJ.2.1.2.2.2.2) (rl q)⟩⟩⟩⟩, ⟨⟨⟨fun q => (hJ.2.2.1.1.1) (rl q), fun q => (hJ.2.2.1.1.2) (rl q)⟩, ⟨fun q => (hJ.2.2.1.2.1) (rl q), fun q => (hJ.2.2.1.2.2) (rl q)⟩⟩, ⟨⟨fun q => (hJ.2.2.2.1.1) (rl q), fun q => (hJ.2.2.2.1.2) (rl q)⟩, ⟨fun q => (hJ.2.2.2.2.1) (rl q), ⟨fun q => (hJ.2.2.2.2.2.1) (rl q), fun q => (hJ.2.2.2.2.2.2) (rl q)⟩⟩⟩⟩⟩⟩
    refine StepsOk.cons (i := 6) rfl (fun L x G w1 K Q hn hp hJ hK => ?_) ?_
    · skip
      have p5 : L 5 := hp ⟨5, .data⟩ (by simp) rfl
      have e5 := (hJ.1.2.1.2.1) p5
      simp only [putAll, Act.put, List.setIfInBounds_toArray, List.set_cons_zero, List.set_cons_succ]
      go_simp
      refine hK _ G _ (by kernel_rfl) ?_
      exact ⟨⟨⟨⟨⟨(hJ.1.1.1.1.1), (hJ.1.1.1.1.2)⟩, ⟨(hJ.1.1.1.2.1), (hJ.1.1.1.2.2)⟩⟩, ⟨⟨(hJ.1.1.2.1.1), fun q => (hJ.1.1.2.1.2) (rl q)⟩, ⟨fun q => (hJ.1.1.2.2.1) (rl q), fun q => (hJ.1.1.2.2.2) (rl q)⟩⟩⟩, ⟨⟨⟨fun q => (hJ.1.2.1.1.1) (rl q), fun q => (hJ.1.2.1.1.2) (rl q)⟩, ⟨fun _ => by first | exact rfl | exact e5, fun _ => rfl⟩⟩, ⟨⟨fun q => (hJ.1.2.2.1.1) (rl q), fun q => (hJ.1.2.2.1.2) (rl q)⟩, ⟨fun q => (hJ.1.2.2.2.1) (rl q), ⟨fun q => (hJ.1.2.2.2.2.1) (rl q), fun q => (hJ.1.2.2.2.2.2) (rl q)⟩⟩⟩⟩⟩, ⟨⟨⟨⟨fun q => (hJ.2.1.1.1.1) (rl q), fun q => (hJ.2.1.1.1.2) (rl q)⟩, ⟨fun q => (hJ.2.1.1.2.1) (rl q), fun q => (hJ.2.1.1.2.2) (rl q)⟩⟩, ⟨⟨fun q => (hJ.2.1.2.1.1) (rl q), fun q => (hJ.2.1.2.1.2) (rl q)⟩, ⟨fun q => (hJ.2.1.2.2.1) (rl q), ⟨fun q => (hJ.2.1.2.2.2.1) (rl q), fun q => (hJ.2.1.2.2.2.2) (rl q)⟩⟩⟩⟩, ⟨⟨⟨fun q => (hJ.2.2.1.1.1) (rl q), fun q => (hJ.2.2.1.1.2) (rl q)⟩, ⟨fun q => (hJ.2.2.1.2.1) (rl q), fun q => (hJ.2.2.1.2.2) (rl q)⟩⟩, ⟨⟨fun q => (hJ.2.2.2.1.1) (rl q), fun q => (hJ.2.2.2.1.2) (rl q)⟩, ⟨fun q => (hJ.2.2.2.2.1) (rl q), ⟨fun q => (hJ.2.2.2.2.2.1) (rl q), fun q => (hJ.2.2.2.2.2.2) (rl q)⟩⟩⟩⟩⟩⟩
    refine StepsOk.consF (i := 7) 6 57 false (.bool (true)) rfl rfl (by kernel_rfl) rfl (fun L x G w1 hp hJ => hJ.1.2.1.2.2 (hp ⟨6, .guard⟩ (by simp) rfl)) (fun L x G w1 K hn hp hJ hK => ?_) ?_
    · skip
      simp only [putAll, Act.put, List.setIfInBounds_toArray, List.set_cons_zero, List.set_cons_succ]
      refine hK _ G _ (by kernel_rfl) ?_
      exact ⟨⟨⟨⟨⟨(hJ.1.1.1.1.1), (hJ.1.1.1.1.2)⟩, ⟨(hJ.1.1.1.2.1), (hJ.1.1.1.2.2)⟩⟩, ⟨⟨(hJ.1.1.2.1.1), fun q => (hJ.1.1.2.1.2) (rl q)⟩, ⟨fun q => (hJ.1.1.2.2.1) (rl q), fun q => (hJ.1.1.2.2.2) (rl q)⟩⟩⟩, ⟨⟨⟨fun q => (hJ.1.2.1.1.1) (rl q), fun q => (hJ.1.2.1.1.2) (rl q)⟩, ⟨fun q => (hJ.1.2.1.2.1) (rl q), fun q => (hJ.1.2.1.2.2) (rl q)⟩⟩, ⟨⟨fun _ => rfl, fun q => (hJ.1.2.2.1.2) (rl q)⟩, ⟨fun q => (hJ.1.2.2.2.1) (rl q), ⟨fun q => (hJ.1.2.2.2.2.1) (rl q), fun q => (hJ.1.2.2.2.2.2) (rl q)⟩⟩⟩⟩⟩, ⟨⟨⟨⟨fun q => (hJ.2.1.1.1.1) (rl q), fun q => (hJ.2.1.1.1.2) (rl q)⟩, ⟨fun q => (hJ.2.1.1.2.1) (rl q), fun q => (hJ.2.1.1.2.2) (rl q)⟩⟩, ⟨⟨fun q => (hJ.2.1.2.1.1) (rl q), fun q => (hJ.2.1.2.1.2) (rl q)⟩, ⟨fun q => (hJ.2.1.2.2.1) (rl q), ⟨fun q => (hJ.2.1.2.2.2.1) (rl q), fun q => (hJ.2.1.2.2.2.2) (rl q)⟩⟩⟩⟩, ⟨⟨⟨fun q => (hJ.2.2.1.1.1) (rl q), fun q => (hJ.2.2.1.1.2) (rl q)⟩, ⟨fun q => (hJ.2.2.1.2.1) (rl q), fun q => (hJ.2.2.1.2.2) (rl q)⟩⟩, ⟨⟨fun q => (hJ.2.2.2.1.1) (rl q), fun q => (hJ.2.2.2.1.2) (rl q)⟩, ⟨fun q => (hJ.2.2.2.2.1) (rl q), ⟨fun q => (hJ.2.2.2.2.2.1) (rl q), fun q => (hJ.2.2.2.2.2.2) (rl q)⟩⟩⟩⟩⟩⟩
    refine StepsOk.consF (i := 8) 6 57 false (.bool (true)) rfl rfl (by kernel_rfl) rfl (fun L x G w1 hp hJ => hJ.1.2.1.2.2 (hp ⟨6, .guard⟩ (by simp) rfl)) (fun L x G w1 K hn hp hJ hK => ?_) ?_
    · skip
      simp only [putAll, Act.put, List.setIfInBounds_toArray, List.set_cons_zero, List.set_cons_succ]
      refine hK _ G _ (by kernel_rfl) ?_
      exact ⟨⟨⟨⟨⟨(hJ.1.1.1.1.1), (hJ.1.1.1.1.2)⟩, ⟨(hJ.1.1.1.2.1), (hJ.1.1.1.2.2)⟩⟩, ⟨⟨(hJ.1.1.2.1.1), fun q => (hJ.1.1.2.1.2) (rl q)⟩, ⟨fun q => (hJ.1.1.2.2.1) (rl q), fun q => (hJ.1.1.2.2.2) (rl q)⟩⟩⟩, ⟨⟨⟨fun q => (hJ.1.2.1.1.1) (rl q), fun q => (hJ.1.2.1.1.2) (rl q)⟩, ⟨fun q => (hJ.1.2.1.2.1) (rl q), fun q => (hJ.1.2.1.2.2) (rl q)⟩⟩, ⟨⟨fun q => (hJ.1.2.2.1.1) (rl q), fun _ => rfl⟩, ⟨fun q => (hJ.1.2.2.2.1) (rl q), ⟨fun q => (hJ.1.2.2.2.2.1) (rl q), fun q => (hJ.1.2.2.2.2.2) (rl q)⟩⟩⟩⟩⟩, ⟨⟨⟨⟨fun q => (hJ.2.1.1.1.1) (rl q), fun q => (hJ.2.1.1.1.2) (rl q)⟩, ⟨fun q => (hJ.2.1.1.2.1) (rl q), fun q => (hJ.2.1.1.2.2) (rl q)⟩⟩, ⟨⟨fun q => (hJ.2.1.2.1.1) (rl q), fun q => (hJ.2.1.2.1.2) (rl q)⟩, ⟨fun q => (hJ.2.1.2.2.1) (rl q), ⟨fun q => (hJ.2.1.2.2.2.1) (rl q), fun q => (hJ.2.1.2.2.2.2) (rl q)⟩⟩⟩⟩, ⟨⟨⟨fun q => (hJ.2.2.1.1.1) (rl q), fun q => (hJ.2.2.1.1.2) (rl q)⟩, ⟨fun q => (hJ.2.2.1.2.1) (rl q), fun q => (hJ.2.2.1.2.2) (rl q)⟩⟩, ⟨⟨fun q => (hJ.2.2.2.1.1) (rl q), fun q => (hJ.2.2.2.1.2) (rl q)⟩, ⟨fun q => (hJ.2.2.2.2.1) (rl q), ⟨fun q => (hJ.2.2.2.2.2.1) (rl q), fun q => (hJ.2.2.2.2.2.2) (rl q)⟩⟩⟩⟩⟩⟩
    refine StepsOk.cons (i := 9) rfl (fun L x G w1 K Q hn hp hJ hK => ?_) ?_
    · skip
      have p6 : L 6 := hp ⟨6, .data⟩ (by simp) rfl
      have e6 := (hJ.1.2.1.2.2) p6
      have p8 : L 8 := hp ⟨8, .data⟩ (by simp) rfl
      have e8 := (hJ.1.2.2.1.2) p8
      simp only [putAll, Act.put, List.setIfInBounds_toArray, List.set_cons_zero, List.set_cons_succ]
      go_simp
      refine hK _ G _ (by kernel_rfl) ?_
      exact ⟨⟨⟨⟨⟨(hJ.1.1.1.1.1), (hJ.1.1.1.1.2)⟩, ⟨(hJ.1.1.1.2.1), (hJ.1.1.1.2.2)⟩⟩, ⟨⟨(hJ.1.1.2.1.1), fun q => (hJ.1.1.2.1.2) (rl q)⟩, ⟨fun q => (hJ.1.1.2.2.1) (rl q), fun q => (hJ.1.1.2.2.2) (rl q)⟩⟩⟩, ⟨⟨⟨fun q => (hJ.1.2.1.1.1) (rl q), fun q => (hJ.1.2.1.1.2) (rl q)⟩, ⟨fun q => (hJ.1.2.1.2.1) (rl q), fun _ => by first | exact rfl | exact e6⟩⟩, ⟨⟨fun q => (hJ.1.2.2.1.1) (rl q), fun _ => by first | exact rfl | exact e8⟩, ⟨fun _ => rfl, ⟨fun q => (hJ.1.2.2.2.2.1) (rl q), fun q => (hJ.1.2.2.2.2.2) (rl q)⟩⟩⟩⟩⟩, ⟨⟨⟨⟨fun q => (hJ.2.1.1.1.1) (rl q), fun q => (hJ.2.1.1.1.2) (rl q)⟩, ⟨fun q => (hJ.2.1.1.2.1) (rl q), fun q => (hJ.2.1.1.2.2) (rl q)⟩⟩, ⟨⟨fun q => (hJ.2.1.2.1.1) (rl q), fun q => (hJ.2.1.2.1.2) (rl q)⟩, ⟨fun q => (hJ.2.1.2.2.1) (rl q), ⟨fun q => (hJ.2.1.2.2.2.1) (rl q), fun q => (hJ.2.1.2.2.2.2) (rl q)⟩⟩⟩⟩, ⟨⟨⟨fun q => (hJ.2.2.1.1.1) (rl q), fun q => (hJ.2.2.1.1.2) (rl q)⟩, ⟨fun q => (hJ.2.2.1.2.1) (rl q), fun q => (hJ.2.2.1.2.2) (rl q)⟩⟩, ⟨⟨fun q => (hJ.2.2.2.1.1) (rl q), fun q => (hJ.2.2.2.1.2) (rl q)⟩, ⟨fun q => (hJ.2.2.2.2.1) (rl q), ⟨fun q => (hJ.2.2.2.2.2.1) (rl q), fun q => (hJ.2.2.2.2.2.2) (rl q)⟩⟩⟩⟩⟩⟩
    refine StepsOk.cons (i := 10) rfl (fun L x G w1 K Q hn hp hJ hK => ?_) ?_
    · skip
      have p9 : L 9 := hp ⟨9, .data⟩ (by simp) rfl
      have e9 := (hJ.1.2.2.2.1) p9
      simp only [putAll, Act.put, List.setIfInBounds_toArray, List.set_cons_zero, List.set_cons_succ]
      go_simp
      refine hK _ G _ (by kernel_rfl) ?_
      exact ⟨⟨⟨⟨⟨(hJ.1.1.1.1.1), (hJ.1.1.1.1.2)⟩, ⟨(hJ.1.1.1.2.1), (hJ.1.1.1.2.2)⟩⟩, ⟨⟨(hJ.1.1.2.1.1), fun q => (hJ.1.1.2.1.2) (rl q)⟩, ⟨fun q => (hJ.1.1.2.2.1) (rl q), fun q => (hJ.1.1.2.2.2) (rl q)⟩⟩⟩, ⟨⟨⟨fun q => (hJ.1.2.1.1.1) (rl q), fun q => (hJ.1.2.1.1.2) (rl q)⟩, ⟨fun q => (hJ.1.2.1.2.1) (rl q), fun q => (hJ.1.2.1.2.2) (rl q)⟩⟩, ⟨⟨fun q => (hJ.1.2.2.1.1) (rl q), fun q => (hJ.1.2.2.1.2) (rl q)⟩, ⟨fun _ => by first | exact rfl | exact e9, ⟨fun _ => rfl, fun q => (hJ.1.2.2.2.2.2) (rl q)⟩⟩⟩⟩⟩, ⟨⟨⟨⟨fun q => (hJ.2.1.1.1.1) (rl q), fun q => (hJ.2.1.1.1.2) (rl q)⟩, ⟨fun q => (hJ.2.1.1.2.1) (rl q), fun q => (hJ.2.1.1.2.2) (rl q)⟩⟩, ⟨⟨fun q => (hJ.2.1.2.1.1) (rl q), fun q => (hJ.2.1.2.1.2) (rl q)⟩, ⟨fun q => (hJ.2.1.2.2.1) (rl q), ⟨fun q => (hJ.2.1.2.2.2.1) (rl q), fun q => (hJ.2.1.2.2.2.2) (rl q)⟩⟩⟩⟩, ⟨⟨⟨fun q => (hJ.2.2.1.1.1) (rl q), fun q => (hJ.2.2.1.1.2) (rl q)⟩, ⟨fun q => (hJ.2.2.1.2.1) (rl q), fun q => (hJ.2.2.1.2.2) (rl q)⟩⟩, ⟨⟨fun q => (hJ.2.2.2.1.1) (rl q), fun q => (hJ.2.2.2.1.2) (rl q)⟩, ⟨fun q => (hJ.2.2.2.2.1) (rl q), ⟨fun q => (hJ.2.2.2.2.2.1) (rl q), fun q => (hJ.2.2.2.2.2.2) (rl q)⟩⟩⟩⟩⟩⟩
    refine StepsOk.consF (i := 11) 10 61 false (.bool (true)) rfl rfl (by kernel_rfl) rfl (fun L x G w1 hp hJ => hJ.1.2.2.2.2.1 (hp ⟨10, .guard⟩ (by simp) rfl)) (fun L x G w1 K hn hp hJ hK => ?_) ?_
    · skip
      simp only [putAll, Act.put, List.setIfInBounds_toArray, List.set_cons_zero, List.set_cons_succ]
      refine hK _ G _ (by kernel_rfl) ?_
      exact ⟨⟨⟨⟨⟨(hJ.1.1.1.1.1), (hJ.1.1.1.1.2)⟩, ⟨(hJ.1.1.1.2.1), (hJ.1.1.1.2.2)⟩⟩, ⟨⟨(hJ.1.1.2.1.1), fun q => (hJ.1.1.2.1.2) (rl q)⟩, ⟨fun q => (hJ.1.1.2.2.1) (rl q), fun q => (hJ.1.1.2.2.2) (rl q)⟩⟩⟩, ⟨⟨⟨fun q => (hJ.1.2.1.1.1) (rl q), fun q => (hJ.1.2.1.1.2) (rl q)⟩, ⟨fun q => (hJ.1.2.1.2.1) (rl q), fun q => (hJ.1.2.1.2.2) (rl q)⟩⟩, ⟨⟨fun q => (hJ.1.2.2.1.1) (rl q), fun q => (hJ.1.2.2.1.2) (rl q)⟩, ⟨fun q => (hJ.1.2.2.2.1) (rl q), ⟨fun q => (hJ.1.2.2.2.2.1) (rl q), fun _ => rfl⟩⟩⟩⟩⟩, ⟨⟨⟨⟨fun q => (hJ.2.1.1.1.1) (rl q), fun q => (hJ.2.1.1.1.2) (rl q)⟩, ⟨fun q => (hJ.2.1.1.2.1) (rl q), fun q => (hJ.2.1.1.2.2) (rl q)⟩⟩, ⟨⟨fun q => (hJ.2.1.2.1.1) (rl q), fun q => (hJ.2.1.2.1.2) (rl q)⟩, ⟨fun q => (hJ.2.1.2.2.1) (rl q), ⟨fun q => (hJ.2.1.2.2.2.1) (rl q), fun q => (hJ.2.1.2.2.2.2) (rl q)⟩⟩⟩⟩, ⟨⟨⟨fun q => (hJ.2.2.1.1.1) (rl q), fun q => (hJ.2.2.1.1.2) (rl q)⟩, ⟨fun q => (hJ.2.2.1.2.1) (rl q), fun q => (hJ.2.2.1.2.2) (rl q)⟩⟩, ⟨⟨fun q => (hJ.2.2.2.1.1) (rl q), fun q => (hJ.2.2.2.1.2) (rl q)⟩, ⟨fun q => (hJ.2.2.2.2.1) (rl q), ⟨fun q => (hJ.2.2.2.2.2.1) (rl q), fun q => (hJ.2.2.2.2.2.2) (rl q)⟩⟩⟩⟩⟩⟩
    refine StepsOk.consF (i := 12) 10 61 false (.bool (true)) rfl rfl (by kernel_rfl) rfl (fun L x G w1 hp hJ => hJ.1.2.2.2.2.1 (hp ⟨10, .guard⟩ (by simp) rfl)) (fun L x G w1 K hn hp hJ hK => ?_) ?_
    · skip
      simp only [putAll, Act.put, List.setIfInBounds_toArray, List.set_cons_zero, List.set_cons_succ]
      refine hK _ G _ (by kernel_rfl) ?_
      exact ⟨⟨⟨⟨⟨(hJ.1.1.1.1.1), (hJ.1.1.1.1.2)⟩, ⟨(hJ.1.1.1.2.1), (hJ.1.1.1.2.2)⟩⟩, ⟨⟨(hJ.1.1.2.1.1), fun q => (hJ.1.1.2.1.2) (rl q)⟩, ⟨fun q => (hJ.1.1.2.2.1) (rl q), fun q => (hJ.1.1.2.2.2) (rl q)⟩⟩⟩, ⟨⟨⟨fun q => (hJ.1.2.1.1.1) (rl q), fun q => (hJ.1.2.1.1.2) (rl q)⟩, ⟨fun q => (hJ.1.2.1.2.1) (rl q), fun q => (hJ.1.2.1.2.2) (rl q)⟩⟩, ⟨⟨fun q => (hJ.1.2.2.1.1) (rl q), fun q => (hJ.1.2.2.1.2) (rl q)⟩, ⟨fun q => (hJ.1.2.2.2.1) (rl q), ⟨fun q => (hJ.1.2.2.2.2.1) (rl q), fun q => (hJ.1.2.2.2.2.2) (rl q)⟩⟩⟩⟩⟩, ⟨⟨⟨⟨fun _ => rfl, fun q => (hJ.2.1.1.1.2) (rl q)⟩, ⟨fun q => (hJ.2.1.1.2.1) (rl q), fun q => (hJ.2.1.1.2.2) (rl q)⟩⟩, ⟨⟨fun q => (hJ.2.1.2.1.1) (rl q), fun q => (hJ.2.1.2.1.2) (rl q)⟩, ⟨fun q => (hJ.2.1.2.2.1) (rl q), ⟨fun q => (hJ.2.1.2.2.2.1) (rl q), fun q => (hJ.2.1.2.2.2.2) (rl q)⟩⟩⟩⟩, ⟨⟨⟨fun q => (hJ.2.2.1.1.1) (rl q), fun q => (hJ.2.2.1.1.2) (rl q)⟩, ⟨fun q => (hJ.2.2.1.2.1) (rl q), fun q => (hJ.2.2.1.2.2) (rl q)⟩⟩, ⟨⟨fun q => (hJ.2.2.2.1.1) (rl q), fun q => (hJ.2.2.2.1.2) (rl q)⟩, ⟨fun q => (hJ.2.2.2.2.1) (rl q), ⟨fun q => (hJ.2.2.2.2.2.1) (rl q), fun q => (hJ.2.2.2.2.2.2) (rl q)⟩⟩⟩⟩⟩⟩
    refine StepsOk.consF (i := 13) 10 61 false (.bool (true)) rfl rfl (by kernel_rfl) rfl (fun L x G w1 hp hJ => hJ.1.2.2.2.2.1 (hp ⟨10, .guard⟩ (by simp) rfl)) (fun L x G w1 K hn hp hJ hK => ?_) ?_
    · skip
      simp only [putAll, Act.put, List.setIfInBounds_toArray, List.set_cons_zero, List.set_cons_succ]
      refine hK _ G _ (by kernel_rfl) ?_
      exact ⟨⟨⟨⟨⟨(hJ.1.1.1.1.1), (hJ.1.1.1.1.2)⟩, ⟨(hJ.1.1.1.2.1), (hJ.1.1.1.2.2)⟩⟩, ⟨⟨(hJ.1.1.2.1.1), fun q => (hJ.1.1.2.1.2) (rl q)⟩, ⟨fun q => (hJ.1.1.2.2.1) (rl q), fun q => (hJ.1.1.2.2.2) (rl q)⟩⟩⟩, ⟨⟨⟨fun q => (hJ.1.2.1.1.1) (rl q), fun q => (hJ.1.2.1.1.2) (rl q)⟩, ⟨fun q => (hJ.1.2.1.2.1) (rl q), fun q => (hJ.1.2.1.2.2) (rl q)⟩⟩, ⟨⟨fun q => (hJ.1.2.2.1.1) (rl q), fun q => (hJ.1.2.2.1.2) (rl q)⟩, ⟨fun q => (hJ.1.2.2.2.1) (rl q), ⟨fun q => (hJ.1.2.2.2.2.1) (rl q), fun q => (hJ.1.2.2.2.2.2) (rl q)⟩⟩⟩⟩⟩, ⟨⟨⟨⟨fun q => (hJ.2.1.1.1.1) (rl q), fun _ => rfl⟩, ⟨fun q => (hJ.2.1.1.2.1) (rl q), fun q => (hJ.2.1.1.2.2) (rl q)⟩⟩, ⟨⟨fun q => (hJ.2.1.2.1.1) (rl q), fun q => (hJ.2.1.2.1.2) (rl q)⟩, ⟨fun q => (hJ.2.1.2.2.1) (rl q), ⟨fun q => (hJ.2.1.2.2.2.1) (rl q), fun q => (hJ.2.1.2.2.2.2) (rl q)⟩⟩⟩⟩, ⟨⟨⟨fun q => (hJ.2.2.1.1.1) (rl q), fun q => (hJ.2.2.1.1.2) (rl q)⟩, ⟨fun q => (hJ.2.2.1.2.1) (rl q), fun q => (hJ.2.2.1.2.2) (rl q)⟩⟩, ⟨⟨fun q => (hJ.2.2.2.1.1) (rl q), fun q => (hJ.2.2.2.1.2) (rl q)⟩, ⟨fun q => (hJ.2.2.2.2.1) (rl q), ⟨fun q => (hJ.2.2.2.2.2.1) (rl q), fun q => (hJ.2.2.2.2.2.2) (rl q)⟩⟩⟩⟩⟩⟩
    refine StepsOk.consF (i := 14) 10 61 false (.bool (true)) rfl rfl (by kernel_rfl) rfl (fun L x G w1 hp hJ => hJ.1.2.2.2.2.1 (hp ⟨10, .guard⟩ (by simp) rfl)) (fun L x G w1 K hn hp hJ hK => ?_) ?_
    · skip
      simp only [putAll, Act.put, List.setIfInBounds_toArray, List.set_cons_zero, List.set_cons_succ]
      refine hK _ G _ (by kernel_rfl) ?_
      exact ⟨⟨⟨⟨⟨(hJ.1.1.1.1.1), (hJ.1.1.1.1.2)⟩, ⟨(hJ.1.1.1.2.1), (hJ.1.1.1.2.2)⟩⟩, ⟨⟨(hJ.1.1.2.1.1), fun q => (hJ.1.1.2.1.2) (rl q)⟩, ⟨fun q => (hJ.1.1.2.2.1) (rl q), fun q => (hJ.1.1.2.2.2) (rl q)⟩⟩⟩, ⟨⟨⟨fun q => (hJ.1.2.1.1.1) (rl q), fun q => (hJ.1.2.1.1.2) (rl q)⟩, ⟨fun q => (hJ.1.2.1.2.1) (rl q), fun q => (hJ.1.2.1.2.2) (rl q)⟩⟩, ⟨⟨fun q => (hJ.1.2.2.1.1) (rl q), fun q => (hJ.1.2.2.1.2) (rl q)⟩, ⟨fun q => (hJ.1.2.2.2.1) (rl q), ⟨fun q => (hJ.1.2.2.2.2.1) (rl q), fun q => (hJ.1.2.2.2.2.2) (rl q)⟩⟩⟩⟩⟩, ⟨⟨⟨⟨fun q => (hJ.2.1.1.1.1) (rl q), fun q => (hJ.2.1.1.1.2) (rl q)⟩, ⟨fun _ => rfl, fun q => (hJ.2.1.1.2.2) (rl q)⟩⟩, ⟨⟨fun q => (hJ.2.1.2.1.1) (rl q), fun q => (hJ.2.1.2.1.2) (rl q)⟩, ⟨fun q => (hJ.2.1.2.2.1) (rl q), ⟨fun q => (hJ.2.1.2.2.2.1) (rl q), fun q => (hJ.2.1.2.2.2.2) (rl q)⟩⟩⟩⟩, ⟨⟨⟨fun q => (hJ.2.2.1.1.1) (rl q), fun q => (hJ.2.2.1.1.2) (rl q)⟩, ⟨fun q => (hJ.2.2.1.2.1) (rl q), fun q => (hJ.2.2.1.2.2) (rl q)⟩⟩, ⟨⟨fun q => (hJ.2.2.2.1.1) (rl q), fun q => (hJ.2.2.2.1.2) (rl q)⟩, ⟨fun q => (hJ.2.2.2.2.1) (rl q), ⟨fun q => (hJ.2.2.2.2.2.1) (rl q), fun q => (hJ.2.2.2.2.2.2) (rl q)⟩⟩⟩⟩⟩⟩
    refine StepsOk.consF (i := 15) 10 61 false (.bool (true)) rfl rfl (by kernel_rfl) rfl (fun L x G w1 hp hJ => hJ.1.2.2.2.2.1 (hp ⟨10, .guard⟩ (by simp) rfl)) (fun L x G w1 K hn hp hJ hK => ?_) ?_
    · skip
      simp only [putAll, Act.put, List.setIfInBounds_toArray, List.set_cons_zero, List.set_cons_succ]
      refine hK _ G _ (by kernel_rfl) ?_
      exact ⟨⟨⟨⟨⟨(hJ.1.1.1.1.1), (hJ.1.1.1.1.2)⟩, ⟨(hJ.1.1.1.2.1), (hJ.1.1.1.2.2)⟩⟩, ⟨⟨(hJ.1.1.2.1.1), fun q => (hJ.1.1.2.1.2) (rl q)⟩, ⟨fun q => (hJ.1.1.2.2.1) (rl q), fun q => (hJ.1.1.2.2.2) (rl q)⟩⟩⟩, ⟨⟨⟨fun q => (hJ.1.2.1.1.1) (rl q), fun q => (hJ.1.2.1.1.2) (rl q)⟩, ⟨fun q => (hJ.1.2.1.2.1) (rl q), fun q => (hJ.1.2.1.2.2) (rl q)⟩⟩, ⟨⟨fun q => (hJ.1.2.2.1.1) (rl q), fun q => (hJ.1.2.2.1.2) (rl q)⟩, ⟨fun q => (hJ.1.2.2.2.1) (rl q), ⟨fun q => (hJ.1.2.2.2.2.1) (rl q), fun q => (hJ.1.2.2.2.2.2) (rl q)⟩⟩⟩⟩⟩, ⟨⟨⟨⟨fun q => (hJ.2.1.1.1.1) (rl q), fun q => (hJ.2.1.1.1.2) (rl q)⟩, ⟨fun q => (hJ.2.1.1.2.1) (rl q), fun _ => rfl⟩⟩, ⟨⟨fun q => (hJ.2.1.2.1.1) (rl q), fun q => (hJ.2.1.2.1.2) (rl q)⟩, ⟨fun q => (hJ.2.1.2.2.1) (rl q), ⟨fun q => (hJ.2.1.2.2.2.1) (rl q), fun q => (hJ.2.1.2.2.2.2) (rl q)⟩⟩⟩⟩, ⟨⟨⟨fun q => (hJ.2.2.1.1.1) (rl q), fun q => (hJ.2.2.1.1.2) (rl q)⟩, ⟨fun q => (hJ.2.2.1.2.1) (rl q), fun q => (hJ.2.2.1.2.2) (rl q)⟩⟩, ⟨⟨fun q => (hJ.2.2.2.1.1) (rl q), fun q => (hJ.2.2.2.1.2) (rl q)⟩, ⟨fun q => (hJ.2.2.2.2.1) (rl q), ⟨fun q => (hJ.2.2.2.2.2.1) (rl q), fun q => (hJ.2.2.2.2.2.2) (rl q)⟩⟩⟩⟩⟩⟩
    refine StepsOk.consF (i := 16) 10 61 false (.bool (true)) rfl rfl (by kernel_rfl) rfl (fun L x G w1 hp hJ => hJ.1.2.2.2.2.1 (hp ⟨10, .guard⟩ (by simp) rfl)) (fun L x G w1 K hn hp hJ hK => ?_) ?_
    · skip
      simp only [putAll, Act.put, List.setIfInBounds_toArray, List.set_cons_zero, List.set_cons_succ]
      refine hK _ G _ (by kernel_rfl) ?_
      exact ⟨⟨⟨⟨⟨(hJ.1.1.1.1.1), (hJ.1.1.1.1.2)⟩, ⟨(hJ.1.1.1.2.1), (hJ.1.1.1.2.2)⟩⟩, ⟨⟨(hJ.1.1.2.1.1), fun q => (hJ.1.1.2.1.2) (rl q)⟩, ⟨fun q => (hJ.1.1.2.2.1) (rl q), fun q => (hJ.1.1.2.2.2) (rl q)⟩⟩⟩, ⟨⟨⟨fun q => (hJ.1.2.1.1.1) (rl q), fun q => (hJ.1.2.1.1.2) (rl q)⟩, ⟨fun q => (hJ.1.2.1.2.1) (rl q), fun q => (hJ.1.2.1.2.2) (rl q)⟩⟩, ⟨⟨fun q => (hJ.1.2.2.1.1) (rl q), fun q => (hJ.1.2.2.1.2) (rl q)⟩, ⟨fun q => (hJ.1.2.2.2.1) (rl q), ⟨fun q => (hJ.1.2.2.2.2.1) (rl q), fun q => (hJ.1.2.2.2.2.2) (rl q)⟩⟩⟩⟩⟩, ⟨⟨⟨⟨fun q => (hJ.2.1.1.1.1) (rl q), fun q => (hJ.2.1.1.1.2) (rl q)⟩, ⟨fun q => (hJ.2.1.1.2.1) (rl q), fun q => (hJ.2.1.1.2.2) (rl q)⟩⟩, ⟨⟨fun _ => rfl, fun q => (hJ.2.1.2.1.2) (rl q)⟩, ⟨fun q => (hJ.2.1.2.2.1) (rl q), ⟨fun q => (hJ.2.1.2.2.2.1) (rl q), fun q => (hJ.2.1.2.2.2.2) (rl q)⟩⟩⟩⟩, ⟨⟨⟨fun q => (hJ.2.2.1.1.1) (rl q), fun q => (hJ.2.2.1.1.2) (rl q)⟩, ⟨fun q => (hJ.2.2.1.2.1) (rl q), fun q => (hJ.2.2.1.2.2) (rl q)⟩⟩, ⟨⟨fun q => (hJ.2.2.2.1.1) (rl q), fun q => (hJ.2.2.2.1.2) (rl q)⟩, ⟨fun q => (hJ.2.2.2.2.1) (rl q), ⟨fun q => (hJ.2.2.2.2.2.1) (rl q), fun q => (hJ.2.2.2.2.2.2) (rl q)⟩⟩⟩⟩⟩⟩
    refine StepsOk.consF (i := 17) 10 61 false (.bool (true)) rfl rfl (by kernel_rfl) rfl (fun L x G w1 hp hJ => hJ.1.2.2.2.2.1 (hp ⟨10, .guard⟩ (by simp) rfl)) (fun L x G w1 K hn hp hJ hK => ?_) ?_
    · skip
      simp only [putAll, Act.put, List.setIfInBounds_toArray, List.set_cons_zero, List.set_cons_succ]
      refine hK _ G _ (by kernel_rfl) ?_
      exact ⟨⟨⟨⟨⟨(hJ.1.1.1.1.1), (hJ.1.1.1.1.2)⟩, ⟨(hJ.1.1.1.2.1), (hJ.1.1.1.2.2)⟩⟩, ⟨⟨(hJ.1.1.2.1.1), fun q => (hJ.1.1.2.1.2) (rl q)⟩, ⟨fun q => (hJ.1.1.2.2.1) (rl q), fun q => (hJ.1.1.2.2.2) (rl q)⟩⟩⟩, ⟨⟨⟨fun q => (hJ.1.2.1.1.1) (rl q), fun q => (hJ.1.2.1.1.2) (rl q)⟩, ⟨fun q => (hJ.1.2.1.2.1) (rl q), fun q => (hJ.1.2.1.2.2) (rl q)⟩⟩, ⟨⟨fun q => (hJ.1.2.2.1.1) (rl q), fun q => (hJ.1.2.2.1.2) (rl q)⟩, ⟨fun q => (hJ.1.2.2.2.1) (rl q), ⟨fun q => (hJ.1.2.2.2.2.1) (rl q), fun q => (hJ.1.2.2.2.2.2) (rl q)⟩⟩⟩⟩⟩, ⟨⟨⟨⟨fun q => (hJ.2.1.1.1.1) (rl q), fun q => (hJ.2.1.1.1.2) (rl q)⟩, ⟨fun q => (hJ.2.1.1.2.1) (rl q), fun q => (hJ.2.1.1.2.2) (rl q)⟩⟩, ⟨⟨fun q => (hJ.2.1.2.1.1) (rl q), fun _ => rfl⟩, ⟨fun q => (hJ.2.1.2.2.1) (rl q), ⟨fun q => (hJ.2.1.2.2.2.1) (rl q), fun q => (hJ.2.1.2.2.2.2) (rl q)⟩⟩⟩⟩, ⟨⟨⟨fun q => (hJ.2.2.1.1.1) (rl q), fun q => (hJ.2.2.1.1.2) (rl q)⟩, ⟨fun q => (hJ.2.2.1.2.1) (rl q), fun q => (hJ.2.2.1.2.2) (rl q)⟩⟩, ⟨⟨fun q => (hJ.2.2.2.1.1) (rl q), fun q => (hJ.2.2.2.1.2) (rl q)⟩, ⟨fun q => (hJ.2.2.2.2.1) (rl q), ⟨fun q => (hJ.2.2.2.2.2.1) (rl q), fun q => (hJ.2.2.2.2.2.2) (rl q)⟩⟩⟩⟩⟩⟩
    refine StepsOk.consF (i := 18) 10 61 false (.bool (true)) rfl rfl (by kernel_rfl) rfl (fun L x G w1 hp hJ => hJ.1.2.2.2.2.1 (hp ⟨10, .guard⟩ (by simp) rfl)) (fun L x G w1 K hn hp hJ hK => ?_) ?_
    · skip
      simp only [putAll, Act.put, List.setIfInBounds_toArray, List.set_cons_zero, List.set_cons_succ]
      refine hK _ G _ (by kernel_rfl) ?_
      exact ⟨⟨⟨⟨⟨(hJ.1.1.1.1.1), (hJ.1.1.1.1.2)⟩, ⟨(hJ.1.1.1.2.1), (hJ.1.1.1.2.2)⟩⟩, ⟨⟨(hJ.1.1.2.1.1), fun q => (hJ.1.1.2.1.2) (rl q)⟩, ⟨fun q => (hJ.1.1.2.2.1) (rl q), fun q => (hJ.1.1.2.2.2) (rl q)⟩⟩⟩, ⟨⟨⟨fun q => (hJ.1.2.1.1.1) (rl q), fun q => (hJ.1.2.1.1.2) (rl q)⟩, ⟨fun q => (hJ.1.2.1.2.1) (rl q), fun q => (hJ.1.2.1.2.2) (rl q)⟩⟩, ⟨⟨fun q => (hJ.1.2.2.1.1) (rl q), fun q => (hJ.1.2.2.1.2) (rl q)⟩, ⟨fun q => (hJ.1.2.2.2.1) (rl q), ⟨fun q => (hJ.1.2.2.2.2.1) (rl q), fun q => (hJ.1.2.2.2.2.2) (rl q)⟩⟩⟩⟩⟩, ⟨⟨⟨⟨fun q => (hJ.2.1.1.1.1) (rl q), fun q => (hJ.2.1.1.1.2) (rl q)⟩, ⟨fun q => (hJ.2.1.1.2.1) (rl q), fun q => (hJ.2.1.1.2.2) (rl q)⟩⟩, ⟨⟨fun q => (hJ.2.1.2.1.1) (rl q), fun q => (hJ.2.1.2.1.2) (rl q)⟩, ⟨fun _ => rfl, ⟨fun q => (hJ.2.1.2.2.2.1) (rl q), fun q => (hJ.2.1.2.2.2.2) (rl q)⟩⟩⟩⟩, ⟨⟨⟨fun q => (hJ.2.2.1.1.1) (rl q), fun q => (hJ.2.2.1.1.2) (rl q)⟩, ⟨fun q => (hJ.2.2.1.2.1) (rl q), fun q => (hJ.2.2.1.2.2) (rl q)⟩⟩, ⟨⟨fun q => (hJ.2.2.2.1.1) (rl q), fun q => (hJ.2.2.2.1.2) (rl q)⟩, ⟨fun q => (hJ.2.2.2.2.1) (rl q), ⟨fun q => (hJ.2.2.2.2.2.1) (rl q), fun q => (hJ.2.2.2.2.2.2) (rl q)⟩⟩⟩⟩⟩⟩
    refine StepsOk.cons (i := 19) rfl (fun L x G w1 K Q hn hp hJ hK => ?_) ?_
    · skip
      have p10 : L 10 := hp ⟨10, .data⟩ (by simp) rfl
      have e10 := (hJ.1.2.2.2.2.1) p10
      have p18 : L 18 := hp ⟨18, .data⟩ (by simp) rfl
      have e18 := (hJ.2.1.2.2.1) p18
      simp only [putAll, Act.put, List.setIfInBounds_toArray, List.set_cons_zero, List.set_cons_succ]
      go_simp
      refine hK _ G _ (by kernel_rfl) ?_
      exact ⟨⟨⟨⟨⟨(hJ.1.1.1.1.1), (hJ.1.1.1.1.2)⟩, ⟨(hJ.1.1.1.2.1), (hJ.1.1.1.2.2)⟩⟩, ⟨⟨(hJ.1.1.2.1.1), fun q => (hJ.1.1.2.1.2) (rl q)⟩, ⟨fun q => (hJ.1.1.2.2.1) (rl q), fun q => (hJ.1.1.2.2.2) (rl q)⟩⟩⟩, ⟨⟨⟨fun q => (hJ.1.2.1.1.1) (rl q), fun q => (hJ.1.2.1.1.2) (rl q)⟩, ⟨fun q => (hJ.1.2.1.2.1) (rl q), fun q => (hJ.1.2.1.2.2) (rl q)⟩⟩, ⟨⟨fun q => (hJ.1.2.2.1.1) (rl q), fun q => (hJ.1.2.2.1.2) (rl q)⟩, ⟨fun q => (hJ.1.2.2.2.1) (rl q), ⟨fun _ => by first | exact rfl | exact e10, fun q => (hJ.1.2.2.2.2.2) (rl q)⟩⟩⟩⟩⟩, ⟨⟨⟨⟨fun q => (hJ.2.1.1.1.1) (rl q), fun q => (hJ.2.1.1.1.2) (rl q)⟩, ⟨fun q => (hJ.2.1.1.2.1) (rl q), fun q => (hJ.2.1.1.2.2) (rl q)⟩⟩, ⟨⟨fun q => (hJ.2.1.2.1.1) (rl q), fun q => (hJ.2.1.2.1.2) (rl q)⟩, ⟨fun _ => by first | exact rfl | exact e18, ⟨fun _ => rfl, fun q => (hJ.2.1.2.2.2.2) (rl q)⟩⟩⟩⟩, ⟨⟨⟨fun q => (hJ.2.2.1.1.1) (rl q), fun q => (hJ.2.2.1.1.2) (rl q)⟩, ⟨fun q => (hJ.2.2.1.2.1) (rl q), fun q => (hJ.2.2.1.2.2) (rl q)⟩⟩, ⟨⟨fun q => (hJ.2.2.2.1.1) (rl q), fun q => (hJ.2.2.2.1.2) (rl q)⟩, ⟨fun q => (hJ.2.2.2.2.1) (rl q), ⟨fun q => (hJ.2.2.2.2.2.1) (rl q), fun q => (hJ.2.2.2.2.2.2) (rl q)⟩⟩⟩⟩⟩⟩
    refine StepsOk.cons (i := 20) rfl (fun L x G w1 K Q hn hp hJ hK => ?_) ?_
    · skip
      have p19 : L 19 := hp ⟨19, .data⟩ (by simp) rfl
      have e19 := (hJ.2.1.2.2.2.1) p19
      simp only [putAll, Act.put, List.setIfInBounds_toArray, List.set_cons_zero, List.set_cons_succ]
      go_simp
      refine hK _ G _ (by kernel_rfl) ?_
      exact ⟨⟨⟨⟨⟨(hJ.1.1.1.1.1), (hJ.1.1.1.1.2)⟩, ⟨(hJ.1.1.1.2.1), (hJ.1.1.1.2.2)⟩⟩, ⟨⟨(hJ.1.1.2.1.1), fun q => (hJ.1.1.2.1.2) (rl q)⟩, ⟨fun q => (hJ.1.1.2.2.1) (rl q), fun q => (hJ.1.1.2.2.2) (rl q)⟩⟩⟩, ⟨⟨⟨fun q => (hJ.1.2.1.1.1) (rl q), fun q => (hJ.1.2.1.1.2) (rl q)⟩, ⟨fun q => (hJ.1.2.1.2.1) (rl q), fun q => (hJ.1.2.1.2.2) (rl q)⟩⟩, ⟨⟨fun q => (hJ.1.2.2.1.1) (rl q), fun q => (hJ.1.2.2.1.2) (rl q)⟩, ⟨fun q => (hJ.1.2.2.2.1) (rl q), ⟨fun q => (hJ.1.2.2.2.2.1) (rl q), fun q => (hJ.1.2.2.2.2.2) (rl q)⟩⟩⟩⟩⟩, ⟨⟨⟨⟨fun q => (hJ.2.1.1.1.1) (rl q), fun q => (hJ.2.1.1.1.2) (rl q)⟩, ⟨fun q => (hJ.2.1.1.2.1) (rl q), fun q => (hJ.2.1.1.2.2) (rl q)⟩⟩, ⟨⟨fun q => (hJ.2.1.2.1.1) (rl q), fun q => (hJ.2.1.2.1.2) (rl q)⟩, ⟨fun q => (hJ.2.1.2.2.1) (rl q), ⟨fun _ => by first | exact rfl | exact e19, fun _ => rfl⟩⟩⟩⟩, ⟨⟨⟨fun q => (hJ.2.2.1.1.1) (rl q), fun q => (hJ.2.2.1.1.2) (rl q)⟩, ⟨fun q => (hJ.2.2.1.2.1) (rl q), fun q => (hJ.2.2.1.2.2) (rl q)⟩⟩, ⟨⟨fun q => (hJ.2.2.2.1.1) (rl q), fun q => (hJ.2.2.2.1.2) (rl q)⟩, ⟨fun q => (hJ.2.2.2.2.1) (rl q), ⟨fun q => (hJ.2.2.2.2.2.1) (rl q), fun q => (hJ.2.2.2.2.2.2) (rl q)⟩⟩⟩⟩⟩⟩
    refine StepsOk.consF (i := 21) 20 71 false (.bool (true)) rfl rfl (by kernel_rfl) rfl (fun L x G w1 hp hJ => hJ.2.1.2.2.2.2 (hp ⟨20, .guard⟩ (by simp) rfl)) (fun L x G w1 K hn hp hJ hK => ?_) ?_
    · skip
      simp only [putAll, Act.put, List.setIfInBounds_toArray, List.set_cons_zero, List.set_cons_succ]
      refine hK _ G _ (by kernel_rfl) ?_
      exact ⟨⟨⟨⟨⟨(hJ.1.1.1.1.1), (hJ.1.1.1.1.2)⟩, ⟨(hJ.1.1.1.2.1), (hJ.1.1.1.2.2)⟩⟩, ⟨⟨(hJ.1.1.2.1.1), fun q => (hJ.1.1.2.1.2) (rl q)⟩, ⟨fun q => (hJ.1.1.2.2.1) (rl q), fun q => (hJ.1.1.2.2.2) (rl q)⟩⟩⟩, ⟨⟨⟨fun q => (hJ.1.2.1.1.1) (rl q), fun q => (hJ.1.2.1.1.2) (rl q)⟩, ⟨fun q => (hJ.1.2.1.2.1) (rl q), fun q => (hJ.1.2.1.2.2) (rl q)⟩⟩, ⟨⟨fun q => (hJ.1.2.2.1.1) (rl q), fun q => (hJ.1.2.2.1.2) (rl q)⟩, ⟨fun q => (hJ.1.2.2.2.1) (rl q), ⟨fun q => (hJ.1.2.2.2.2.1) (rl q), fun q => (hJ.1.2.2.2.2.2) (rl q)⟩⟩⟩⟩⟩, ⟨⟨⟨⟨fun q => (hJ.2.1.1.1.1) (rl q), fun q => (hJ.2.1.1.1.2) (rl q)⟩, ⟨fun q => (hJ.2.1.1.2.1) (rl q), fun q => (hJ.2.1.1.2.2) (rl q)⟩⟩, ⟨⟨fun q => (hJ.2.1.2.1.1) (rl q), fun q => (hJ.2.1.2.1.2) (rl q)⟩, ⟨fun q => (hJ.2.1.2.2.1) (rl q), ⟨fun q => (hJ.2.1.2.2.2.1) (rl q), fun q => (hJ.2.1.2.2.2.2) (rl q)⟩⟩⟩⟩, ⟨⟨⟨fun _ => rfl, fun q => (hJ.2.2.1.1.2) (rl q)⟩, ⟨fun q => (hJ.2.2.1.2.1) (rl q), fun q => (hJ.2.2.1.2.2) (rl q)⟩⟩, ⟨⟨fun q => (hJ.2.2.2.1.1) (rl q), fun q => (hJ.2.2.2.1.2) (rl q)⟩, ⟨fun q => (hJ.2.2.2.2.1) (rl q), ⟨fun q => (hJ.2.2.2.2.2.1) (rl q), fun q => (hJ.2.2.2.2.2.2) (rl q)⟩⟩⟩⟩⟩⟩
    refine StepsOk.consF (i := 22) 20 71 false (.bool (true)) rfl rfl (by kernel_rfl) rfl (fun L x G w1 hp hJ => hJ.2.1.2.2.2.2 (hp ⟨20, .guard⟩ (by simp) rfl)) (fun L x G w1 K hn hp hJ hK => ?_) ?_
    · skip
      simp only [putAll, Act.put, List.setIfInBounds_toArray, List.set_cons_zero, List.set_cons_succ]
      refine hK _ G _ (by kernel_rfl) ?_
      exact ⟨⟨⟨⟨⟨(hJ.1.1.1.1.1), (hJ.1.1.1.1.2)⟩, ⟨(hJ.1.1.1.2.1), (hJ.1.1.1.2.2)⟩⟩, ⟨⟨(hJ.1.1.2.1.1), fun q => (hJ.1.1.2.1.2) (rl q)⟩, ⟨fun q => (hJ.1.1.2.2.1) (rl q), fun q => (hJ.1.1.2.2.2) (rl q)⟩⟩⟩, ⟨⟨⟨fun q => (hJ.1.2.1.1.1) (rl q), fun q => (hJ.1.2.1.1.2) (rl q)⟩, ⟨fun q => (hJ.1.2.1.2.1) (rl q), fun q => (hJ.1.2.1.2.2) (rl q)⟩⟩, ⟨⟨fun q => (hJ.1.2.2.1.1) (rl q), fun q => (hJ.1.2.2.1.2) (rl q)⟩, ⟨fun q => (hJ.1.2.2.2.1) (rl q), ⟨fun q => (hJ.1.2.2.2.2.1) (rl q), fun q => (hJ.1.2.2.2.2.2) (rl q)⟩⟩⟩⟩⟩, ⟨⟨⟨⟨fun q => (hJ.2.1.1.1.1) (rl q), fun q => (hJ.2.1.1.1.2) (rl q)⟩, ⟨fun q => (hJ.2.1.1.2.1) (rl q), fun q => (hJ.2.1.1.2.2) (rl q)⟩⟩, ⟨⟨fun q => (hJ.2.1.2.1.1) (rl q), fun q => (hJ.2.1.2.1.2) (rl q)⟩, ⟨fun q => (hJ.2.1.2.2.1) (rl q), ⟨fun q => (hJ.2.1.2.2.2.1) (rl q), fun q => (hJ.2.1.2.2.2.2) (rl q)⟩⟩⟩⟩, ⟨⟨⟨fun q => (hJ.2.2.1.1.1) (rl q), fun _ => rfl⟩, ⟨fun q => (hJ.2.2.1.2.1) (rl q), fun q => (hJ.2.2.1.2.2) (rl q)⟩⟩, ⟨⟨fun q => (hJ.2.2.2.1.1) (rl q), fun q => (hJ.2.2.2.1.2) (rl q)⟩, ⟨fun q => (hJ.2.2.2.2.1) (rl q), ⟨fun q => (hJ.2.2.2.2.2.1) (rl q), fun q => (hJ.2.2.2.2.2.2) (rl q)⟩⟩⟩⟩⟩⟩
    refine StepsOk.consF (i := 23) 20 71 false (.bool (true)) rfl rfl (by kernel_rfl) rfl (fun L x G w1 hp hJ => hJ.2.1.2.2.2.2 (hp ⟨20, .guard⟩ (by simp) rfl)) (fun L x G w1 K hn hp hJ hK => ?_) ?_
    · skip
      simp only [putAll, Act.put, List.setIfInBounds_toArray, List.set_cons_zero, List.set_cons_succ]
      refine hK _ G _ (by kernel_rfl) ?_
      exact ⟨⟨⟨⟨⟨(hJ.1.1.1.1.1), (hJ.1.1.1.1.2)⟩, ⟨(hJ.1.1.1.2.1), (hJ.1.1.1.2.2)⟩⟩, ⟨⟨(hJ.1.1.2.1.1), fun q => (hJ.1.1.2.1.2) (rl q)⟩, ⟨fun q => (hJ.1.1.2.2.1) (rl q), fun q => (hJ.1.1.2.2.2) (rl q)⟩⟩⟩, ⟨⟨⟨fun q => (hJ.1.2.1.1.1) (rl q), fun q => (hJ.1.2.1.1.2) (rl q)⟩, ⟨fun q => (hJ.1.2.1.2.1) (rl q), fun q => (hJ.1.2.1.2.2) (rl q)⟩⟩, ⟨⟨fun q => (hJ.1.2.2.1.1) (rl q), fun q => (hJ.1.2.2.1.2) (rl q)⟩, ⟨fun q => (hJ.1.2.2.2.1) (rl q), ⟨fun q => (hJ.1.2.2.2.2.1) (rl q), fun q => (hJ.1.2.2.2.2.2) (rl q)⟩⟩⟩⟩⟩, ⟨⟨⟨⟨fun q => (hJ.2.1.1.1.1) (rl q), fun q => (hJ.2.1.1.1.2) (rl q)⟩, ⟨fun q => (hJ.2.1.1.2.1) (rl q), fun q => (hJ.2.1.1.2.2) (rl q)⟩⟩, ⟨⟨fun q => (hJ.2.1.2.1.1) (rl q), fun q => (hJ.2.1.2.1.2) (rl q)⟩, ⟨fun q => (hJ.2.1.2.2.1) (rl q), ⟨fun q => (hJ.2.1.2.2.2.1) (rl q), fun q => (hJ.2.1.2.2.2.2) (rl q)⟩⟩⟩⟩, ⟨⟨⟨fun q => (hJ.2.2.1.1.1) (rl q), fun q => (hJ.2.2.1.1.2) (rl q)⟩, ⟨fun _ => rfl, fun q => (hJ.2.2.1.2.2) (rl q)⟩⟩, ⟨⟨fun q => (hJ.2.2.2.1.1) (rl q), fun q => (hJ.2.2.2.1.2) (rl q)⟩, ⟨fun q => (hJ.2.2.2.2.1) (rl q), ⟨fun q => (hJ.2.2.2.2.2.1) (rl q), fun q => (hJ.2.2.2.2.2.2) (rl q)⟩⟩⟩⟩⟩⟩
    refine StepsOk.cons (i := 24) rfl (fun L x G w1 K Q hn hp hJ hK => ?_) ?_
    · skip
      have p20 : L 20 := hp ⟨20, .data⟩ (by simp) rfl
      have e20 := (hJ.2.1.2.2.2.2) p20
      have p23 : L 23 := hp ⟨23, .data⟩ (by simp) rfl
      have e23 := (hJ.2.2.1.2.1) p23
      simp only [putAll, Act.put, List.setIfInBounds_toArray, List.set_cons_zero, List.set_cons_succ]
      go_simp
      refine hK _ G _ (by kernel_rfl) ?_
      exact ⟨⟨⟨⟨⟨(hJ.1.1.1.1.1), (hJ.1.1.1.1.2)⟩, ⟨(hJ.1.1.1.2.1), (hJ.1.1.1.2.2)⟩⟩, ⟨⟨(hJ.1.1.2.1.1), fun q => (hJ.1.1.2.1.2) (rl q)⟩, ⟨fun q => (hJ.1.1.2.2.1) (rl q), fun q => (hJ.1.1.2.2.2) (rl q)⟩⟩⟩, ⟨⟨⟨fun q => (hJ.1.2.1.1.1) (rl q), fun q => (hJ.1.2.1.1.2) (rl q)⟩, ⟨fun q => (hJ.1.2.1.2.1) (rl q), fun q => (hJ.1.2.1.2.2) (rl q)⟩⟩, ⟨⟨fun q => (hJ.1.2.2.1.1) (rl q), fun q => (hJ.1.2.2.1.2) (rl q)⟩, ⟨fun q => (hJ.1.2.2.2.1) (rl q), ⟨fun q => (hJ.1.2.2.2.2.1) (rl q), fun q => (hJ.1.2.2.2.2.2) (rl q)⟩⟩⟩⟩⟩, ⟨⟨⟨⟨fun q => (hJ.2.1.1.1.1) (rl q), fun q => (hJ.2.1.1.1.2) (rl q)⟩, ⟨fun q => (hJ.2.1.1.2.1) (rl q), fun q => (hJ.2.1.1.2.2) (rl q)⟩⟩, ⟨⟨fun q => (hJ.2.1.2.1.1) (rl q), fun q => (hJ.2.1.2.1.2) (rl q)⟩, ⟨fun q => (hJ.2.1.2.2.1) (rl q), ⟨fun q => (hJ.2.1.2.2.2.1) (rl q), fun _ => by first | exact rfl | exact e20⟩⟩⟩⟩, ⟨⟨⟨fun q => (hJ.2.2.1.1.1) (rl q), fun q => (hJ.2.2.1.1.2) (rl q)⟩, ⟨fun _ => by first | exact rfl | exact e23, fun _ => rfl⟩⟩, ⟨⟨fun q => (hJ.2.2.2.1.1) (rl q), fun q => (hJ.2.2.2.1.2) (rl q)⟩, ⟨fun q => (hJ.2.2.2.2.1) (rl q), ⟨fun q => (hJ.2.2.2.2.2.1) (rl q), fun q => (hJ.2.2.2.2.2.2) (rl q)⟩⟩⟩⟩⟩⟩
    refine StepsOk.cons (i := 25) rfl (fun L x G w1 K Q hn hp hJ hK => ?_) ?_
    · skip
      have p24 : L 24 := hp ⟨24, .data⟩ (by simp) rfl
      have e24 := (hJ.2.2.1.2.2) p24
      simp only [putAll, Act.put, List.setIfInBounds_toArray, List.set_cons_zero, List.set_cons_succ]
      go_simp
      refine hK _ G _ (by kernel_rfl) ?_
      exact ⟨⟨⟨⟨⟨(hJ.1.1.1.1.1), (hJ.1.1.1.1.2)⟩, ⟨(hJ.1.1.1.2.1), (hJ.1.1.1.2.2)⟩⟩, ⟨⟨(hJ.1.1.2.1.1), fun q => (hJ.1.1.2.1.2) (rl q)⟩, ⟨fun q => (hJ.1.1.2.2.1) (rl q), fun q => (hJ.1.1.2.2.2) (rl q)⟩⟩⟩, ⟨⟨⟨fun q => (hJ.1.2.1.1.1) (rl q), fun q => (hJ.1.2.1.1.2) (rl q)⟩, ⟨fun q => (hJ.1.2.1.2.1) (rl q), fun q => (hJ.1.2.1.2.2) (rl q)⟩⟩, ⟨⟨fun q => (hJ.1.2.2.1.1) (rl q), fun q => (hJ.1.2.2.1.2) (rl q)⟩, ⟨fun q => (hJ.1.2.2.2.1) (rl q), ⟨fun q => (hJ.1.2.2.2.2.1) (rl q), fun q => (hJ.1.2.2.2.2.2) (rl q)⟩⟩⟩⟩⟩, ⟨⟨⟨⟨fun q => (hJ.2.1.1.1.1) (rl q), fun q => (hJ.2.1.1.1.2) (rl q)⟩, ⟨fun q => (hJ.2.1.1.2.1) (rl q), fun q => (hJ.2.1.1.2.2) (rl q)⟩⟩, ⟨⟨fun q => (hJ.2.1.2.1.1) (rl q), fun q => (hJ.2.1.2.1.2) (rl q)⟩, ⟨fun q => (hJ.2.1.2.2.1) (rl q), ⟨fun q => (hJ.2.1.2.2.2.1) (rl q), fun q => (hJ.2.1.2.2.2.2) (rl q)⟩⟩⟩⟩, ⟨⟨⟨fun q => (hJ.2.2.1.1.1) (rl q), fun q => (hJ.2.2.1.1.2) (rl q)⟩, ⟨fun q => (hJ.2.2.1.2.1) (rl q), fun _ => by first | exact rfl | exact e24⟩⟩, ⟨⟨fun _ => rfl, fun q => (hJ.2.2.2.1.2) (rl q)⟩, ⟨fun q => (hJ.2.2.2.2.1) (rl q), ⟨fun q => (hJ.2.2.2.2.2.1) (rl q), fun q => (hJ.2.2.2.2.2.2) (rl q)⟩⟩⟩⟩⟩⟩
    refine StepsOk.consF (i := 26) 25 76 false (.bool (true)) rfl rfl (by kernel_rfl) rfl (fun L x G w1 hp hJ => hJ.2.2.2.1.1 (hp ⟨25, .guard⟩ (by simp) rfl)) (fun L x G w1 K hn hp hJ hK => ?_) ?_
    · skip
      simp only [putAll, Act.put, List.setIfInBounds_toArray, List.set_cons_zero, List.set_cons_succ]
      refine hK _ G _ (by kernel_rfl) ?_
      exact ⟨⟨⟨⟨⟨(hJ.1.1.1.1.1), (hJ.1.1.1.1.2)⟩, ⟨(hJ.1.1.1.2.1), (hJ.1.1.1.2.2)⟩⟩, ⟨⟨(hJ.1.1.2.1.1), fun q => (hJ.1.1.2.1.2) (rl q)⟩, ⟨fun q => (hJ.1.1.2.2.1) (rl q), fun q => (hJ.1.1.2.2.2) (rl q)⟩⟩⟩, ⟨⟨⟨fun q => (hJ.1.2.1.1.1) (rl q), fun q => (hJ.1.2.1.1.2) (rl q)⟩, ⟨fun q => (hJ.1.2.1.2.1) (rl q), fun q => (hJ.1.2.1.2.2) (rl q)⟩⟩, ⟨⟨fun q => (hJ.1.2.2.1.1) (rl q), fun q => (hJ.1.2.2.1.2) (rl q)⟩, ⟨fun q => (hJ.1.2.2.2.1) (rl q), ⟨fun q => (hJ.1.2.2.2.2.1) (rl q), fun q => (hJ.1.2.2.2.2.2) (rl q)⟩⟩⟩⟩⟩, ⟨⟨⟨⟨fun q => (hJ.2.1.1.1.1) (rl q), fun q => (hJ.2.1.1.1.2) (rl q)⟩, ⟨fun q => (hJ.2.1.1.2.1) (rl q), fun q => (hJ.2.1.1.2.2) (rl q)⟩⟩, ⟨⟨fun q => (hJ.2.1.2.1.1) (rl q), fun q => (hJ.2.1.2.1.2) (rl q)⟩, ⟨fun q => (hJ.2.1.2.2.1) (rl q), ⟨fun q => (hJ.2.1.2.2.2.1) (rl q), fun q => (hJ.2.1.2.2.2.2) (rl q)⟩⟩⟩⟩, ⟨⟨⟨fun q => (hJ.2.2.1.1.1) (rl q), fun q => (hJ.2.2.1.1.2) (rl q)⟩, ⟨fun q => (hJ.2.2.1.2.1) (rl q), fun q => (hJ.2.2.1.2.2) (rl q)⟩⟩, ⟨⟨fun q => (hJ.2.2.2.1.1) (rl q), fun _ => rfl⟩, ⟨fun q => (hJ.2.2.2.2.1) (rl q), ⟨fun q => (hJ.2.2.2.2.2.1) (rl q), fun q => (hJ.2.2.2.2.2.2) (rl q)⟩⟩⟩⟩⟩⟩
    refine StepsOk.consF (i := 27) 25 76 false (.bool (true)) rfl rfl (by kernel_rfl) rfl (fun L x G w1 hp hJ => hJ.2.2.2.1.1 (hp ⟨25, .guard⟩ (by simp) rfl)) (fun L x G w1 K hn hp hJ hK => ?_) ?_
    · skip
      simp only [putAll, Act.put, List.setIfInBounds_toArray, List.set_cons_zero, List.set_cons_succ]
      refine hK _ G _ (by kernel_rfl) ?_
      exact ⟨⟨⟨⟨⟨(hJ.1.1.1.1.1), (hJ.1.1.1.1.2)⟩, ⟨(hJ.1.1.1.2.1), (hJ.1.1.1.2.2)⟩⟩, ⟨⟨(hJ.1.1.2.1.1), fun q => (hJ.1.1.2.1.2) (rl q)⟩, ⟨fun q => (hJ.1.1.2.2.1) (rl q), fun q => (hJ.1.1.2.2.2) (rl q)⟩⟩⟩, ⟨⟨⟨fun q => (hJ.1.2.1.1.1) (rl q), fun q => (hJ.1.2.1.1.2) (rl q)⟩, ⟨fun q => (hJ.1.2.1.2.1) (rl q), fun q => (hJ.1.2.1.2.2) (rl q)⟩⟩, ⟨⟨fun q => (hJ.1.2.2.1.1) (rl q), fun q => (hJ.1.2.2.1.2) (rl q)⟩, ⟨fun q => (hJ.1.2.2.2.1) (rl q), ⟨fun q => (hJ.1.2.2.2.2.1) (rl q), fun q => (hJ.1.2.2.2.2.2) (rl q)⟩⟩⟩⟩⟩, ⟨⟨⟨⟨fun q => (hJ.2.1.1.1.1) (rl q), fun q => (hJ.2.1.1.1.2) (rl q)⟩, ⟨fun q => (hJ.2.1.1.2.1) (rl q), fun q => (hJ.2.1.1.2.2) (rl q)⟩⟩, ⟨⟨fun q => (hJ.2.1.2.1.1) (rl q), fun q => (hJ.2.1.2.1.2) (rl q)⟩, ⟨fun q => (hJ.2.1.2.2.1) (rl q), ⟨fun q => (hJ.2.1.2.2.2.1) (rl q), fun q => (hJ.2.1.2.2.2.2) (rl q)⟩⟩⟩⟩, ⟨⟨⟨fun q => (hJ.2.2.1.1.1) (rl q), fun q => (hJ.2.2.1.1.2) (rl q)⟩, ⟨fun q => (hJ.2.2.1.2.1) (rl q), fun q => (hJ.2.2.1.2.2) (rl q)⟩⟩, ⟨⟨fun q => (hJ.2.2.2.1.1) (rl q), fun q => (hJ.2.2.2.1.2) (rl q)⟩, ⟨fun _ => rfl, ⟨fun q => (hJ.2.2.2.2.2.1) (rl q), fun q => (hJ.2.2.2.2.2.2) (rl q)⟩⟩⟩⟩⟩⟩
    refine StepsOk.consF (i := 28) 25 76 false (.bool (true)) rfl rfl (by kernel_rfl) rfl (fun L x G w1 hp hJ => hJ.2.2.2.1.1 (hp ⟨25, .guard⟩ (by simp) rfl)) (fun L x G w1 K hn hp hJ hK => ?_) ?_
    · skip
      simp only [putAll, Act.put, List.setIfInBounds_toArray, List.set_cons_zero, List.set_cons_succ]
      refine hK _ G _ (by kernel_rfl) ?_
      exact ⟨⟨⟨⟨⟨(hJ.1.1.1.1.1), (hJ.1.1.1.1.2)⟩, ⟨(hJ.1.1.1.2.1), (hJ.1.1.1.2.2)⟩⟩, ⟨⟨(hJ.1.1.2.1.1), fun q => (hJ.1.1.2.1.2) (rl q)⟩, ⟨fun q => (hJ.1.1.2.2.1) (rl q), fun q => (hJ.1.1.2.2.2) (rl q)⟩⟩⟩, ⟨⟨⟨fun q => (hJ.1.2.1.1.1) (rl q), fun q => (hJ.1.2.1.1.2) (rl q)⟩, ⟨fun q => (hJ.1.2.1.2.1) (rl q), fun q => (hJ.1.2.1.2.2) (rl q)⟩⟩, ⟨⟨fun q => (hJ.1.2.2.1.1) (rl q), fun q => (hJ.1.2.2.1.2) (rl q)⟩, ⟨fun q => (hJ.1.2.2.2.1) (rl q), ⟨fun q => (hJ.1.2.2.2.2.1) (rl q), fun q => (hJ.1.2.2.2.2.2) (rl q)⟩⟩⟩⟩⟩, ⟨⟨⟨⟨fun q => (hJ.2.1.1.1.1) (rl q), fun q => (hJ.2.1.1.1.2) (rl q)⟩, ⟨fun q => (hJ.2.1.1.2.1) (rl q), fun q => (hJ.2.1.1.2.2) (rl q)⟩⟩, ⟨⟨fun q => (hJ.2.1.2.1.1) (rl q), fun q => (hJ.2.1.2.1.2) (rl q)⟩, ⟨fun q => (hJ.2.1.2.2.1) (rl q), ⟨fun q => (hJ.2.1.2.2.2.1) (rl q), fun q => (hJ.2.1.2.2.2.2) (rl q)⟩⟩⟩⟩, ⟨⟨⟨fun q => (hJ.2.2.1.1.1) (rl q), fun q => (hJ.2.2.1.1.2) (rl q)⟩, ⟨fun q => (hJ.2.2.1.2.1) (rl q), fun q => (hJ.2.2.1.2.2) (rl q)⟩⟩, ⟨⟨fun q => (hJ.2.2.2.1.1) (rl q), fun q => (hJ.2.2.2.1.2) (rl q)⟩, ⟨fun q => (hJ.2.2.2.2.1) (rl q), ⟨fun _ => rfl, fun q => (hJ.2.2.2.2.2.2) (rl q)⟩⟩⟩⟩⟩⟩
    refine StepsOk.cons (i := 29) rfl (fun L x G w1 K Q hn hp hJ hK => ?_) ?_
    · skip
      have p25 : L 25 := hp ⟨25, .data⟩ (by simp) rfl
      have e25 := (hJ.2.2.2.1.1) p25
      have p28 : L 28 := hp ⟨28, .data⟩ (by simp) rfl
      have e28 := (hJ.2.2.2.2.2.1) p28
      simp only [putAll, Act.put, List.setIfInBounds_toArray, List.set_cons_zero, List.set_cons_succ]
      go_simp
      refine hK _ G _ (by kernel_rfl) ?_
      exact ⟨⟨⟨⟨⟨(hJ.1.1.1.1.1), (hJ.1.1.1.1.2)⟩, ⟨(hJ.1.1.1.2.1), (hJ.1.1.1.2.2)⟩⟩, ⟨⟨(hJ.1.1.2.1.1), fun q => (hJ.1.1.2.1.2) (rl q)⟩, ⟨fun q => (hJ.1.1.2.2.1) (rl q), fun q => (hJ.1.1.2.2.2) (rl q)⟩⟩⟩, ⟨⟨⟨fun q => (hJ.1.2.1.1.1) (rl q), fun q => (hJ.1.2.1.1.2) (rl q)⟩, ⟨fun q => (hJ.1.2.1.2.1) (rl q), fun q => (hJ.1.2.1.2.2) (rl q)⟩⟩, ⟨⟨fun q => (hJ.1.2.2.1.1) (rl q), fun q => (hJ.1.2.2.1.2) (rl q)⟩, ⟨fun q => (hJ.1.2.2.2.1) (rl q), ⟨fun q => (hJ.1.2.2.2.2.1) (rl q), fun q => (hJ.1.2.2.2.2.2) (rl q)⟩⟩⟩⟩⟩, ⟨⟨⟨⟨fun q => (hJ.2.1.1.1.1) (rl q), fun q => (hJ.2.1.1.1.2) (rl q)⟩, ⟨fun q => (hJ.2.1.1.2.1) (rl q), fun q => (hJ.2.1.1.2.2) (rl q)⟩⟩, ⟨⟨fun q => (hJ.2.1.2.1.1) (rl q), fun q => (hJ.2.1.2.1.2) (rl q)⟩, ⟨fun q => (hJ.2.1.2.2.1) (rl q), ⟨fun q => (hJ.2.1.2.2.2.1) (rl q), fun q => (hJ.2.1.2.2.2.2) (rl q)⟩⟩⟩⟩, ⟨⟨⟨fun q => (hJ.2.2.1.1.1) (rl q), fun q => (hJ.2.2.1.1.2) (rl q)⟩, ⟨fun q => (hJ.2.2.1.2.1) (rl q), fun q => (hJ.2.2.1.2.2) (rl q)⟩⟩, ⟨⟨fun _ => by first | exact rfl | exact e25, fun q => (hJ.2.2.2.1.2) (rl q)⟩, ⟨fun q => (hJ.2.2.2.2.1) (rl q), ⟨fun _ => by first | exact rfl | exact e28, fun _ => rfl⟩⟩⟩⟩⟩⟩
    exact StepsOk.nil
  case fin =>
    intro L x G w3 hall hJ
    replace P := (hJ.1.1.1.2.1)
    replace N := (hJ.1.1.2.1.1)
    have u0 := hJ.1.1.2.1.2 (hall 0 (by decide))
    have u1 := hJ.1.1.2.2.1 (hall 1 (by decide))
    have u2 := hJ.1.1.2.2.2 (hall 2 (by decide))
    have u3 := hJ.1.2.1.1.1 (hall 3 (by decide))
    have u4 := hJ.1.2.1.1.2 (hall 4 (by decide))
    have u5 := hJ.1.2.1.2.1 (hall 5 (by decide))
    have u6 := hJ.1.2.1.2.2 (hall 6 (by decide))
    have u7 := hJ.1.2.2.1.1 (hall 7 (by decide))
    have u8 := hJ.1.2.2.1.2 (hall 8 (by decide))
    have u9 := hJ.1.2.2.2.1 (hall 9 (by decide))
    have u10 := hJ.1.2.2.2.2.1 (hall 10 (by decide))
    have u11 := hJ.1.2.2.2.2.2 (hall 11 (by decide))
    have u12 := hJ.2.1.1.1.1 (hall 12 (by decide))
    have u13 := hJ.2.1.1.1.2 (hall 13 (by decide))
    have u14 := hJ.2.1.1.2.1 (hall 14 (by decide))
    have u15 := hJ.2.1.1.2.2 (hall 15 (by decide))
    have u16 := hJ.2.1.2.1.1 (hall 16 (by decide))
    have u17 := hJ.2.1.2.1.2 (hall 17 (by decide))
    have u18 := hJ.2.1.2.2.1 (hall 18 (by decide))
    have u19 := hJ.2.1.2.2.2.1 (hall 19 (by decide))
    have u20 := hJ.2.1.2.2.2.2 (hall 20 (by decide))
    have u21 := hJ.2.2.1.1.1 (hall 21 (by decide))
    have u22 := hJ.2.2.1.1.2 (hall 22 (by decide))
    have u23 := hJ.2.2.1.2.1 (hall 23 (by decide))
    have u24 := hJ.2.2.1.2.2 (hall 24 (by decide))
    have u25 := hJ.2.2.2.1.1 (hall 25 (by decide))
    have u26 := hJ.2.2.2.1.2 (hall 26 (by decide))
    have u27 := hJ.2.2.2.2.1 (hall 27 (by decide))
    have u28 := hJ.2.2.2.2.2.1 (hall 28 (by decide))
    have u29 := hJ.2.2.2.2.2.2 (hall 29 (by decide))
    replace hB := hJ.1.1.1.1.1
    simp only [putAll, Act.put, List.setIfInBounds_toArray, List.set_cons_zero, List.set_cons_succ]
    simp only [u0, u1, u2, u3, u4, u5, u6, u7, u8, u9, u10, u11, u12, u13, u14, u15, u16, u17, u18, u19, u20, u21, u22, u23, u24, u25, u26, u27, u28, u29]
    clear hall hJ u0 u1 u2 u3 u4 u5 u6 u7 u8 u9 u10 u11 u12 u13 u14 u15 u16 u17 u18 u19 u20 u21 u22 u23 u24 u25 u26 u27 u28 u29
    go_wp2_with fail
    go_returns
    exact ⟨rfl, hB⟩
end Go.Proofs.Ytcgcocingfhleaa
