/-
  The walk of TopLeast, by cases.
-/
import Derived.Test.YtcgcocingfhleaaQ24p
import Derived.Test.YtcgcocingfhleaaInv2
namespace Go.Proofs.Ytcgcocingfhleaa
set_option linter.unusedVariables false
set_option linter.unusedSimpArgs false
open Go.RowKit
attribute [local irreducible] World.setCell World.cell?

set_option maxRecDepth 100000 in
set_option maxHeartbeats 4000000 in
theorem top_5 (A : Option Addr) (n c : Nat) (M : Lq.Tab) (ux uy v : Int) (w : World) (T : Rd w 6 A n c (iv M)) (bx : -9223372036854775808 ≤ ux ∧ ux ≤ 9223372036854775807) (by_ : -9223372036854775808 ≤ uy ∧ uy ≤ 9223372036854775807) (k : Nat) (hkn : k ≤ n) (f2 : (if (17 : Int) < (n : Int) then (17 : Int) else (n : Int)) = (k : Int)) (h : Lq.er k M = 0) (c0 : ¬ v < 1) (c1 : ¬ 8 < v) (c2 : ¬ 16000000 < max (nsz ux) (nsz uy)) (c3 : ¬ ux < -16000000) (c4 : ¬ uy < -16000000) :
    Calls Try.prog 12 #[.slice A n c, .agg #[.int .i64 ux, .int .i64 uy], .int .i64 v] w fun e w' => e = .returned (.bool true) ∧ Below w.heap.size w w' := by
  have r1 := T.le
  have r2 := T.mx
  have f3 : (k : Int) ≤ (c : Int) := by omega
  have T0 := T.short hkn
  have KN1 := fun W_ : World => nav_c ux W_ bx.1 bx.2
  have KN2 := fun W_ : World => nav_c uy W_ by_.1 by_.2
  go_enter Try.func12, Try.ntmps12
  try simp only [List.append_eq, List.cons_append, List.nil_append]
  have P := Blk.new w 36 #[.int .i64 (ux), .int .i64 (uy)]
  have hB := ba w (.cells #[.int .i64 (ux), .int .i64 (uy)] 36)
  have A4 := Blk.new1 w (.cells #[.int .i64 (ux), .int .i64 (uy)] 36) 43 #[.int .i64 (1), .int .i64 (2), .int .i64 (0), .int .i64 (6), .int .i64 (0), .int .i64 (1), .int .i64 (2), .int .i64 (0), .int .i64 (1), .int .i64 (5), .int .i64 (0), .int .i64 (2)]
  replace P := P.alloc (.cells #[.int .i64 (1), .int .i64 (2), .int .i64 (0), .int .i64 (6), .int .i64 (0), .int .i64 (1), .int .i64 (2), .int .i64 (0), .int .i64 (1), .int .i64 (5), .int .i64 (0), .int .i64 (2)] 43)
  replace hB := bal hB (.cells #[.int .i64 (1), .int .i64 (2), .int .i64 (0), .int .i64 (6), .int .i64 (0), .int .i64 (1), .int .i64 (2), .int .i64 (0), .int .i64 (1), .int .i64 (5), .int .i64 (0), .int .i64 (2)] 43)
  obtain ⟨c00, c01, c02, c03⟩ := P.open2
  go_wp2_with fail
  refine (sol4 A4).mono ?_
  rintro e w1 ⟨rfl, hb⟩
  clear c00 c01 c02 c03
  replace P := P.keep hb
  replace A4 := A4.keep hb
  replace hB := bt hB hb
  clear hb
  have hz1 := hB.size
  have l1P := P.lt
  have l1A4 := A4.lt
  replace P := P.alloc (.cells #[.int .i64 (Wi.Hq (24)), .int .u64 (Wi.Lr (24)), .int .i64 (Wi.Hq (40)), .int .u64 (Wi.Lr (40)), .int .i64 (8), .int .i64 (3), .int .i64 (5)] 38)
  replace A4 := A4.alloc (.cells #[.int .i64 (Wi.Hq (24)), .int .u64 (Wi.Lr (24)), .int .i64 (Wi.Hq (40)), .int .u64 (Wi.Lr (40)), .int .i64 (8), .int .i64 (3), .int .i64 (5)] 38)
  replace hB := bal hB (.cells #[.int .i64 (Wi.Hq (24)), .int .u64 (Wi.Lr (24)), .int .i64 (Wi.Hq (40)), .int .u64 (Wi.Lr (40)), .int .i64 (8), .int .i64 (3), .int .i64 (5)] 38)
  have S := Blk.new w1 38 #[.int .i64 (Wi.Hq (24)), .int .u64 (Wi.Lr (24)), .int .i64 (Wi.Hq (40)), .int .u64 (Wi.Lr (40)), .int .i64 (8), .int .i64 (3), .int .i64 (5)]
  have S0 := Lq.er_ok.1 h
  have H := Lib.hid h
  have O := S0.ok
  have hd0 := S0.d
  have dt2 := (Lq.Ok.sxb O).2.2.2
  clear h S0
  obtain ⟨c00, c01, c02, c03⟩ := P.open2
  obtain ⟨c10, c11, c12, c13, c14, c15, c16, c17, c18⟩ := S.open7
  go_wp2_with fail
  refine (least_ok _ _ _ _ _ (T0.keep hB) H.out).mono ?_
  rintro e w2 ⟨rfl, hb⟩
  clear c00 c01 c02 c03 c10 c11 c12 c13 c14 c15 c16 c17 c18
  replace P := P.keep hb
  replace S := S.keep hb
  replace hB := bt hB hb
  clear hb
  have hz2 := hB.size
  have l2P := P.lt
  have l2S := S.lt
  replace P := P.alloc (.cells #[.int .i64 (Wi.Hq (Lq.num k M)), .int .u64 (Wi.Lr (Lq.num k M))] 34)
  replace S := S.alloc (.cells #[.int .i64 (Wi.Hq (Lq.num k M)), .int .u64 (Wi.Lr (Lq.num k M))] 34)
  replace hB := bal hB (.cells #[.int .i64 (Wi.Hq (Lq.num k M)), .int .u64 (Wi.Lr (Lq.num k M))] 34)
  have N := Blk.new w2 34 #[.int .i64 (Wi.Hq (Lq.num k M)), .int .u64 (Wi.Lr (Lq.num k M))]
  have lN0 := N.lt
  have lPN : w.heap.size < w2.heap.size := by have := l2P; omega
  generalize hgN : w2.heap.size = gN at *
  have HG := Lib.hid hgN
  clear hgN
  obtain ⟨mx, emx, hmx⟩ : ∃ m, (if nsz uy > nsz ux then nsz uy else nsz ux) = m ∧ Hid (m = max (nsz ux) (nsz uy)) := ⟨_, rfl, Lib.hid (by split <;> omega)⟩
  replace c2 : ¬ 16000000 < mx := by have := hmx.out; omega
  have u1 : ux ≤ 16000000 := by
    have h0 := hmx.out
    have h1 : nsz ux ≤ 16000000 := by omega
    unfold nsz at h1
    split at h1 <;> (try split at h1) <;> omega
  have u2 : uy ≤ 16000000 := by
    have h0 := hmx.out
    have h1 : nsz uy ≤ 16000000 := by omega
    unfold nsz at h1
    split at h1 <;> (try split at h1) <;> omega
  have x1 : -16000000 ≤ ux := by omega
  have y1 : -16000000 ≤ uy := by omega
  have v1 : 1 ≤ v := by omega
  have v2 : v ≤ 8 := by omega
  have d0 : decide (v < 1) = false := decide_eq_false (by omega)
  have d1 : decide (8 < v) = false := decide_eq_false (by omega)
  have d2 : decide (16000000 < mx) = false := decide_eq_false (by omega)
  have d3 : decide (ux < -16000000) = false := decide_eq_false (by omega)
  have d4 : decide (uy < -16000000) = false := decide_eq_false (by omega)
  go_wp2_with fail
  rw [HG.out]
  refine wp_region_inv (fun L x G wx => (((((Below w.heap.size w wx
        ∧ w.heap.size < wx.heap.size)
        ∧ (Blk wx (w.heap.size) 36 #[.int .i64 (ux), .int .i64 (uy)]
        ∧ gN < wx.heap.size))
        ∧ ((Blk wx (gN) 34 #[.int .i64 (Wi.Hq (Lq.num k M)), .int .u64 (Wi.Lr (Lq.num k M))]
        ∧ (L 0 → x 51 = .int .i64 (0)))
        ∧ ((L 1 → x 52 = .bool (false))
        ∧ (L 2 → x 53 = .bool (false)))))
        ∧ ((((L 3 → x 54 = .int .i64 (v))
        ∧ (L 4 → x 55 = .bool (false)))
        ∧ ((L 5 → x 56 = .bool (false))
        ∧ (L 6 → x 57 = .bool (false))))
        ∧ (((L 7 → x 58 = .int .i64 (v))
        ∧ (L 8 → x 59 = .bool (false)))
        ∧ ((L 9 → x 60 = .bool (false))
        ∧ ((L 10 → x 61 = .bool (false))
        ∧ (L 11 → x 62 = .pointer (some ⟨w.heap.size, 0, none⟩)))))))
        ∧ (((((L 12 → x 63 = .int .i64 (ux))
        ∧ (L 13 → x 64 = .int .i64 (nsz ux)))
        ∧ ((L 14 → x 65 = .pointer (some ⟨w.heap.size, 1, none⟩))
        ∧ (L 15 → x 66 = .int .i64 (uy))))
        ∧ (((L 16 → x 67 = .int .i64 (nsz uy))
        ∧ (L 17 → x 68 = .int .i64 (mx)))
        ∧ ((L 18 → x 69 = .bool (false))
        ∧ ((L 19 → x 70 = .bool (false))
        ∧ (L 20 → x 71 = .bool (false))))))
        ∧ ((((L 21 → x 72 = .pointer (some ⟨w.heap.size, 0, none⟩))
        ∧ (L 22 → x 73 = .int .i64 (ux)))
        ∧ ((L 23 → x 74 = .bool (false))
        ∧ (L 24 → x 75 = .bool (false))))
        ∧ (((L 25 → x 76 = .bool (false))
        ∧ (L 26 → x 77 = .pointer (some ⟨w.heap.size, 1, none⟩)))
        ∧ ((L 27 → x 78 = .int .i64 (uy))
        ∧ ((L 28 → x 79 = .bool (false))
        ∧ (L 29 → x 80 = .bool (false))))))))) [51, 52, 53, 54, 55, 56, 57, 58, 59, 60, 61, 62, 63, 64, 65, 66, 67, 68, 69, 70, 71, 72, 73, 74, 75, 76, 77, 78, 79, 80] 30 (by kernel_rfl) (by kernel_rfl) (by kernel_rfl) ?h0 ?st ?fin
  case h0 =>
    exact ⟨⟨⟨⟨⟨bdr hB, Blk.lt P.drew⟩, ⟨P.drew, Blk.lt N.drew⟩⟩, ⟨⟨N.drew, fun q => q.elim⟩, ⟨fun q => q.elim, fun q => q.elim⟩⟩⟩, ⟨⟨⟨fun q => q.elim, fun q => q.elim⟩, ⟨fun q => q.elim, fun q => q.elim⟩⟩, ⟨⟨fun q => q.elim, fun q => q.elim⟩, ⟨fun q => q.elim, ⟨fun q => q.elim, fun q => q.elim⟩⟩⟩⟩⟩, ⟨⟨⟨⟨fun q => q.elim, fun q => q.elim⟩, ⟨fun q => q.elim, fun q => q.elim⟩⟩, ⟨⟨fun q => q.elim, fun q => q.elim⟩, ⟨fun q => q.elim, ⟨fun q => q.elim, fun q => q.elim⟩⟩⟩⟩, ⟨⟨⟨fun q => q.elim, fun q => q.elim⟩, ⟨fun q => q.elim, fun q => q.elim⟩⟩, ⟨⟨fun q => q.elim, fun q => q.elim⟩, ⟨fun q => q.elim, ⟨fun q => q.elim, fun q => q.elim⟩⟩⟩⟩⟩⟩
  case st =>
    refine StepsOk.cons (i := 0) rfl (fun L x G w1 K Q hn hp hJ hK => ?_) ?_
    · skip
      simp only [putAll, Act.put, List.setIfInBounds_toArray, List.set_cons_zero, List.set_cons_succ]
      go_simp
      refine hK _ G _ (by kernel_rfl) ?_
      exact ⟨⟨⟨⟨⟨(hJ.1.1.1.1.1), (hJ.1.1.1.1.2)⟩, ⟨(hJ.1.1.1.2.1), (hJ.1.1.1.2.2)⟩⟩, ⟨⟨(hJ.1.1.2.1.1), fun _ => rfl⟩, ⟨fun q => (hJ.1.1.2.2.1) (rl q), fun q => (hJ.1.1.2.2.2) (rl q)⟩⟩⟩, ⟨⟨⟨fun q => (hJ.1.2.1.1.1) (rl q), fun q => (hJ.1.2.1.1.2) (rl q)⟩, ⟨fun q => (hJ.1.2.1.2.1) (rl q), fun q => (hJ.1.2.1.2.2) (rl q)⟩⟩, ⟨⟨fun q => (hJ.1.2.2.1.1) (rl q), fun q => (hJ.1.2.2.1.2) (rl q)⟩, ⟨fun q => (hJ.1.2.2.2.1) (rl q), ⟨fun q => (hJ.1.2.2.2.2.1) (rl q), fun q => (hJ.1.2.2.2.2.2) (rl q)⟩⟩⟩⟩⟩, ⟨⟨⟨⟨fun q => (hJ.2.1.1.1.1) (rl q), fun q => (hJ.2.1.1.1.2) (rl q)⟩, ⟨fun q => (hJ.2.1.1.2.1) (rl q), fun q => (hJ.2.1.1.2.2) (rl q)⟩⟩, ⟨⟨fun q => (hJ.2.1.2.1.1) (rl q), fun q => (hJ.2.1.2.1.2) (rl q)⟩, ⟨fun q => (hJ.2.1.2.2.1) (rl q), ⟨fun q => (hJ.2.1.2.2.2.1) (rl q), fun q => (hJ.2.1.2.2.2.2) (rl q)⟩⟩⟩⟩, ⟨⟨⟨fun q => (hJ.2.2.1.1.1) (rl q), fun q => (hJ.2.2.1.1.2) (rl q)⟩, ⟨fun q => (hJ.2.2.1.2.1) (rl q), fun q => (hJ.2.2.1.2.2) (rl q)⟩⟩, ⟨⟨fun q => (hJ.2.2.2.1.1) (rl q), fun q => (hJ.2.2.2.1.2) (rl q)⟩, ⟨fun q => (hJ.2.2.2.2.1) (rl q), ⟨fun q => (hJ.2.2.2.2.2.1) (rl q), fun q => (hJ.2.2.2.2.2.2) (rl q)⟩⟩⟩⟩⟩⟩
    refine StepsOk.cons (i := 1) rfl (fun L x G w1 K Q hn hp hJ hK => ?_) ?_
    · skip
      have p0 : L 0 := hp ⟨0, .data⟩ (by simp) rfl
      have e0 := (hJ.1.1.2.1.2) p0
      simp only [putAll, Act.put, List.setIfInBounds_toArray, List.set_cons_zero, List.set_cons_succ]
      go_simp
      refine hK _ G _ (by kernel_rfl) ?_
      exact ⟨⟨⟨⟨⟨(hJ.1.1.1.1.1), (hJ.1.1.1.1.2)⟩, ⟨(hJ.1.1.1.2.1), (hJ.1.1.1.2.2)⟩⟩, ⟨⟨(hJ.1.1.2.1.1), fun _ => by first | exact rfl | exact e0⟩, ⟨fun _ => rfl, fun q => (hJ.1.1.2.2.2) (rl q)⟩⟩⟩, ⟨⟨⟨fun q => (hJ.1.2.1.1.1) (rl q), fun q => (hJ.1.2.1.1.2) (rl q)⟩, ⟨fun q => (hJ.1.2.1.2.1) (rl q), fun q => (hJ.1.2.1.2.2) (rl q)⟩⟩, ⟨⟨fun q => (hJ.1.2.2.1.1) (rl q), fun q => (hJ.1.2.2.1.2) (rl q)⟩, ⟨fun q => (hJ.1.2.2.2.1) (rl q), ⟨fun q => (hJ.1.2.2.2.2.1) (rl q), fun q => (hJ.1.2.2.2.2.2) (rl q)⟩⟩⟩⟩⟩, ⟨⟨⟨⟨fun q => (hJ.2.1.1.1.1) (rl q), fun q => (hJ.2.1.1.1.2) (rl q)⟩, ⟨fun q => (hJ.2.1.1.2.1) (rl q), fun q => (hJ.2.1.1.2.2) (rl q)⟩⟩, ⟨⟨fun q => (hJ.2.1.2.1.1) (rl q), fun q => (hJ.2.1.2.1.2) (rl q)⟩, ⟨fun q => (hJ.2.1.2.2.1) (rl q), ⟨fun q => (hJ.2.1.2.2.2.1) (rl q), fun q => (hJ.2.1.2.2.2.2) (rl q)⟩⟩⟩⟩, ⟨⟨⟨fun q => (hJ.2.2.1.1.1) (rl q), fun q => (hJ.2.2.1.1.2) (rl q)⟩, ⟨fun q => (hJ.2.2.1.2.1) (rl q), fun q => (hJ.2.2.1.2.2) (rl q)⟩⟩, ⟨⟨fun q => (hJ.2.2.2.1.1) (rl q), fun q => (hJ.2.2.2.1.2) (rl q)⟩, ⟨fun q => (hJ.2.2.2.2.1) (rl q), ⟨fun q => (hJ.2.2.2.2.2.1) (rl q), fun q => (hJ.2.2.2.2.2.2) (rl q)⟩⟩⟩⟩⟩⟩
    refine StepsOk.cons (i := 2) rfl (fun L x G w1 K Q hn hp hJ hK => ?_) ?_
    · skip
      have p1 : L 1 := hp ⟨1, .data⟩ (by simp) rfl
      have e1 := (hJ.1.1.2.2.1) p1
      simp only [putAll, Act.put, List.setIfInBounds_toArray, List.set_cons_zero, List.set_cons_succ]
      go_simp
      refine hK _ G _ (by kernel_rfl) ?_
      exact ⟨⟨⟨⟨⟨(hJ.1.1.1.1.1), (hJ.1.1.1.1.2)⟩, ⟨(hJ.1.1.1.2.1), (hJ.1.1.1.2.2)⟩⟩, ⟨⟨(hJ.1.1.2.1.1), fun q => (hJ.1.1.2.1.2) (rl q)⟩, ⟨fun _ => by first | exact rfl | exact e1, fun _ => rfl⟩⟩⟩, ⟨⟨⟨fun q => (hJ.1.2.1.1.1) (rl q), fun q => (hJ.1.2.1.1.2) (rl q)⟩, ⟨fun q => (hJ.1.2.1.2.1) (rl q), fun q => (hJ.1.2.1.2.2) (rl q)⟩⟩, ⟨⟨fun q => (hJ.1.2.2.1.1) (rl q), fun q => (hJ.1.2.2.1.2) (rl q)⟩, ⟨fun q => (hJ.1.2.2.2.1) (rl q), ⟨fun q => (hJ.1.2.2.2.2.1) (rl q), fun q => (hJ.1.2.2.2.2.2) (rl q)⟩⟩⟩⟩⟩, ⟨⟨⟨⟨fun q => (hJ.2.1.1.1.1) (rl q), fun q => (hJ.2.1.1.1.2) (rl q)⟩, ⟨fun q => (hJ.2.1.1.2.1) (rl q), fun q => (hJ.2.1.1.2.2) (rl q)⟩⟩, ⟨⟨fun q => (hJ.2.1.2.1.1) (rl q), fun q => (hJ.2.1.2.1.2) (rl q)⟩, ⟨fun q => (hJ.2.1.2.2.1) (rl q), ⟨fun q => (hJ.2.1.2.2.2.1) (rl q), fun q => (hJ.2.1.2.2.2.2) (rl q)⟩⟩⟩⟩, ⟨⟨⟨fun q => (hJ.2.2.1.1.1) (rl q), fun q => (hJ.2.2.1.1.2) (rl q)⟩, ⟨fun q => (hJ.2.2.1.2.1) (rl q), fun q => (hJ.2.2.1.2.2) (rl q)⟩⟩, ⟨⟨fun q => (hJ.2.2.2.1.1) (rl q), fun q => (hJ.2.2.2.1.2) (rl q)⟩, ⟨fun q => (hJ.2.2.2.2.1) (rl q), ⟨fun q => (hJ.2.2.2.2.2.1) (rl q), fun q => (hJ.2.2.2.2.2.2) (rl q)⟩⟩⟩⟩⟩⟩
    refine StepsOk.consT (i := 3) 2 53 false rfl rfl (by kernel_rfl) (fun L x G w1 hp hJ => hJ.1.1.2.2.2 (hp ⟨2, .guard⟩ (by simp) rfl)) (fun L x G w1 K Q hn hp hJ hK => ?_) ?_
    · skip
      simp only [putAll, Act.put, List.setIfInBounds_toArray, List.set_cons_zero, List.set_cons_succ]
      go_simp
      refine hK _ G _ (by kernel_rfl) ?_
      exact ⟨⟨⟨⟨⟨(hJ.1.1.1.1.1), (hJ.1.1.1.1.2)⟩, ⟨(hJ.1.1.1.2.1), (hJ.1.1.1.2.2)⟩⟩, ⟨⟨(hJ.1.1.2.1.1), fun q => (hJ.1.1.2.1.2) (rl q)⟩, ⟨fun q => (hJ.1.1.2.2.1) (rl q), fun q => (hJ.1.1.2.2.2) (rl q)⟩⟩⟩, ⟨⟨⟨fun _ => rfl, fun q => (hJ.1.2.1.1.2) (rl q)⟩, ⟨fun q => (hJ.1.2.1.2.1) (rl q), fun q => (hJ.1.2.1.2.2) (rl q)⟩⟩, ⟨⟨fun q => (hJ.1.2.2.1.1) (rl q), fun q => (hJ.1.2.2.1.2) (rl q)⟩, ⟨fun q => (hJ.1.2.2.2.1) (rl q), ⟨fun q => (hJ.1.2.2.2.2.1) (rl q), fun q => (hJ.1.2.2.2.2.2) (rl q)⟩⟩⟩⟩⟩, ⟨⟨⟨⟨fun q => (hJ.2.1.1.1.1) (rl q), fun q => (hJ.2.1.1.1.2) (rl q)⟩, ⟨fun q => (hJ.2.1.1.2.1) (rl q), fun q => (hJ.2.1.1.2.2) (rl q)⟩⟩, ⟨⟨fun q => (hJ.2.1.2.1.1) (rl q), fun q => (hJ.2.1.2.1.2) (rl q)⟩, ⟨fun q => (hJ.2.1.2.2.1) (rl q), ⟨fun q => (hJ.2.1.2.2.2.1) (rl q), fun q => (hJ.2.1.2.2.2.2) (rl q)⟩⟩⟩⟩, ⟨⟨⟨fun q => (hJ.2.2.1.1.1) (rl q), fun q => (hJ.2.2.1.1.2) (rl q)⟩, ⟨fun q => (hJ.2.2.1.2.1) (rl q), fun q => (hJ.2.2.1.2.2) (rl q)⟩⟩, ⟨⟨fun q => (hJ.2.2.2.1.1) (rl q), fun q => (hJ.2.2.2.1.2) (rl q)⟩, ⟨fun q => (hJ.2.2.2.2.1) (rl q), ⟨fun q => (hJ.2.2.2.2.2.1) (rl q), fun q => (hJ.2.2.2.2.2.2) (rl q)⟩⟩⟩⟩⟩⟩
    refine StepsOk.consT (i := 4) 2 53 false rfl rfl (by kernel_rfl) (fun L x G w1 hp hJ => hJ.1.1.2.2.2 (hp ⟨2, .guard⟩ (by simp) rfl)) (fun L x G w1 K Q hn hp hJ hK => ?_) ?_
    · skip
      have p3 : L 3 := hp ⟨3, .data⟩ (by simp) rfl
      have e3 := (hJ.1.2.1.1.1) p3
      simp only [putAll, Act.put, List.setIfInBounds_toArray, List.set_cons_zero, List.set_cons_succ]
      go_simp
      refine hK _ G _ (by kernel_rfl) ?_
      exact ⟨⟨⟨⟨⟨(hJ.1.1.1.1.1), (hJ.1.1.1.1.2)⟩, ⟨(hJ.1.1.1.2.1), (hJ.1.1.1.2.2)⟩⟩, ⟨⟨(hJ.1.1.2.1.1), fun q => (hJ.1.1.2.1.2) (rl q)⟩, ⟨fun q => (hJ.1.1.2.2.1) (rl q), fun q => (hJ.1.1.2.2.2) (rl q)⟩⟩⟩, ⟨⟨⟨fun _ => by first | exact rfl | exact e3, fun _ => rfl⟩, ⟨fun q => (hJ.1.2.1.2.1) (rl q), fun q => (hJ.1.2.1.2.2) (rl q)⟩⟩, ⟨⟨fun q => (hJ.1.2.2.1.1) (rl q), fun q => (hJ.1.2.2.1.2) (rl q)⟩, ⟨fun q => (hJ.1.2.2.2.1) (rl q), ⟨fun q => (hJ.1.2.2.2.2.1) (rl q), fun q => (hJ.1.2.2.2.2.2) (rl q)⟩⟩⟩⟩⟩, ⟨⟨⟨⟨fun q => (hJ.2.1.1.1.1) (rl q), fun q => (hJ.2.1.1.1.2) (rl q)⟩, ⟨fun q => (hJ.2.1.1.2.1) (rl q), fun q => (hJ.2.1.1.2.2) (rl q)⟩⟩, ⟨⟨fun q => (hJ.2.1.2.1.1) (rl q), fun q => (hJ.2.1.2.1.2) (rl q)⟩, ⟨fun q => (hJ.2.1.2.2.1) (rl q), ⟨fun q => (hJ.2.1.2.2.2.1) (rl q), fun q => (hJ.2.1.2.2.2.2) (rl q)⟩⟩⟩⟩, ⟨⟨⟨fun q => (hJ.2.2.1.1.1) (rl q), fun q => (hJ.2.2.1.1.2) (rl q)⟩, ⟨fun q => (hJ.2.2.1.2.1) (rl q), fun q => (hJ.2.2.1.2.2) (rl q)⟩⟩, ⟨⟨fun q => (hJ.2.2.2.1.1) (rl q), fun q => (hJ.2.2.2.1.2) (rl q)⟩, ⟨fun q => (hJ.2.2.2.2.1) (rl q), ⟨fun q => (hJ.2.2.2.2.2.1) (rl q), fun q => (hJ.2.2.2.2.2.2) (rl q)⟩⟩⟩⟩⟩⟩
    refine StepsOk.cons (i := 5) rfl (fun L x G w1 K Q hn hp hJ hK => ?_) ?_
    · skip
      have p2 : L 2 := hp ⟨2, .data⟩ (by simp) rfl
      have e2 := (hJ.1.1.2.2.2) p2
      have p4 : L 4 := hp ⟨4, .data⟩ (by simp) rfl
      have e4 := (hJ.1.2.1.1.2) p4
      simp only [putAll, Act.put, List.setIfInBounds_toArray, List.set_cons_zero, List.set_cons_succ]
      go_simp
      refine hK _ G _ (by kernel_rfl) ?_
      exact ⟨⟨⟨⟨⟨(hJ.1.1.1.1.1), (hJ.1.1.1.1.2)⟩, ⟨(hJ.1.1.1.2.1), (hJ.1.1.1.2.2)⟩⟩, ⟨⟨(hJ.1.1.2.1.1), fun q => (hJ.1.1.2.1.2) (rl q)⟩, ⟨fun q => (hJ.1.1.2.2.1) (rl q), fun _ => by first | exact rfl | exact e2⟩⟩⟩, ⟨⟨⟨fun q => (hJ.1.2.1.1.1) (rl q), fun _ => by first | exact rfl | exact e4⟩, ⟨fun _ => rfl, fun q => (hJ.1.2.1.2.2) (rl q)⟩⟩, ⟨⟨fun q => (hJ.1.2.2.1.1) (rl q), fun q => (hJ.1.2.2.1.2) (rl q)⟩, ⟨fun q => (hJ.1.2.2.2.1) (rl q), ⟨fun q => (hJ.1.2.2.2.2.1) (rl q), fun q => (hJ.1.2.2.2.2.2) (rl q)⟩⟩⟩⟩⟩, ⟨⟨⟨⟨fun q => (hJ.2.1.1.1.1) (rl q), fun q => (hJ.2.1.1.1.2) (rl q)⟩, ⟨fun q => (hJ.2.1.1.2.1) (rl q), fun q => (hJ.2.1.1.2.2) (rl q)⟩⟩, ⟨⟨fun q => (hJ.2.1.2.1.1) (rl q), fun q => (hJ.2.1.2.1.2) (rl q)⟩, ⟨fun q => (hJ.2.1.2.2.1) (rl q), ⟨fun q => (hJ.2.1.2.2.2.1) (rl q), fun q => (hJ.2.1.2.2.2.2) (rl q)⟩⟩⟩⟩, ⟨⟨⟨fun q => (hJ.2.2.1.1.1) (rl q), fun q => (hJ.2.2.1.1.2) (rl q)⟩, ⟨fun q => (hJ.2.2.1.2.1) (rl q), fun q => (hJ.2.2.1.2.2) (rl q)⟩⟩, ⟨⟨fun q => (hJ.2.2.2.1.1) (rl q), fun q => (hJ.2.2.2.1.2) (rl q)⟩, ⟨fun q => (hJ.2.2.2.2.1) (rl q), ⟨fun q => (hJ.2.2.2.2.2.1) (rl q), fun q => (hJ.2.2.2.2.2.2) (rl q)⟩⟩⟩⟩⟩⟩
    refine StepsOk.cons (i := 6) rfl (fun L x G w1 K Q hn hp hJ hK => ?_) ?_
    · skip
      have p5 : L 5 := hp ⟨5, .data⟩ (by simp) rfl
      have e5 := (hJ.1.2.1.2.1) p5
      simp only [putAll, Act.put, List.setIfInBounds_toArray, List.set_cons_zero, List.set_cons_succ]
      go_simp
      refine hK _ G _ (by kernel_rfl) ?_
      exact ⟨⟨⟨⟨⟨(hJ.1.1.1.1.1), (hJ.1.1.1.1.2)⟩, ⟨(hJ.1.1.1.2.1), (hJ.1.1.1.2.2)⟩⟩, ⟨⟨(hJ.1.1.2.1.1), fun q => (hJ.1.1.2.1.2) (rl q)⟩, ⟨fun q => (hJ.1.1.2.2.1) (rl q), fun q => (hJ.1.1.2.2.2) (rl q)⟩⟩⟩, ⟨⟨⟨fun q => (hJ.1.2.1.1.1) (rl q), fun q => (hJ.1.2.1.1.2) (rl q)⟩, ⟨fun _ => by first | exact rfl | exact e5, fun _ => rfl⟩⟩, ⟨⟨fun q => (hJ.1.2.2.1.1) (rl q), fun q => (hJ.1.2.2.1.2) (rl q)⟩, ⟨fun q => (hJ.1.2.2.2.1) (rl q), ⟨fun q => (hJ.1.2.2.2.2.1) (rl q), fun q => (hJ.1.2.2.2.2.2) (rl q)⟩⟩⟩⟩⟩, ⟨⟨⟨⟨fun q => (hJ.2.1.1.1.1) (rl q), fun q => (hJ.2.1.1.1.2) (rl q)⟩, ⟨fun q => (hJ.2.1.1.2.1) (rl q), fun q => (hJ.2.1.1.2.2) (rl q)⟩⟩, ⟨⟨fun q => (hJ.2.1.2.1.1) (rl q), fun q => (hJ.2.1.2.1.2) (rl q)⟩, ⟨fun q => (hJ.2.1.2.2.1) (rl q), ⟨fun q => (hJ.2.1.2.2.2.1) (rl q), fun q => (hJ.2.1.2.2.2.2) (rl q)⟩⟩⟩⟩, ⟨⟨⟨fun q => (hJ.2.2.1.1.1) (rl q), fun q => (hJ.2.2.1.1.2) (rl q)⟩, ⟨fun q => (hJ.2.2.1.2.1) (rl q), fun q => (hJ.2.2.1.2.2) (rl q)⟩⟩, ⟨⟨fun q => (hJ.2.2.2.1.1) (rl q), fun q => (hJ.2.2.2.1.2) (rl q)⟩, ⟨fun q => (hJ.2.2.2.2.1) (rl q), ⟨fun q => (hJ.2.2.2.2.2.1) (rl q), fun q => (hJ.2.2.2.2.2.2) (rl q)⟩⟩⟩⟩⟩⟩
    refine StepsOk.consT (i := 7) 6 57 false rfl rfl (by kernel_rfl) (fun L x G w1 hp hJ => hJ.1.2.1.2.2 (hp ⟨6, .guard⟩ (by simp) rfl)) (fun L x G w1 K Q hn hp hJ hK => ?_) ?_
    · skip
      simp only [putAll, Act.put, List.setIfInBounds_toArray, List.set_cons_zero, List.set_cons_succ]
      go_simp
      refine hK _ G _ (by kernel_rfl) ?_
      exact ⟨⟨⟨⟨⟨(hJ.1.1.1.1.1), (hJ.1.1.1.1.2)⟩, ⟨(hJ.1.1.1.2.1), (hJ.1.1.1.2.2)⟩⟩, ⟨⟨(hJ.1.1.2.1.1), fun q => (hJ.1.1.2.1.2) (rl q)⟩, ⟨fun q => (hJ.1.1.2.2.1) (rl q), fun q => (hJ.1.1.2.2.2) (rl q)⟩⟩⟩, ⟨⟨⟨fun q => (hJ.1.2.1.1.1) (rl q), fun q => (hJ.1.2.1.1.2) (rl q)⟩, ⟨fun q => (hJ.1.2.1.2.1) (rl q), fun q => (hJ.1.2.1.2.2) (rl q)⟩⟩, ⟨⟨fun _ => rfl, fun q => (hJ.1.2.2.1.2) (rl q)⟩, ⟨fun q => (hJ.1.2.2.2.1) (rl q), ⟨fun q => (hJ.1.2.2.2.2.1) (rl q), fun q => (hJ.1.2.2.2.2.2) (rl q)⟩⟩⟩⟩⟩, ⟨⟨⟨⟨fun q => (hJ.2.1.1.1.1) (rl q), fun q => (hJ.2.1.1.1.2) (rl q)⟩, ⟨fun q => (hJ.2.1.1.2.1) (rl q), fun q => (hJ.2.1.1.2.2) (rl q)⟩⟩, ⟨⟨fun q => (hJ.2.1.2.1.1) (rl q), fun q => (hJ.2.1.2.1.2) (rl q)⟩, ⟨fun q => (hJ.2.1.2.2.1) (rl q), ⟨fun q => (hJ.2.1.2.2.2.1) (rl q), fun q => (hJ.2.1.2.2.2.2) (rl q)⟩⟩⟩⟩, ⟨⟨⟨fun q => (hJ.2.2.1.1.1) (rl q), fun q => (hJ.2.2.1.1.2) (rl q)⟩, ⟨fun q => (hJ.2.2.1.2.1) (rl q), fun q => (hJ.2.2.1.2.2) (rl q)⟩⟩, ⟨⟨fun q => (hJ.2.2.2.1.1) (rl q), fun q => (hJ.2.2.2.1.2) (rl q)⟩, ⟨fun q => (hJ.2.2.2.2.1) (rl q), ⟨fun q => (hJ.2.2.2.2.2.1) (rl q), fun q => (hJ.2.2.2.2.2.2) (rl q)⟩⟩⟩⟩⟩⟩
    refine StepsOk.consT (i := 8) 6 57 false rfl rfl (by kernel_rfl) (fun L x G w1 hp hJ => hJ.1.2.1.2.2 (hp ⟨6, .guard⟩ (by simp) rfl)) (fun L x G w1 K Q hn hp hJ hK => ?_) ?_
    · skip
      have p7 : L 7 := hp ⟨7, .data⟩ (by simp) rfl
      have e7 := (hJ.1.2.2.1.1) p7
      simp only [putAll, Act.put, List.setIfInBounds_toArray, List.set_cons_zero, List.set_cons_succ]
      go_simp
      refine hK _ G _ (by kernel_rfl) ?_
      exact ⟨⟨⟨⟨⟨(hJ.1.1.1.1.1), (hJ.1.1.1.1.2)⟩, ⟨(hJ.1.1.1.2.1), (hJ.1.1.1.2.2)⟩⟩, ⟨⟨(hJ.1.1.2.1.1), fun q => (hJ.1.1.2.1.2) (rl q)⟩, ⟨fun q => (hJ.1.1.2.2.1) (rl q), fun q => (hJ.1.1.2.2.2) (rl q)⟩⟩⟩, ⟨⟨⟨fun q => (hJ.1.2.1.1.1) (rl q), fun q => (hJ.1.2.1.1.2) (rl q)⟩, ⟨fun q => (hJ.1.2.1.2.1) (rl q), fun q => (hJ.1.2.1.2.2) (rl q)⟩⟩, ⟨⟨fun _ => by first | exact rfl | exact e7, fun _ => rfl⟩, ⟨fun q => (hJ.1.2.2.2.1) (rl q), ⟨fun q => (hJ.1.2.2.2.2.1) (rl q), fun q => (hJ.1.2.2.2.2.2) (rl q)⟩⟩⟩⟩⟩, ⟨⟨⟨⟨fun q => (hJ.2.1.1.1.1) (rl q), fun q => (hJ.2.1.1.1.2) (rl q)⟩, ⟨fun q => (hJ.2.1.1.2.1) (rl q), fun q => (hJ.2.1.1.2.2) (rl q)⟩⟩, ⟨⟨fun q => (hJ.2.1.2.1.1) (rl q), fun q => (hJ.2.1.2.1.2) (rl q)⟩, ⟨fun q => (hJ.2.1.2.2.1) (rl q), ⟨fun q => (hJ.2.1.2.2.2.1) (rl q), fun q => (hJ.2.1.2.2.2.2) (rl q)⟩⟩⟩⟩, ⟨⟨⟨fun q => (hJ.2.2.1.1.1) (rl q), fun q => (hJ.2.2.1.1.2) (rl q)⟩, ⟨fun q => (hJ.2.2.1.2.1) (rl q), fun q => (hJ.2.2.1.2.2) (rl q)⟩⟩, ⟨⟨fun q => (hJ.2.2.2.1.1) (rl q), fun q => (hJ.2.2.2.1.2) (rl q)⟩, ⟨fun q => (hJ.2.2.2.2.1) (rl q), ⟨fun q => (hJ.2.2.2.2.2.1) (rl q), fun q => (hJ.2.2.2.2.2.2) (rl q)⟩⟩⟩⟩⟩⟩
    refine StepsOk.cons (i := 9) rfl (fun L x G w1 K Q hn hp hJ hK => ?_) ?_
    · skip
      have p6 : L 6 := hp ⟨6, .data⟩ (by simp) rfl
      have e6 := (hJ.1.2.1.2.2) p6
      have p8 : L 8 := hp ⟨8, .data⟩ (by simp) rfl
      have e8 := (hJ.1.2.2.1.2) p8
      simp only [putAll, Act.put, List.setIfInBounds_toArray, List.set_cons_zero, List.set_cons_succ]
      go_simp
      refine hK _ G _ (by kernel_rfl) ?_
      exact ⟨⟨⟨⟨⟨(hJ.1.1.1.1.1), (hJ.1.1.1.1.2)⟩, ⟨(hJ.1.1.1.2.1), (hJ.1.1.1.2.2)⟩⟩, ⟨⟨(hJ.1.1.2.1.1), fun q => (hJ.1.1.2.1.2) (rl q)⟩, ⟨fun q => (hJ.1.1.2.2.1) (rl q), fun q => (hJ.1.1.2.2.2) (rl q)⟩⟩⟩, ⟨⟨⟨fun q => (hJ.1.2.1.1.1) (rl q), fun q => (hJ.1.2.1.1.2) (rl q)⟩, ⟨fun q => (hJ.1.2.1.2.1) (rl q), fun _ => by first | exact rfl | exact e6⟩⟩, ⟨⟨fun q => (hJ.1.2.2.1.1) (rl q), fun _ => by first | exact rfl | exact e8⟩, ⟨fun _ => rfl, ⟨fun q => (hJ.1.2.2.2.2.1) (rl q), fun q => (hJ.1.2.2.2.2.2) (rl q)⟩⟩⟩⟩⟩, ⟨⟨⟨⟨fun q => (hJ.2.1.1.1.1) (rl q), fun q => (hJ.2.1.1.1.2) (rl q)⟩, ⟨fun q => (hJ.2.1.1.2.1) (rl q), fun q => (hJ.2.1.1.2.2) (rl q)⟩⟩, ⟨⟨fun q => (hJ.2.1.2.1.1) (rl q), fun q => (hJ.2.1.2.1.2) (rl q)⟩, ⟨fun q => (hJ.2.1.2.2.1) (rl q), ⟨fun q => (hJ.2.1.2.2.2.1) (rl q), fun q => (hJ.2.1.2.2.2.2) (rl q)⟩⟩⟩⟩, ⟨⟨⟨fun q => (hJ.2.2.1.1.1) (rl q), fun q => (hJ.2.2.1.1.2) (rl q)⟩, ⟨fun q => (hJ.2.2.1.2.1) (rl q), fun q => (hJ.2.2.1.2.2) (rl q)⟩⟩, ⟨⟨fun q => (hJ.2.2.2.1.1) (rl q), fun q => (hJ.2.2.2.1.2) (rl q)⟩, ⟨fun q => (hJ.2.2.2.2.1) (rl q), ⟨fun q => (hJ.2.2.2.2.2.1) (rl q), fun q => (hJ.2.2.2.2.2.2) (rl q)⟩⟩⟩⟩⟩⟩
    refine StepsOk.cons (i := 10) rfl (fun L x G w1 K Q hn hp hJ hK => ?_) ?_
    · skip
      have p9 : L 9 := hp ⟨9, .data⟩ (by simp) rfl
      have e9 := (hJ.1.2.2.2.1) p9
      simp only [putAll, Act.put, List.setIfInBounds_toArray, List.set_cons_zero, List.set_cons_succ]
      go_simp
      refine hK _ G _ (by kernel_rfl) ?_
      exact ⟨⟨⟨⟨⟨(hJ.1.1.1.1.1), (hJ.1.1.1.1.2)⟩, ⟨(hJ.1.1.1.2.1), (hJ.1.1.1.2.2)⟩⟩, ⟨⟨(hJ.1.1.2.1.1), fun q => (hJ.1.1.2.1.2) (rl q)⟩, ⟨fun q => (hJ.1.1.2.2.1) (rl q), fun q => (hJ.1.1.2.2.2) (rl q)⟩⟩⟩, ⟨⟨⟨fun q => (hJ.1.2.1.1.1) (rl q), fun q => (hJ.1.2.1.1.2) (rl q)⟩, ⟨fun q => (hJ.1.2.1.2.1) (rl q), fun q => (hJ.1.2.1.2.2) (rl q)⟩⟩, ⟨⟨fun q => (hJ.1.2.2.1.1) (rl q), fun q => (hJ.1.2.2.1.2) (rl q)⟩, ⟨fun _ => by first | exact rfl | exact e9, ⟨fun _ => rfl, fun q => (hJ.1.2.2.2.2.2) (rl q)⟩⟩⟩⟩⟩, ⟨⟨⟨⟨fun q => (hJ.2.1.1.1.1) (rl q), fun q => (hJ.2.1.1.1.2) (rl q)⟩, ⟨fun q => (hJ.2.1.1.2.1) (rl q), fun q => (hJ.2.1.1.2.2) (rl q)⟩⟩, ⟨⟨fun q => (hJ.2.1.2.1.1) (rl q), fun q => (hJ.2.1.2.1.2) (rl q)⟩, ⟨fun q => (hJ.2.1.2.2.1) (rl q), ⟨fun q => (hJ.2.1.2.2.2.1) (rl q), fun q => (hJ.2.1.2.2.2.2) (rl q)⟩⟩⟩⟩, ⟨⟨⟨fun q => (hJ.2.2.1.1.1) (rl q), fun q => (hJ.2.2.1.1.2) (rl q)⟩, ⟨fun q => (hJ.2.2.1.2.1) (rl q), fun q => (hJ.2.2.1.2.2) (rl q)⟩⟩, ⟨⟨fun q => (hJ.2.2.2.1.1) (rl q), fun q => (hJ.2.2.2.1.2) (rl q)⟩, ⟨fun q => (hJ.2.2.2.2.1) (rl q), ⟨fun q => (hJ.2.2.2.2.2.1) (rl q), fun q => (hJ.2.2.2.2.2.2) (rl q)⟩⟩⟩⟩⟩⟩
    refine StepsOk.consT (i := 11) 10 61 false rfl rfl (by kernel_rfl) (fun L x G w1 hp hJ => hJ.1.2.2.2.2.1 (hp ⟨10, .guard⟩ (by simp) rfl)) (fun L x G w1 K Q hn hp hJ hK => ?_) ?_
    · skip
      simp only [putAll, Act.put, List.setIfInBounds_toArray, List.set_cons_zero, List.set_cons_succ]
      go_simp
      refine hK _ G _ (by kernel_rfl) ?_
      exact ⟨⟨⟨⟨⟨(hJ.1.1.1.1.1), (hJ.1.1.1.1.2)⟩, ⟨(hJ.1.1.1.2.1), (hJ.1.1.1.2.2)⟩⟩, ⟨⟨(hJ.1.1.2.1.1), fun q => (hJ.1.1.2.1.2) (rl q)⟩, ⟨fun q => (hJ.1.1.2.2.1) (rl q), fun q => (hJ.1.1.2.2.2) (rl q)⟩⟩⟩, ⟨⟨⟨fun q => (hJ.1.2.1.1.1) (rl q), fun q => (hJ.1.2.1.1.2) (rl q)⟩, ⟨fun q => (hJ.1.2.1.2.1) (rl q), fun q => (hJ.1.2.1.2.2) (rl q)⟩⟩, ⟨⟨fun q => (hJ.1.2.2.1.1) (rl q), fun q => (hJ.1.2.2.1.2) (rl q)⟩, ⟨fun q => (hJ.1.2.2.2.1) (rl q), ⟨fun q => (hJ.1.2.2.2.2.1) (rl q), fun _ => rfl⟩⟩⟩⟩⟩, ⟨⟨⟨⟨fun q => (hJ.2.1.1.1.1) (rl q), fun q => (hJ.2.1.1.1.2) (rl q)⟩, ⟨fun q => (hJ.2.1.1.2.1) (rl q), fun q => (hJ.2.1.1.2.2) (rl q)⟩⟩, ⟨⟨fun q => (hJ.2.1.2.1.1) (rl q), fun q => (hJ.2.1.2.1.2) (rl q)⟩, ⟨fun q => (hJ.2.1.2.2.1) (rl q), ⟨fun q => (hJ.2.1.2.2.2.1) (rl q), fun q => (hJ.2.1.2.2.2.2) (rl q)⟩⟩⟩⟩, ⟨⟨⟨fun q => (hJ.2.2.1.1.1) (rl q), fun q => (hJ.2.2.1.1.2) (rl q)⟩, ⟨fun q => (hJ.2.2.1.2.1) (rl q), fun q => (hJ.2.2.1.2.2) (rl q)⟩⟩, ⟨⟨fun q => (hJ.2.2.2.1.1) (rl q), fun q => (hJ.2.2.2.1.2) (rl q)⟩, ⟨fun q => (hJ.2.2.2.2.1) (rl q), ⟨fun q => (hJ.2.2.2.2.2.1) (rl q), fun q => (hJ.2.2.2.2.2.2) (rl q)⟩⟩⟩⟩⟩⟩
    refine StepsOk.consT (i := 12) 10 61 false rfl rfl (by kernel_rfl) (fun L x G w1 hp hJ => hJ.1.2.2.2.2.1 (hp ⟨10, .guard⟩ (by simp) rfl)) (fun L x G w1 K Q hn hp hJ hK => ?_) ?_
    · skip
      have p11 : L 11 := hp ⟨11, .data⟩ (by simp) rfl
      have e11 := (hJ.1.2.2.2.2.2) p11
      have hc := Blk.open2 ((hJ.1.1.1.2.1))
      have c0 := hc.1
      have c1 := hc.2.1
      have c2 := hc.2.2.1
      have c3 := hc.2.2.2
      clear hc
      simp only [putAll, Act.put, List.setIfInBounds_toArray, List.set_cons_zero, List.set_cons_succ]
      go_simp
      refine hK _ G _ (by kernel_rfl) ?_
      exact ⟨⟨⟨⟨⟨(hJ.1.1.1.1.1), (hJ.1.1.1.1.2)⟩, ⟨(hJ.1.1.1.2.1), (hJ.1.1.1.2.2)⟩⟩, ⟨⟨(hJ.1.1.2.1.1), fun q => (hJ.1.1.2.1.2) (rl q)⟩, ⟨fun q => (hJ.1.1.2.2.1) (rl q), fun q => (hJ.1.1.2.2.2) (rl q)⟩⟩⟩, ⟨⟨⟨fun q => (hJ.1.2.1.1.1) (rl q), fun q => (hJ.1.2.1.1.2) (rl q)⟩, ⟨fun q => (hJ.1.2.1.2.1) (rl q), fun q => (hJ.1.2.1.2.2) (rl q)⟩⟩, ⟨⟨fun q => (hJ.1.2.2.1.1) (rl q), fun q => (hJ.1.2.2.1.2) (rl q)⟩, ⟨fun q => (hJ.1.2.2.2.1) (rl q), ⟨fun q => (hJ.1.2.2.2.2.1) (rl q), fun _ => by first | exact rfl | exact e11⟩⟩⟩⟩⟩, ⟨⟨⟨⟨fun _ => rfl, fun q => (hJ.2.1.1.1.2) (rl q)⟩, ⟨fun q => (hJ.2.1.1.2.1) (rl q), fun q => (hJ.2.1.1.2.2) (rl q)⟩⟩, ⟨⟨fun q => (hJ.2.1.2.1.1) (rl q), fun q => (hJ.2.1.2.1.2) (rl q)⟩, ⟨fun q => (hJ.2.1.2.2.1) (rl q), ⟨fun q => (hJ.2.1.2.2.2.1) (rl q), fun q => (hJ.2.1.2.2.2.2) (rl q)⟩⟩⟩⟩, ⟨⟨⟨fun q => (hJ.2.2.1.1.1) (rl q), fun q => (hJ.2.2.1.1.2) (rl q)⟩, ⟨fun q => (hJ.2.2.1.2.1) (rl q), fun q => (hJ.2.2.1.2.2) (rl q)⟩⟩, ⟨⟨fun q => (hJ.2.2.2.1.1) (rl q), fun q => (hJ.2.2.2.1.2) (rl q)⟩, ⟨fun q => (hJ.2.2.2.2.1) (rl q), ⟨fun q => (hJ.2.2.2.2.2.1) (rl q), fun q => (hJ.2.2.2.2.2.2) (rl q)⟩⟩⟩⟩⟩⟩
    refine StepsOk.consT (i := 13) 10 61 false rfl rfl (by kernel_rfl) (fun L x G w1 hp hJ => hJ.1.2.2.2.2.1 (hp ⟨10, .guard⟩ (by simp) rfl)) (fun L x G w1 K Q hn hp hJ hK => ?_) ?_
    · skip
      have p12 : L 12 := hp ⟨12, .data⟩ (by simp) rfl
      have e12 := (hJ.2.1.1.1.1) p12
      simp only [putAll, Act.put, List.setIfInBounds_toArray, List.set_cons_zero, List.set_cons_succ]
      go_simp
      refine (KN1 _).mono ?_
      rintro e w2 ⟨rfl, hb⟩
      have hz := hb.size
      try go_simp
      refine hK _ G _ (by kernel_rfl) ?_
      exact ⟨⟨⟨⟨⟨bt (hJ.1.1.1.1.1) hb, Nat.lt_of_lt_of_le (hJ.1.1.1.1.2) hb.size⟩, ⟨Blk.keep ((hJ.1.1.1.2.1)) hb, Nat.lt_of_lt_of_le (hJ.1.1.1.2.2) hb.size⟩⟩, ⟨⟨Blk.keep ((hJ.1.1.2.1.1)) hb, fun q => (hJ.1.1.2.1.2) (rl q)⟩, ⟨fun q => (hJ.1.1.2.2.1) (rl q), fun q => (hJ.1.1.2.2.2) (rl q)⟩⟩⟩, ⟨⟨⟨fun q => (hJ.1.2.1.1.1) (rl q), fun q => (hJ.1.2.1.1.2) (rl q)⟩, ⟨fun q => (hJ.1.2.1.2.1) (rl q), fun q => (hJ.1.2.1.2.2) (rl q)⟩⟩, ⟨⟨fun q => (hJ.1.2.2.1.1) (rl q), fun q => (hJ.1.2.2.1.2) (rl q)⟩, ⟨fun q => (hJ.1.2.2.2.1) (rl q), ⟨fun q => (hJ.1.2.2.2.2.1) (rl q), fun q => (hJ.1.2.2.2.2.2) (rl q)⟩⟩⟩⟩⟩, ⟨⟨⟨⟨fun _ => by first | exact rfl | exact e12, fun _ => rfl⟩, ⟨fun q => (hJ.2.1.1.2.1) (rl q), fun q => (hJ.2.1.1.2.2) (rl q)⟩⟩, ⟨⟨fun q => (hJ.2.1.2.1.1) (rl q), fun q => (hJ.2.1.2.1.2) (rl q)⟩, ⟨fun q => (hJ.2.1.2.2.1) (rl q), ⟨fun q => (hJ.2.1.2.2.2.1) (rl q), fun q => (hJ.2.1.2.2.2.2) (rl q)⟩⟩⟩⟩, ⟨⟨⟨fun q => (hJ.2.2.1.1.1) (rl q), fun q => (hJ.2.2.1.1.2) (rl q)⟩, ⟨fun q => (hJ.2.2.1.2.1) (rl q), fun q => (hJ.2.2.1.2.2) (rl q)⟩⟩, ⟨⟨fun q => (hJ.2.2.2.1.1) (rl q), fun q => (hJ.2.2.2.1.2) (rl q)⟩, ⟨fun q => (hJ.2.2.2.2.1) (rl q), ⟨fun q => (hJ.2.2.2.2.2.1) (rl q), fun q => (hJ.2.2.2.2.2.2) (rl q)⟩⟩⟩⟩⟩⟩
    refine StepsOk.consT (i := 14) 10 61 false rfl rfl (by kernel_rfl) (fun L x G w1 hp hJ => hJ.1.2.2.2.2.1 (hp ⟨10, .guard⟩ (by simp) rfl)) (fun L x G w1 K Q hn hp hJ hK => ?_) ?_
    · skip
      simp only [putAll, Act.put, List.setIfInBounds_toArray, List.set_cons_zero, List.set_cons_succ]
      go_simp
      refine hK _ G _ (by kernel_rfl) ?_
      exact ⟨⟨⟨⟨⟨(hJ.1.1.1.1.1), (hJ.1.1.1.1.2)⟩, ⟨(hJ.1.1.1.2.1), (hJ.1.1.1.2.2)⟩⟩, ⟨⟨(hJ.1.1.2.1.1), fun q => (hJ.1.1.2.1.2) (rl q)⟩, ⟨fun q => (hJ.1.1.2.2.1) (rl q), fun q => (hJ.1.1.2.2.2) (rl q)⟩⟩⟩, ⟨⟨⟨fun q => (hJ.1.2.1.1.1) (rl q), fun q => (hJ.1.2.1.1.2) (rl q)⟩, ⟨fun q => (hJ.1.2.1.2.1) (rl q), fun q => (hJ.1.2.1.2.2) (rl q)⟩⟩, ⟨⟨fun q => (hJ.1.2.2.1.1) (rl q), fun q => (hJ.1.2.2.1.2) (rl q)⟩, ⟨fun q => (hJ.1.2.2.2.1) (rl q), ⟨fun q => (hJ.1.2.2.2.2.1) (rl q), fun q => (hJ.1.2.2.2.2.2) (rl q)⟩⟩⟩⟩⟩, ⟨⟨⟨⟨fun q => (hJ.2.1.1.1.1) (rl q), fun q => (hJ.2.1.1.1.2) (rl q)⟩, ⟨fun _ => rfl, fun q => (hJ.2.1.1.2.2) (rl q)⟩⟩, ⟨⟨fun q => (hJ.2.1.2.1.1) (rl q), fun q => (hJ.2.1.2.1.2) (rl q)⟩, ⟨fun q => (hJ.2.1.2.2.1) (rl q), ⟨fun q => (hJ.2.1.2.2.2.1) (rl q), fun q => (hJ.2.1.2.2.2.2) (rl q)⟩⟩⟩⟩, ⟨⟨⟨fun q => (hJ.2.2.1.1.1) (rl q), fun q => (hJ.2.2.1.1.2) (rl q)⟩, ⟨fun q => (hJ.2.2.1.2.1) (rl q), fun q => (hJ.2.2.1.2.2) (rl q)⟩⟩, ⟨⟨fun q => (hJ.2.2.2.1.1) (rl q), fun q => (hJ.2.2.2.1.2) (rl q)⟩, ⟨fun q => (hJ.2.2.2.2.1) (rl q), ⟨fun q => (hJ.2.2.2.2.2.1) (rl q), fun q => (hJ.2.2.2.2.2.2) (rl q)⟩⟩⟩⟩⟩⟩
    refine StepsOk.consT (i := 15) 10 61 false rfl rfl (by kernel_rfl) (fun L x G w1 hp hJ => hJ.1.2.2.2.2.1 (hp ⟨10, .guard⟩ (by simp) rfl)) (fun L x G w1 K Q hn hp hJ hK => ?_) ?_
    · skip
      have p14 : L 14 := hp ⟨14, .data⟩ (by simp) rfl
      have e14 := (hJ.2.1.1.2.1) p14
      have hc := Blk.open2 ((hJ.1.1.1.2.1))
      have c0 := hc.1
      have c1 := hc.2.1
      have c2 := hc.2.2.1
      have c3 := hc.2.2.2
      clear hc
      simp only [putAll, Act.put, List.setIfInBounds_toArray, List.set_cons_zero, List.set_cons_succ]
      go_simp
      refine hK _ G _ (by kernel_rfl) ?_
      exact ⟨⟨⟨⟨⟨(hJ.1.1.1.1.1), (hJ.1.1.1.1.2)⟩, ⟨(hJ.1.1.1.2.1), (hJ.1.1.1.2.2)⟩⟩, ⟨⟨(hJ.1.1.2.1.1), fun q => (hJ.1.1.2.1.2) (rl q)⟩, ⟨fun q => (hJ.1.1.2.2.1) (rl q), fun q => (hJ.1.1.2.2.2) (rl q)⟩⟩⟩, ⟨⟨⟨fun q => (hJ.1.2.1.1.1) (rl q), fun q => (hJ.1.2.1.1.2) (rl q)⟩, ⟨fun q => (hJ.1.2.1.2.1) (rl q), fun q => (hJ.1.2.1.2.2) (rl q)⟩⟩, ⟨⟨fun q => (hJ.1.2.2.1.1) (rl q), fun q => (hJ.1.2.2.1.2) (rl q)⟩, ⟨fun q => (hJ.1.2.2.2.1) (rl q), ⟨fun q => (hJ.1.2.2.2.2.1) (rl q), fun q => (hJ.1.2.2.2.2.2) (rl q)⟩⟩⟩⟩⟩, ⟨⟨⟨⟨fun q => (hJ.2.1.1.1.1) (rl q), fun q => (hJ.2.1.1.1.2) (rl q)⟩, ⟨fun _ => by first | exact rfl | exact e14, fun _ => rfl⟩⟩, ⟨⟨fun q => (hJ.2.1.2.1.1) (rl q), fun q => (hJ.2.1.2.1.2) (rl q)⟩, ⟨fun q => (hJ.2.1.2.2.1) (rl q), ⟨fun q => (hJ.2.1.2.2.2.1) (rl q), fun q => (hJ.2.1.2.2.2.2) (rl q)⟩⟩⟩⟩, ⟨⟨⟨fun q => (hJ.2.2.1.1.1) (rl q), fun q => (hJ.2.2.1.1.2) (rl q)⟩, ⟨fun q => (hJ.2.2.1.2.1) (rl q), fun q => (hJ.2.2.1.2.2) (rl q)⟩⟩, ⟨⟨fun q => (hJ.2.2.2.1.1) (rl q), fun q => (hJ.2.2.2.1.2) (rl q)⟩, ⟨fun q => (hJ.2.2.2.2.1) (rl q), ⟨fun q => (hJ.2.2.2.2.2.1) (rl q), fun q => (hJ.2.2.2.2.2.2) (rl q)⟩⟩⟩⟩⟩⟩
    refine StepsOk.consT (i := 16) 10 61 false rfl rfl (by kernel_rfl) (fun L x G w1 hp hJ => hJ.1.2.2.2.2.1 (hp ⟨10, .guard⟩ (by simp) rfl)) (fun L x G w1 K Q hn hp hJ hK => ?_) ?_
    · skip
      have p15 : L 15 := hp ⟨15, .data⟩ (by simp) rfl
      have e15 := (hJ.2.1.1.2.2) p15
      simp only [putAll, Act.put, List.setIfInBounds_toArray, List.set_cons_zero, List.set_cons_succ]
      go_simp
      refine (KN2 _).mono ?_
      rintro e w2 ⟨rfl, hb⟩
      have hz := hb.size
      try go_simp
      refine hK _ G _ (by kernel_rfl) ?_
      exact ⟨⟨⟨⟨⟨bt (hJ.1.1.1.1.1) hb, Nat.lt_of_lt_of_le (hJ.1.1.1.1.2) hb.size⟩, ⟨Blk.keep ((hJ.1.1.1.2.1)) hb, Nat.lt_of_lt_of_le (hJ.1.1.1.2.2) hb.size⟩⟩, ⟨⟨Blk.keep ((hJ.1.1.2.1.1)) hb, fun q => (hJ.1.1.2.1.2) (rl q)⟩, ⟨fun q => (hJ.1.1.2.2.1) (rl q), fun q => (hJ.1.1.2.2.2) (rl q)⟩⟩⟩, ⟨⟨⟨fun q => (hJ.1.2.1.1.1) (rl q), fun q => (hJ.1.2.1.1.2) (rl q)⟩, ⟨fun q => (hJ.1.2.1.2.1) (rl q), fun q => (hJ.1.2.1.2.2) (rl q)⟩⟩, ⟨⟨fun q => (hJ.1.2.2.1.1) (rl q), fun q => (hJ.1.2.2.1.2) (rl q)⟩, ⟨fun q => (hJ.1.2.2.2.1) (rl q), ⟨fun q => (hJ.1.2.2.2.2.1) (rl q), fun q => (hJ.1.2.2.2.2.2) (rl q)⟩⟩⟩⟩⟩, ⟨⟨⟨⟨fun q => (hJ.2.1.1.1.1) (rl q), fun q => (hJ.2.1.1.1.2) (rl q)⟩, ⟨fun q => (hJ.2.1.1.2.1) (rl q), fun _ => by first | exact rfl | exact e15⟩⟩, ⟨⟨fun _ => rfl, fun q => (hJ.2.1.2.1.2) (rl q)⟩, ⟨fun q => (hJ.2.1.2.2.1) (rl q), ⟨fun q => (hJ.2.1.2.2.2.1) (rl q), fun q => (hJ.2.1.2.2.2.2) (rl q)⟩⟩⟩⟩, ⟨⟨⟨fun q => (hJ.2.2.1.1.1) (rl q), fun q => (hJ.2.2.1.1.2) (rl q)⟩, ⟨fun q => (hJ.2.2.1.2.1) (rl q), fun q => (hJ.2.2.1.2.2) (rl q)⟩⟩, ⟨⟨fun q => (hJ.2.2.2.1.1) (rl q), fun q => (hJ.2.2.2.1.2) (rl q)⟩, ⟨fun q => (hJ.2.2.2.2.1) (rl q), ⟨fun q => (hJ.2.2.2.2.2.1) (rl q), fun q => (hJ.2.2.2.2.2.2) (rl q)⟩⟩⟩⟩⟩⟩
    refine StepsOk.consT (i := 17) 10 61 false rfl rfl (by kernel_rfl) (fun L x G w1 hp hJ => hJ.1.2.2.2.2.1 (hp ⟨10, .guard⟩ (by simp) rfl)) (fun L x G w1 K Q hn hp hJ hK => ?_) ?_
    · skip
      have p13 : L 13 := hp ⟨13, .data⟩ (by simp) rfl
      have e13 := (hJ.2.1.1.1.2) p13
      have p16 : L 16 := hp ⟨16, .data⟩ (by simp) rfl
      have e16 := (hJ.2.1.2.1.1) p16
      simp only [putAll, Act.put, List.setIfInBounds_toArray, List.set_cons_zero, List.set_cons_succ]
      go_simp
      refine hK _ G _ (by kernel_rfl) ?_
      exact ⟨⟨⟨⟨⟨(hJ.1.1.1.1.1), (hJ.1.1.1.1.2)⟩, ⟨(hJ.1.1.1.2.1), (hJ.1.1.1.2.2)⟩⟩, ⟨⟨(hJ.1.1.2.1.1), fun q => (hJ.1.1.2.1.2) (rl q)⟩, ⟨fun q => (hJ.1.1.2.2.1) (rl q), fun q => (hJ.1.1.2.2.2) (rl q)⟩⟩⟩, ⟨⟨⟨fun q => (hJ.1.2.1.1.1) (rl q), fun q => (hJ.1.2.1.1.2) (rl q)⟩, ⟨fun q => (hJ.1.2.1.2.1) (rl q), fun q => (hJ.1.2.1.2.2) (rl q)⟩⟩, ⟨⟨fun q => (hJ.1.2.2.1.1) (rl q), fun q => (hJ.1.2.2.1.2) (rl q)⟩, ⟨fun q => (hJ.1.2.2.2.1) (rl q), ⟨fun q => (hJ.1.2.2.2.2.1) (rl q), fun q => (hJ.1.2.2.2.2.2) (rl q)⟩⟩⟩⟩⟩, ⟨⟨⟨⟨fun q => (hJ.2.1.1.1.1) (rl q), fun _ => by first | exact rfl | exact e13⟩, ⟨fun q => (hJ.2.1.1.2.1) (rl q), fun q => (hJ.2.1.1.2.2) (rl q)⟩⟩, ⟨⟨fun _ => by first | exact rfl | exact e16, fun _ => rfl⟩, ⟨fun q => (hJ.2.1.2.2.1) (rl q), ⟨fun q => (hJ.2.1.2.2.2.1) (rl q), fun q => (hJ.2.1.2.2.2.2) (rl q)⟩⟩⟩⟩, ⟨⟨⟨fun q => (hJ.2.2.1.1.1) (rl q), fun q => (hJ.2.2.1.1.2) (rl q)⟩, ⟨fun q => (hJ.2.2.1.2.1) (rl q), fun q => (hJ.2.2.1.2.2) (rl q)⟩⟩, ⟨⟨fun q => (hJ.2.2.2.1.1) (rl q), fun q => (hJ.2.2.2.1.2) (rl q)⟩, ⟨fun q => (hJ.2.2.2.2.1) (rl q), ⟨fun q => (hJ.2.2.2.2.2.1) (rl q), fun q => (hJ.2.2.2.2.2.2) (rl q)⟩⟩⟩⟩⟩⟩
    refine StepsOk.consT (i := 18) 10 61 false rfl rfl (by kernel_rfl) (fun L x G w1 hp hJ => hJ.1.2.2.2.2.1 (hp ⟨10, .guard⟩ (by simp) rfl)) (fun L x G w1 K Q hn hp hJ hK => ?_) ?_
    · skip
      have p17 : L 17 := hp ⟨17, .data⟩ (by simp) rfl
      have e17 := (hJ.2.1.2.1.2) p17
      simp only [putAll, Act.put, List.setIfInBounds_toArray, List.set_cons_zero, List.set_cons_succ]
      go_simp
      refine hK _ G _ (by kernel_rfl) ?_
      exact ⟨⟨⟨⟨⟨(hJ.1.1.1.1.1), (hJ.1.1.1.1.2)⟩, ⟨(hJ.1.1.1.2.1), (hJ.1.1.1.2.2)⟩⟩, ⟨⟨(hJ.1.1.2.1.1), fun q => (hJ.1.1.2.1.2) (rl q)⟩, ⟨fun q => (hJ.1.1.2.2.1) (rl q), fun q => (hJ.1.1.2.2.2) (rl q)⟩⟩⟩, ⟨⟨⟨fun q => (hJ.1.2.1.1.1) (rl q), fun q => (hJ.1.2.1.1.2) (rl q)⟩, ⟨fun q => (hJ.1.2.1.2.1) (rl q), fun q => (hJ.1.2.1.2.2) (rl q)⟩⟩, ⟨⟨fun q => (hJ.1.2.2.1.1) (rl q), fun q => (hJ.1.2.2.1.2) (rl q)⟩, ⟨fun q => (hJ.1.2.2.2.1) (rl q), ⟨fun q => (hJ.1.2.2.2.2.1) (rl q), fun q => (hJ.1.2.2.2.2.2) (rl q)⟩⟩⟩⟩⟩, ⟨⟨⟨⟨fun q => (hJ.2.1.1.1.1) (rl q), fun q => (hJ.2.1.1.1.2) (rl q)⟩, ⟨fun q => (hJ.2.1.1.2.1) (rl q), fun q => (hJ.2.1.1.2.2) (rl q)⟩⟩, ⟨⟨fun q => (hJ.2.1.2.1.1) (rl q), fun _ => by first | exact rfl | exact e17⟩, ⟨fun _ => rfl, ⟨fun q => (hJ.2.1.2.2.2.1) (rl q), fun q => (hJ.2.1.2.2.2.2) (rl q)⟩⟩⟩⟩, ⟨⟨⟨fun q => (hJ.2.2.1.1.1) (rl q), fun q => (hJ.2.2.1.1.2) (rl q)⟩, ⟨fun q => (hJ.2.2.1.2.1) (rl q), fun q => (hJ.2.2.1.2.2) (rl q)⟩⟩, ⟨⟨fun q => (hJ.2.2.2.1.1) (rl q), fun q => (hJ.2.2.2.1.2) (rl q)⟩, ⟨fun q => (hJ.2.2.2.2.1) (rl q), ⟨fun q => (hJ.2.2.2.2.2.1) (rl q), fun q => (hJ.2.2.2.2.2.2) (rl q)⟩⟩⟩⟩⟩⟩
    refine StepsOk.cons (i := 19) rfl (fun L x G w1 K Q hn hp hJ hK => ?_) ?_
    · skip
      have p10 : L 10 := hp ⟨10, .data⟩ (by simp) rfl
      have e10 := (hJ.1.2.2.2.2.1) p10
      have p18 : L 18 := hp ⟨18, .data⟩ (by simp) rfl
      have e18 := (hJ.2.1.2.2.1) p18
      simp only [putAll, Act.put, List.setIfInBounds_toArray, List.set_cons_zero, List.set_cons_succ]
      go_simp
      refine hK _ G _ (by kernel_rfl) ?_
      exact ⟨⟨⟨⟨⟨(hJ.1.1.1.1.1), (hJ.1.1.1.1.2)⟩, ⟨(hJ.1.1.1.2.1), (hJ.1.1.1.2.2)⟩⟩, ⟨⟨(hJ.1.1.2.1.1), fun q => (hJ.1.1.2.1.2) (rl q)⟩, ⟨fun q => (hJ.1.1.2.2.1) (rl q), fun q => (hJ.1.1.2.2.2) (rl q)⟩⟩⟩, ⟨⟨⟨fun q => (hJ.1.2.1.1.1) (rl q), fun q => (hJ.1.2.1.1.2) (rl q)⟩, ⟨fun q => (hJ.1.2.1.2.1) (rl q), fun q => (hJ.1.2.1.2.2) (rl q)⟩⟩, ⟨⟨fun q => (hJ.1.2.2.1.1) (rl q), fun q => (hJ.1.2.2.1.2) (rl q)⟩, ⟨fun q => (hJ.1.2.2.2.1) (rl q), ⟨fun _ => by first | exact rfl | exact e10, fun q => (hJ.1.2.2.2.2.2) (rl q)⟩⟩⟩⟩⟩, ⟨⟨⟨⟨fun q => (hJ.2.1.1.1.1) (rl q), fun q => (hJ.2.1.1.1.2) (rl q)⟩, ⟨fun q => (hJ.2.1.1.2.1) (rl q), fun q => (hJ.2.1.1.2.2) (rl q)⟩⟩, ⟨⟨fun q => (hJ.2.1.2.1.1) (rl q), fun q => (hJ.2.1.2.1.2) (rl q)⟩, ⟨fun _ => by first | exact rfl | exact e18, ⟨fun _ => rfl, fun q => (hJ.2.1.2.2.2.2) (rl q)⟩⟩⟩⟩, ⟨⟨⟨fun q => (hJ.2.2.1.1.1) (rl q), fun q => (hJ.2.2.1.1.2) (rl q)⟩, ⟨fun q => (hJ.2.2.1.2.1) (rl q), fun q => (hJ.2.2.1.2.2) (rl q)⟩⟩, ⟨⟨fun q => (hJ.2.2.2.1.1) (rl q), fun q => (hJ.2.2.2.1.2) (rl q)⟩, ⟨fun q => (hJ.2.2.2.2.1) (rl q), ⟨fun q => (hJ.2.2.2.2.2.1) (rl q), fun q => (hJ.2.2.2.2.2.2) (rl q)⟩⟩⟩⟩⟩⟩
    refine StepsOk.cons (i := 20) rfl (fun L x G w1 K Q hn hp hJ hK => ?_) ?_
    · skip
      have p19 : L 19 := hp ⟨19, .data⟩ (by simp) rfl
      have e19 := (hJ.2.1.2.2.2.1) p19
      simp only [putAll, Act.put, List.setIfInBounds_toArray, List.set_cons_zero, List.set_cons_succ]
      go_simp
      refine hK _ G _ (by kernel_rfl) ?_
      exact ⟨⟨⟨⟨⟨(hJ.1.1.1.1.1), (hJ.1.1.1.1.2)⟩, ⟨(hJ.1.1.1.2.1), (hJ.1.1.1.2.2)⟩⟩, ⟨⟨(hJ.1.1.2.1.1), fun q => (hJ.1.1.2.1.2) (rl q)⟩, ⟨fun q => (hJ.1.1.2.2.1) (rl q), fun q => (hJ.1.1.2.2.2) (rl q)⟩⟩⟩, ⟨⟨⟨fun q => (hJ.1.2.1.1.1) (rl q), fun q => (hJ.1.2.1.1.2) (rl q)⟩, ⟨fun q => (hJ.1.2.1.2.1) (rl q), fun q => (hJ.1.2.1.2.2) (rl q)⟩⟩, ⟨⟨fun q => (hJ.1.2.2.1.1) (rl q), fun q => (hJ.1.2.2.1.2) (rl q)⟩, ⟨fun q => (hJ.1.2.2.2.1) (rl q), ⟨fun q => (hJ.1.2.2.2.2.1) (rl q), fun q => (hJ.1.2.2.2.2.2) (rl q)⟩⟩⟩⟩⟩, ⟨⟨⟨⟨fun q => (hJ.2.1.1.1.1) (rl q), fun q => (hJ.2.1.1.1.2) (rl q)⟩, ⟨fun q => (hJ.2.1.1.2.1) (rl q), fun q => (hJ.2.1.1.2.2) (rl q)⟩⟩, ⟨⟨fun q => (hJ.2.1.2.1.1) (rl q), fun q => (hJ.2.1.2.1.2) (rl q)⟩, ⟨fun q => (hJ.2.1.2.2.1) (rl q), ⟨fun _ => by first | exact rfl | exact e19, fun _ => rfl⟩⟩⟩⟩, ⟨⟨⟨fun q => (hJ.2.2.1.1.1) (rl q), fun q => (hJ.2.2.1.1.2) (rl q)⟩, ⟨fun q => (hJ.2.2.1.2.1) (rl q), fun q => (hJ.2.2.1.2.2) (rl q)⟩⟩, ⟨⟨fun q => (hJ.2.2.2.1.1) (rl q), fun q => (hJ.2.2.2.1.2) (rl q)⟩, ⟨fun q => (hJ.2.2.2.2.1) (rl q), ⟨fun q => (hJ.2.2.2.2.2.1) (rl q), fun q => (hJ.2.2.2.2.2.2) (rl q)⟩⟩⟩⟩⟩⟩
    refine StepsOk.consT (i := 21) 20 71 false rfl rfl (by kernel_rfl) (fun L x G w1 hp hJ => hJ.2.1.2.2.2.2 (hp ⟨20, .guard⟩ (by simp) rfl)) (fun L x G w1 K Q hn hp hJ hK => ?_) ?_
    · skip
      simp only [putAll, Act.put, List.setIfInBounds_toArray, List.set_cons_zero, List.set_cons_succ]
      go_simp
      refine hK _ G _ (by kernel_rfl) ?_
      exact ⟨⟨⟨⟨⟨(hJ.1.1.1.1.1), (hJ.1.1.1.1.2)⟩, ⟨(hJ.1.1.1.2.1), (hJ.1.1.1.2.2)⟩⟩, ⟨⟨(hJ.1.1.2.1.1), fun q => (hJ.1.1.2.1.2) (rl q)⟩, ⟨fun q => (hJ.1.1.2.2.1) (rl q), fun q => (hJ.1.1.2.2.2) (rl q)⟩⟩⟩, ⟨⟨⟨fun q => (hJ.1.2.1.1.1) (rl q), fun q => (hJ.1.2.1.1.2) (rl q)⟩, ⟨fun q => (hJ.1.2.1.2.1) (rl q), fun q => (hJ.1.2.1.2.2) (rl q)⟩⟩, ⟨⟨fun q => (hJ.1.2.2.1.1) (rl q), fun q => (hJ.1.2.2.1.2) (rl q)⟩, ⟨fun q => (hJ.1.2.2.2.1) (rl q), ⟨fun q => (hJ.1.2.2.2.2.1) (rl q), fun q => (hJ.1.2.2.2.2.2) (rl q)⟩⟩⟩⟩⟩, ⟨⟨⟨⟨fun q => (hJ.2.1.1.1.1) (rl q), fun q => (hJ.2.1.1.1.2) (rl q)⟩, ⟨fun q => (hJ.2.1.1.2.1) (rl q), fun q => (hJ.2.1.1.2.2) (rl q)⟩⟩, ⟨⟨fun q => (hJ.2.1.2.1.1) (rl q), fun q => (hJ.2.1.2.1.2) (rl q)⟩, ⟨fun q => (hJ.2.1.2.2.1) (rl q), ⟨fun q => (hJ.2.1.2.2.2.1) (rl q), fun q => (hJ.2.1.2.2.2.2) (rl q)⟩⟩⟩⟩, ⟨⟨⟨fun _ => rfl, fun q => (hJ.2.2.1.1.2) (rl q)⟩, ⟨fun q => (hJ.2.2.1.2.1) (rl q), fun q => (hJ.2.2.1.2.2) (rl q)⟩⟩, ⟨⟨fun q => (hJ.2.2.2.1.1) (rl q), fun q => (hJ.2.2.2.1.2) (rl q)⟩, ⟨fun q => (hJ.2.2.2.2.1) (rl q), ⟨fun q => (hJ.2.2.2.2.2.1) (rl q), fun q => (hJ.2.2.2.2.2.2) (rl q)⟩⟩⟩⟩⟩⟩
    refine StepsOk.consT (i := 22) 20 71 false rfl rfl (by kernel_rfl) (fun L x G w1 hp hJ => hJ.2.1.2.2.2.2 (hp ⟨20, .guard⟩ (by simp) rfl)) (fun L x G w1 K Q hn hp hJ hK => ?_) ?_
    · skip
      have p21 : L 21 := hp ⟨21, .data⟩ (by simp) rfl
      have e21 := (hJ.2.2.1.1.1) p21
      have hc := Blk.open2 ((hJ.1.1.1.2.1))
      have c0 := hc.1
      have c1 := hc.2.1
      have c2 := hc.2.2.1
      have c3 := hc.2.2.2
      clear hc
      simp only [putAll, Act.put, List.setIfInBounds_toArray, List.set_cons_zero, List.set_cons_succ]
      go_simp
      refine hK _ G _ (by kernel_rfl) ?_
      exact ⟨⟨⟨⟨⟨(hJ.1.1.1.1.1), (hJ.1.1.1.1.2)⟩, ⟨(hJ.1.1.1.2.1), (hJ.1.1.1.2.2)⟩⟩, ⟨⟨(hJ.1.1.2.1.1), fun q => (hJ.1.1.2.1.2) (rl q)⟩, ⟨fun q => (hJ.1.1.2.2.1) (rl q), fun q => (hJ.1.1.2.2.2) (rl q)⟩⟩⟩, ⟨⟨⟨fun q => (hJ.1.2.1.1.1) (rl q), fun q => (hJ.1.2.1.1.2) (rl q)⟩, ⟨fun q => (hJ.1.2.1.2.1) (rl q), fun q => (hJ.1.2.1.2.2) (rl q)⟩⟩, ⟨⟨fun q => (hJ.1.2.2.1.1) (rl q), fun q => (hJ.1.2.2.1.2) (rl q)⟩, ⟨fun q => (hJ.1.2.2.2.1) (rl q), ⟨fun q => (hJ.1.2.2.2.2.1) (rl q), fun q => (hJ.1.2.2.2.2.2) (rl q)⟩⟩⟩⟩⟩, ⟨⟨⟨⟨fun q => (hJ.2.1.1.1.1) (rl q), fun q => (hJ.2.1.1.1.2) (rl q)⟩, ⟨fun q => (hJ.2.1.1.2.1) (rl q), fun q => (hJ.2.1.1.2.2) (rl q)⟩⟩, ⟨⟨fun q => (hJ.2.1.2.1.1) (rl q), fun q => (hJ.2.1.2.1.2) (rl q)⟩, ⟨fun q => (hJ.2.1.2.2.1) (rl q), ⟨fun q => (hJ.2.1.2.2.2.1) (rl q), fun q => (hJ.2.1.2.2.2.2) (rl q)⟩⟩⟩⟩, ⟨⟨⟨fun _ => by first | exact rfl | exact e21, fun _ => rfl⟩, ⟨fun q => (hJ.2.2.1.2.1) (rl q), fun q => (hJ.2.2.1.2.2) (rl q)⟩⟩, ⟨⟨fun q => (hJ.2.2.2.1.1) (rl q), fun q => (hJ.2.2.2.1.2) (rl q)⟩, ⟨fun q => (hJ.2.2.2.2.1) (rl q), ⟨fun q => (hJ.2.2.2.2.2.1) (rl q), fun q => (hJ.2.2.2.2.2.2) (rl q)⟩⟩⟩⟩⟩⟩
    refine StepsOk.consT (i := 23) 20 71 false rfl rfl (by kernel_rfl) (fun L x G w1 hp hJ => hJ.2.1.2.2.2.2 (hp ⟨20, .guard⟩ (by simp) rfl)) (fun L x G w1 K Q hn hp hJ hK => ?_) ?_
    · skip
      have p22 : L 22 := hp ⟨22, .data⟩ (by simp) rfl
      have e22 := (hJ.2.2.1.1.2) p22
      simp only [putAll, Act.put, List.setIfInBounds_toArray, List.set_cons_zero, List.set_cons_succ]
      go_simp
      refine hK _ G _ (by kernel_rfl) ?_
      exact ⟨⟨⟨⟨⟨(hJ.1.1.1.1.1), (hJ.1.1.1.1.2)⟩, ⟨(hJ.1.1.1.2.1), (hJ.1.1.1.2.2)⟩⟩, ⟨⟨(hJ.1.1.2.1.1), fun q => (hJ.1.1.2.1.2) (rl q)⟩, ⟨fun q => (hJ.1.1.2.2.1) (rl q), fun q => (hJ.1.1.2.2.2) (rl q)⟩⟩⟩, ⟨⟨⟨fun q => (hJ.1.2.1.1.1) (rl q), fun q => (hJ.1.2.1.1.2) (rl q)⟩, ⟨fun q => (hJ.1.2.1.2.1) (rl q), fun q => (hJ.1.2.1.2.2) (rl q)⟩⟩, ⟨⟨fun q => (hJ.1.2.2.1.1) (rl q), fun q => (hJ.1.2.2.1.2) (rl q)⟩, ⟨fun q => (hJ.1.2.2.2.1) (rl q), ⟨fun q => (hJ.1.2.2.2.2.1) (rl q), fun q => (hJ.1.2.2.2.2.2) (rl q)⟩⟩⟩⟩⟩, ⟨⟨⟨⟨fun q => (hJ.2.1.1.1.1) (rl q), fun q => (hJ.2.1.1.1.2) (rl q)⟩, ⟨fun q => (hJ.2.1.1.2.1) (rl q), fun q => (hJ.2.1.1.2.2) (rl q)⟩⟩, ⟨⟨fun q => (hJ.2.1.2.1.1) (rl q), fun q => (hJ.2.1.2.1.2) (rl q)⟩, ⟨fun q => (hJ.2.1.2.2.1) (rl q), ⟨fun q => (hJ.2.1.2.2.2.1) (rl q), fun q => (hJ.2.1.2.2.2.2) (rl q)⟩⟩⟩⟩, ⟨⟨⟨fun q => (hJ.2.2.1.1.1) (rl q), fun _ => by first | exact rfl | exact e22⟩, ⟨fun _ => rfl, fun q => (hJ.2.2.1.2.2) (rl q)⟩⟩, ⟨⟨fun q => (hJ.2.2.2.1.1) (rl q), fun q => (hJ.2.2.2.1.2) (rl q)⟩, ⟨fun q => (hJ.2.2.2.2.1) (rl q), ⟨fun q => (hJ.2.2.2.2.2.1) (rl q), fun q => (hJ.2.2.2.2.2.2) (rl q)⟩⟩⟩⟩⟩⟩
    refine StepsOk.cons (i := 24) rfl (fun L x G w1 K Q hn hp hJ hK => ?_) ?_
    · skip
      have p20 : L 20 := hp ⟨20, .data⟩ (by simp) rfl
      have e20 := (hJ.2.1.2.2.2.2) p20
      have p23 : L 23 := hp ⟨23, .data⟩ (by simp) rfl
      have e23 := (hJ.2.2.1.2.1) p23
      simp only [putAll, Act.put, List.setIfInBounds_toArray, List.set_cons_zero, List.set_cons_succ]
      go_simp
      refine hK _ G _ (by kernel_rfl) ?_
      exact ⟨⟨⟨⟨⟨(hJ.1.1.1.1.1), (hJ.1.1.1.1.2)⟩, ⟨(hJ.1.1.1.2.1), (hJ.1.1.1.2.2)⟩⟩, ⟨⟨(hJ.1.1.2.1.1), fun q => (hJ.1.1.2.1.2) (rl q)⟩, ⟨fun q => (hJ.1.1.2.2.1) (rl q), fun q => (hJ.1.1.2.2.2) (rl q)⟩⟩⟩, ⟨⟨⟨fun q => (hJ.1.2.1.1.1) (rl q), fun q => (hJ.1.2.1.1.2) (rl q)⟩, ⟨fun q => (hJ.1.2.1.2.1) (rl q), fun q => (hJ.1.2.1.2.2) (rl q)⟩⟩, ⟨⟨fun q => (hJ.1.2.2.1.1) (rl q), fun q => (hJ.1.2.2.1.2) (rl q)⟩, ⟨fun q => (hJ.1.2.2.2.1) (rl q), ⟨fun q => (hJ.1.2.2.2.2.1) (rl q), fun q => (hJ.1.2.2.2.2.2) (rl q)⟩⟩⟩⟩⟩, ⟨⟨⟨⟨fun q => (hJ.2.1.1.1.1) (rl q), fun q => (hJ.2.1.1.1.2) (rl q)⟩, ⟨fun q => (hJ.2.1.1.2.1) (rl q), fun q => (hJ.2.1.1.2.2) (rl q)⟩⟩, ⟨⟨fun q => (hJ.2.1.2.1.1) (rl q), fun q => (hJ.2.1.2.1.2) (rl q)⟩, ⟨fun q => (hJ.2.1.2.2.1) (rl q), ⟨fun q => (hJ.2.1.2.2.2.1) (rl q), fun _ => by first | exact rfl | exact e20⟩⟩⟩⟩, ⟨⟨⟨fun q => (hJ.2.2.1.1.1) (rl q), fun q => (hJ.2.2.1.1.2) (rl q)⟩, ⟨fun _ => by first | exact rfl | exact e23, fun _ => rfl⟩⟩, ⟨⟨fun q => (hJ.2.2.2.1.1) (rl q), fun q => (hJ.2.2.2.1.2) (rl q)⟩, ⟨fun q => (hJ.2.2.2.2.1) (rl q), ⟨fun q => (hJ.2.2.2.2.2.1) (rl q), fun q => (hJ.2.2.2.2.2.2) (rl q)⟩⟩⟩⟩⟩⟩
    refine StepsOk.cons (i := 25) rfl (fun L x G w1 K Q hn hp hJ hK => ?_) ?_
    · skip
      have p24 : L 24 := hp ⟨24, .data⟩ (by simp) rfl
      have e24 := (hJ.2.2.1.2.2) p24
      simp only [putAll, Act.put, List.setIfInBounds_toArray, List.set_cons_zero, List.set_cons_succ]
      go_simp
      refine hK _ G _ (by kernel_rfl) ?_
      exact ⟨⟨⟨⟨⟨(hJ.1.1.1.1.1), (hJ.1.1.1.1.2)⟩, ⟨(hJ.1.1.1.2.1), (hJ.1.1.1.2.2)⟩⟩, ⟨⟨(hJ.1.1.2.1.1), fun q => (hJ.1.1.2.1.2) (rl q)⟩, ⟨fun q => (hJ.1.1.2.2.1) (rl q), fun q => (hJ.1.1.2.2.2) (rl q)⟩⟩⟩, ⟨⟨⟨fun q => (hJ.1.2.1.1.1) (rl q), fun q => (hJ.1.2.1.1.2) (rl q)⟩, ⟨fun q => (hJ.1.2.1.2.1) (rl q), fun q => (hJ.1.2.1.2.2) (rl q)⟩⟩, ⟨⟨fun q => (hJ.1.2.2.1.1) (rl q), fun q => (hJ.1.2.2.1.2) (rl q)⟩, ⟨fun q => (hJ.1.2.2.2.1) (rl q), ⟨fun q => (hJ.1.2.2.2.2.1) (rl q), fun q => (hJ.1.2.2.2.2.2) (rl q)⟩⟩⟩⟩⟩, ⟨⟨⟨⟨fun q => (hJ.2.1.1.1.1) (rl q), fun q => (hJ.2.1.1.1.2) (rl q)⟩, ⟨fun q => (hJ.2.1.1.2.1) (rl q), fun q => (hJ.2.1.1.2.2) (rl q)⟩⟩, ⟨⟨fun q => (hJ.2.1.2.1.1) (rl q), fun q => (hJ.2.1.2.1.2) (rl q)⟩, ⟨fun q => (hJ.2.1.2.2.1) (rl q), ⟨fun q => (hJ.2.1.2.2.2.1) (rl q), fun q => (hJ.2.1.2.2.2.2) (rl q)⟩⟩⟩⟩, ⟨⟨⟨fun q => (hJ.2.2.1.1.1) (rl q), fun q => (hJ.2.2.1.1.2) (rl q)⟩, ⟨fun q => (hJ.2.2.1.2.1) (rl q), fun _ => by first | exact rfl | exact e24⟩⟩, ⟨⟨fun _ => rfl, fun q => (hJ.2.2.2.1.2) (rl q)⟩, ⟨fun q => (hJ.2.2.2.2.1) (rl q), ⟨fun q => (hJ.2.2.2.2.2.1) (rl q), fun q => (hJ.2.2.2.2.2.2) (rl q)⟩⟩⟩⟩⟩⟩
    refine StepsOk.consT (i := 26) 25 76 false rfl rfl (by kernel_rfl) (fun L x G w1 hp hJ => hJ.2.2.2.1.1 (hp ⟨25, .guard⟩ (by simp) rfl)) (fun L x G w1 K Q hn hp hJ hK => ?_) ?_
    · skip
      simp only [putAll, Act.put, List.setIfInBounds_toArray, List.set_cons_zero, List.set_cons_succ]
      go_simp
      refine hK _ G _ (by kernel_rfl) ?_
      exact ⟨⟨⟨⟨⟨(hJ.1.1.1.1.1), (hJ.1.1.1.1.2)⟩, ⟨(hJ.1.1.1.2.1), (hJ.1.1.1.2.2)⟩⟩, ⟨⟨(hJ.1.1.2.1.1), fun q => (hJ.1.1.2.1.2) (rl q)⟩, ⟨fun q => (hJ.1.1.2.2.1) (rl q), fun q => (hJ.1.1.2.2.2) (rl q)⟩⟩⟩, ⟨⟨⟨fun q => (hJ.1.2.1.1.1) (rl q), fun q => (hJ.1.2.1.1.2) (rl q)⟩, ⟨fun q => (hJ.1.2.1.2.1) (rl q), fun q => (hJ.1.2.1.2.2) (rl q)⟩⟩, ⟨⟨fun q => (hJ.1.2.2.1.1) (rl q), fun q => (hJ.1.2.2.1.2) (rl q)⟩, ⟨fun q => (hJ.1.2.2.2.1) (rl q), ⟨fun q => (hJ.1.2.2.2.2.1) (rl q), fun q => (hJ.1.2.2.2.2.2) (rl q)⟩⟩⟩⟩⟩, ⟨⟨⟨⟨fun q => (hJ.2.1.1.1.1) (rl q), fun q => (hJ.2.1.1.1.2) (rl q)⟩, ⟨fun q => (hJ.2.1.1.2.1) (rl q), fun q => (hJ.2.1.1.2.2) (rl q)⟩⟩, ⟨⟨fun q => (hJ.2.1.2.1.1) (rl q), fun q => (hJ.2.1.2.1.2) (rl q)⟩, ⟨fun q => (hJ.2.1.2.2.1) (rl q), ⟨fun q => (hJ.2.1.2.2.2.1) (rl q), fun q => (hJ.2.1.2.2.2.2) (rl q)⟩⟩⟩⟩, ⟨⟨⟨fun q => (hJ.2.2.1.1.1) (rl q), fun q => (hJ.2.2.1.1.2) (rl q)⟩, ⟨fun q => (hJ.2.2.1.2.1) (rl q), fun q => (hJ.2.2.1.2.2) (rl q)⟩⟩, ⟨⟨fun q => (hJ.2.2.2.1.1) (rl q), fun _ => rfl⟩, ⟨fun q => (hJ.2.2.2.2.1) (rl q), ⟨fun q => (hJ.2.2.2.2.2.1) (rl q), fun q => (hJ.2.2.2.2.2.2) (rl q)⟩⟩⟩⟩⟩⟩
    refine StepsOk.consT (i := 27) 25 76 false rfl rfl (by kernel_rfl) (fun L x G w1 hp hJ => hJ.2.2.2.1.1 (hp ⟨25, .guard⟩ (by simp) rfl)) (fun L x G w1 K Q hn hp hJ hK => ?_) ?_
    · skip
      have p26 : L 26 := hp ⟨26, .data⟩ (by simp) rfl
      have e26 := (hJ.2.2.2.1.2) p26
      have hc := Blk.open2 ((hJ.1.1.1.2.1))
      have c0 := hc.1
      have c1 := hc.2.1
      have c2 := hc.2.2.1
      have c3 := hc.2.2.2
      clear hc
      simp only [putAll, Act.put, List.setIfInBounds_toArray, List.set_cons_zero, List.set_cons_succ]
      go_simp
      refine hK _ G _ (by kernel_rfl) ?_
      exact ⟨⟨⟨⟨⟨(hJ.1.1.1.1.1), (hJ.1.1.1.1.2)⟩, ⟨(hJ.1.1.1.2.1), (hJ.1.1.1.2.2)⟩⟩, ⟨⟨(hJ.1.1.2.1.1), fun q => (hJ.1.1.2.1.2) (rl q)⟩, ⟨fun q => (hJ.1.1.2.2.1) (rl q), fun q => (hJ.1.1.2.2.2) (rl q)⟩⟩⟩, ⟨⟨⟨fun q => (hJ.1.2.1.1.1) (rl q), fun q => (hJ.1.2.1.1.2) (rl q)⟩, ⟨fun q => (hJ.1.2.1.2.1) (rl q), fun q => (hJ.1.2.1.2.2) (rl q)⟩⟩, ⟨⟨fun q => (hJ.1.2.2.1.1) (rl q), fun q => (hJ.1.2.2.1.2) (rl q)⟩, ⟨fun q => (hJ.1.2.2.2.1) (rl q), ⟨fun q => (hJ.1.2.2.2.2.1) (rl q), fun q => (hJ.1.2.2.2.2.2) (rl q)⟩⟩⟩⟩⟩, ⟨⟨⟨⟨fun q => (hJ.2.1.1.1.1) (rl q), fun q => (hJ.2.1.1.1.2) (rl q)⟩, ⟨fun q => (hJ.2.1.1.2.1) (rl q), fun q => (hJ.2.1.1.2.2) (rl q)⟩⟩, ⟨⟨fun q => (hJ.2.1.2.1.1) (rl q), fun q => (hJ.2.1.2.1.2) (rl q)⟩, ⟨fun q => (hJ.2.1.2.2.1) (rl q), ⟨fun q => (hJ.2.1.2.2.2.1) (rl q), fun q => (hJ.2.1.2.2.2.2) (rl q)⟩⟩⟩⟩, ⟨⟨⟨fun q => (hJ.2.2.1.1.1) (rl q), fun q => (hJ.2.2.1.1.2) (rl q)⟩, ⟨fun q => (hJ.2.2.1.2.1) (rl q), fun q => (hJ.2.2.1.2.2) (rl q)⟩⟩, ⟨⟨fun q => (hJ.2.2.2.1.1) (rl q), fun _ => by first | exact rfl | exact e26⟩, ⟨fun _ => rfl, ⟨fun q => (hJ.2.2.2.2.2.1) (rl q), fun q => (hJ.2.2.2.2.2.2) (rl q)⟩⟩⟩⟩⟩⟩
    refine StepsOk.consT (i := 28) 25 76 false rfl rfl (by kernel_rfl) (fun L x G w1 hp hJ => hJ.2.2.2.1.1 (hp ⟨25, .guard⟩ (by simp) rfl)) (fun L x G w1 K Q hn hp hJ hK => ?_) ?_
    · skip
      have p27 : L 27 := hp ⟨27, .data⟩ (by simp) rfl
      have e27 := (hJ.2.2.2.2.1) p27
      simp only [putAll, Act.put, List.setIfInBounds_toArray, List.set_cons_zero, List.set_cons_succ]
      go_simp
      refine hK _ G _ (by kernel_rfl) ?_
      exact ⟨⟨⟨⟨⟨(hJ.1.1.1.1.1), (hJ.1.1.1.1.2)⟩, ⟨(hJ.1.1.1.2.1), (hJ.1.1.1.2.2)⟩⟩, ⟨⟨(hJ.1.1.2.1.1), fun q => (hJ.1.1.2.1.2) (rl q)⟩, ⟨fun q => (hJ.1.1.2.2.1) (rl q), fun q => (hJ.1.1.2.2.2) (rl q)⟩⟩⟩, ⟨⟨⟨fun q => (hJ.1.2.1.1.1) (rl q), fun q => (hJ.1.2.1.1.2) (rl q)⟩, ⟨fun q => (hJ.1.2.1.2.1) (rl q), fun q => (hJ.1.2.1.2.2) (rl q)⟩⟩, ⟨⟨fun q => (hJ.1.2.2.1.1) (rl q), fun q => (hJ.1.2.2.1.2) (rl q)⟩, ⟨fun q => (hJ.1.2.2.2.1) (rl q), ⟨fun q => (hJ.1.2.2.2.2.1) (rl q), fun q => (hJ.1.2.2.2.2.2) (rl q)⟩⟩⟩⟩⟩, ⟨⟨⟨⟨fun q => (hJ.2.1.1.1.1) (rl q), fun q => (hJ.2.1.1.1.2) (rl q)⟩, ⟨fun q => (hJ.2.1.1.2.1) (rl q), fun q => (hJ.2.1.1.2.2) (rl q)⟩⟩, ⟨⟨fun q => (hJ.2.1.2.1.1) (rl q), fun q => (hJ.2.1.2.1.2) (rl q)⟩, ⟨fun q => (hJ.2.1.2.2.1) (rl q), ⟨fun q => (hJ.2.1.2.2.2.1) (rl q), fun q => (hJ.2.1.2.2.2.2) (rl q)⟩⟩⟩⟩, ⟨⟨⟨fun q => (hJ.2.2.1.1.1) (rl q), fun q => (hJ.2.2.1.1.2) (rl q)⟩, ⟨fun q => (hJ.2.2.1.2.1) (rl q), fun q => (hJ.2.2.1.2.2) (rl q)⟩⟩, ⟨⟨fun q => (hJ.2.2.2.1.1) (rl q), fun q => (hJ.2.2.2.1.2) (rl q)⟩, ⟨fun _ => by first | exact rfl | exact e27, ⟨fun _ => rfl, fun q => (hJ.2.2.2.2.2.2) (rl q)⟩⟩⟩⟩⟩⟩
    refine StepsOk.cons (i := 29) rfl (fun L x G w1 K Q hn hp hJ hK => ?_) ?_
    · skip
      have p25 : L 25 := hp ⟨25, .data⟩ (by simp) rfl
      have e25 := (hJ.2.2.2.1.1) p25
      have p28 : L 28 := hp ⟨28, .data⟩ (by simp) rfl
      have e28 := (hJ.2.2.2.2.2.1) p28
      simp only [putAll, Act.put, List.setIfInBounds_toArray, List.set_cons_zero, List.set_cons_succ]
      go_simp
      refine hK _ G _ (by kernel_rfl) ?_
      exact ⟨⟨⟨⟨⟨(hJ.1.1.1.1.1), (hJ.1.1.1.1.2)⟩, ⟨(hJ.1.1.1.2.1), (hJ.1.1.1.2.2)⟩⟩, ⟨⟨(hJ.1.1.2.1.1), fun q => (hJ.1.1.2.1.2) (rl q)⟩, ⟨fun q => (hJ.1.1.2.2.1) (rl q), fun q => (hJ.1.1.2.2.2) (rl q)⟩⟩⟩, ⟨⟨⟨fun q => (hJ.1.2.1.1.1) (rl q), fun q => (hJ.1.2.1.1.2) (rl q)⟩, ⟨fun q => (hJ.1.2.1.2.1) (rl q), fun q => (hJ.1.2.1.2.2) (rl q)⟩⟩, ⟨⟨fun q => (hJ.1.2.2.1.1) (rl q), fun q => (hJ.1.2.2.1.2) (rl q)⟩, ⟨fun q => (hJ.1.2.2.2.1) (rl q), ⟨fun q => (hJ.1.2.2.2.2.1) (rl q), fun q => (hJ.1.2.2.2.2.2) (rl q)⟩⟩⟩⟩⟩, ⟨⟨⟨⟨fun q => (hJ.2.1.1.1.1) (rl q), fun q => (hJ.2.1.1.1.2) (rl q)⟩, ⟨fun q => (hJ.2.1.1.2.1) (rl q), fun q => (hJ.2.1.1.2.2) (rl q)⟩⟩, ⟨⟨fun q => (hJ.2.1.2.1.1) (rl q), fun q => (hJ.2.1.2.1.2) (rl q)⟩, ⟨fun q => (hJ.2.1.2.2.1) (rl q), ⟨fun q => (hJ.2.1.2.2.2.1) (rl q), fun q => (hJ.2.1.2.2.2.2) (rl q)⟩⟩⟩⟩, ⟨⟨⟨fun q => (hJ.2.2.1.1.1) (rl q), fun q => (hJ.2.2.1.1.2) (rl q)⟩, ⟨fun q => (hJ.2.2.1.2.1) (rl q), fun q => (hJ.2.2.1.2.2) (rl q)⟩⟩, ⟨⟨fun _ => by first | exact rfl | exact e25, fun q => (hJ.2.2.2.1.2) (rl q)⟩, ⟨fun q => (hJ.2.2.2.2.1) (rl q), ⟨fun _ => by first | exact rfl | exact e28, fun _ => rfl⟩⟩⟩⟩⟩⟩
    exact StepsOk.nil
  case fin =>
    intro L x G w3 hall hJ
    replace P := (hJ.1.1.1.2.1)
    replace N := (hJ.1.1.2.1.1)
    have u0 := hJ.1.1.2.1.2 (hall 0 (by decide))
    have u1 := hJ.1.1.2.2.1 (hall 1 (by decide))
    have u2 := hJ.1.1.2.2.2 (hall 2 (by decide))
    have u3 := hJ.1.2.1.1.1 (hall 3 (by decide))
    have u4 := hJ.1.2.1.1.2 (hall 4 (by decide))
    have u5 := hJ.1.2.1.2.1 (hall 5 (by decide))
    have u6 := hJ.1.2.1.2.2 (hall 6 (by decide))
    have u7 := hJ.1.2.2.1.1 (hall 7 (by decide))
    have u8 := hJ.1.2.2.1.2 (hall 8 (by decide))
    have u9 := hJ.1.2.2.2.1 (hall 9 (by decide))
    have u10 := hJ.1.2.2.2.2.1 (hall 10 (by decide))
    have u11 := hJ.1.2.2.2.2.2 (hall 11 (by decide))
    have u12 := hJ.2.1.1.1.1 (hall 12 (by decide))
    have u13 := hJ.2.1.1.1.2 (hall 13 (by decide))
    have u14 := hJ.2.1.1.2.1 (hall 14 (by decide))
    have u15 := hJ.2.1.1.2.2 (hall 15 (by decide))
    have u16 := hJ.2.1.2.1.1 (hall 16 (by decide))
    have u17 := hJ.2.1.2.1.2 (hall 17 (by decide))
    have u18 := hJ.2.1.2.2.1 (hall 18 (by decide))
    have u19 := hJ.2.1.2.2.2.1 (hall 19 (by decide))
    have u20 := hJ.2.1.2.2.2.2 (hall 20 (by decide))
    have u21 := hJ.2.2.1.1.1 (hall 21 (by decide))
    have u22 := hJ.2.2.1.1.2 (hall 22 (by decide))
    have u23 := hJ.2.2.1.2.1 (hall 23 (by decide))
    have u24 := hJ.2.2.1.2.2 (hall 24 (by decide))
    have u25 := hJ.2.2.2.1.1 (hall 25 (by decide))
    have u26 := hJ.2.2.2.1.2 (hall 26 (by decide))
    have u27 := hJ.2.2.2.2.1 (hall 27 (by decide))
    have u28 := hJ.2.2.2.2.2.1 (hall 28 (by decide))
    have u29 := hJ.2.2.2.2.2.2 (hall 29 (by decide))
    replace hB := hJ.1.1.1.1.1
    simp only [putAll, Act.put, List.setIfInBounds_toArray, List.set_cons_zero, List.set_cons_succ]
    simp only [u0, u1, u2, u3, u4, u5, u6, u7, u8, u9, u10, u11, u12, u13, u14, u15, u16, u17, u18, u19, u20, u21, u22, u23, u24, u25, u26, u27, u28, u29]
    clear hall hJ u0 u1 u2 u3 u4 u5 u6 u7 u8 u9 u10 u11 u12 u13 u14 u15 u16 u17 u18 u19 u20 u21 u22 u23 u24 u25 u26 u27 u28 u29
    clear d0 d1 d2 d3 d4 emx hmx c0 c1 c2 c3 c4 KN1 KN2
    have hz3 := hB.size
    have l3P := P.lt
    have l3N := N.lt
    replace P := P.alloc (.cells #[.int .i64 (0), .int .u64 (0)] 34)
    replace N := N.alloc (.cells #[.int .i64 (0), .int .u64 (0)] 34)
    replace hB := bal hB (.cells #[.int .i64 (0), .int .u64 (0)] 34)
    have U := Blk.new w3 34 #[.int .i64 (0), .int .u64 (0)]
    have lU := U.lt
    go_wp2_with fail
    generalize w3.heap.size = gU at *
    go_loopw [13, 90] (fun s i wr => ∃ j : Nat, j ≤ k ∧ s = .bool true ∧ i = .int .i64 j ∧ Blk wr w.heap.size 36 #[.int .i64 (ux), .int .i64 (uy)] ∧ Blk wr gN 34 #[.int .i64 (Wi.Hq (Lq.num k M)), .int .u64 (Wi.Lr (Lq.num k M))] ∧ Blk wr gU 34 #[.int .i64 (Wi.Hq (Lq.qf j M ux uy v)), .int .u64 (Wi.Lr (Lq.qf j M ux uy v))] ∧ Below w.heap.size w wr) (fun _ i _ => k - (intOf i).toNat)
    case atStart => exact ⟨0, Nat.zero_le _, rfl, rfl, P, N, U, hB⟩
    case round =>
      clear P N U hB lU
      rename_i wr
      obtain ⟨j, hj, rfl, rfl, P, N, U, hB⟩ := hrel
      by_cases hlt : j < k
      · obtain ⟨bb, off, eA, hbl, u0, u1_, u2_, u3, u4, u5⟩ := (T0.keep hB).at6 hlt
        have HA := Lib.hid eA
        rw [HA.out]
        clear eA
        obtain ⟨t1, t3, t4, t5, t6, t7⟩ := ts_step O x1 u1 y1 u2 v1 v2 hlt
        have vv := O.v j hlt
        have g1 := vv.g1
        have g2 := vv.g2
        have q1 := Lq.mul_bd (a := M j 1) (b := ux) ⟨vv.a1, vv.a2⟩ ⟨x1, u1⟩
        have q2 := Lq.mul_bd (a := M j 2) (b := uy) ⟨vv.b1, vv.b2⟩ ⟨y1, u2⟩
        have q3 := Lq.mul_bd (a := M j 3) (b := v) (B := 8) ⟨vv.z1, vv.z2⟩ ⟨by omega, v2⟩
        have f11 : -4096000000 ≤ M j 1 * ux := by omega
        have f12 : M j 1 * ux ≤ 4096000000 := by omega
        have f13 : -4096000000 ≤ M j 2 * uy := by omega
        have f14 : M j 2 * uy ≤ 4096000000 := by omega
        have f15 : -34359738368 ≤ M j 3 * v := by omega
        have f16 : M j 3 * v ≤ 34359738368 := by omega
        clear q1 q2 q3 vv
        have EM := Lib.hid (show M j 1 * ux + M j 2 * uy - M j 3 * v = Lq.mi M j ux uy v from rfl)
        have OU := Wi.wd_self t1
        have OM := Wi.wd_self t5
        have OS := Wi.wd_self t7
        have E3 := Lib.hid (Wi.rv_yes t5)
        have K3 := Lib.hid (Wi.okb_yes t5)
        have E2 := Lib.hid ((Wi.rv_yes t6).trans (Lq.qf_succ j M ux uy v).symm)
        have K2 := Lib.hid (Wi.okb_yes t6)
        clear t1 t5 t6 t7
        have lP := P.lt
        have lN := N.lt
        have lU := U.lt
        obtain ⟨p0, p1, p2, p3⟩ := P.open2
        replace P := P.alloc (.cells #[.int .i64 (M j 0), .int .i64 (M j 1), .int .i64 (M j 2), .int .i64 (M j 3), .int .i64 (M j 4), .int .i64 (M j 5)] 43)
        replace N := N.alloc (.cells #[.int .i64 (M j 0), .int .i64 (M j 1), .int .i64 (M j 2), .int .i64 (M j 3), .int .i64 (M j 4), .int .i64 (M j 5)] 43)
        replace U := U.alloc (.cells #[.int .i64 (M j 0), .int .i64 (M j 1), .int .i64 (M j 2), .int .i64 (M j 3), .int .i64 (M j 4), .int .i64 (M j 5)] 43)
        replace hB := bal hB (.cells #[.int .i64 (M j 0), .int .i64 (M j 1), .int .i64 (M j 2), .int .i64 (M j 3), .int .i64 (M j 4), .int .i64 (M j 5)] 43)
        have X := Blk.new wr 43 #[.int .i64 (M j 0), .int .i64 (M j 1), .int .i64 (M j 2), .int .i64 (M j 3), .int .i64 (M j 4), .int .i64 (M j 5)]
        go_wp2_with fail
        clear p0 p1 p2 p3
        rw [EM.out]
        refine wp_region_inv (fun L x G wx => ((((Below w.heap.size w wx
              ∧ (w.heap.size < wx.heap.size
              ∧ Blk wx (w.heap.size) 36 #[.int .i64 (ux), .int .i64 (uy)]))
              ∧ (gN < wx.heap.size
              ∧ (Blk wx (gN) 34 #[.int .i64 (Wi.Hq (Lq.num k M)), .int .u64 (Wi.Lr (Lq.num k M))]
              ∧ gU < wx.heap.size)))
              ∧ ((Blk wx (gU) 34 #[.int .i64 (Wi.Hq (Lq.qf j M ux uy v)), .int .u64 (Wi.Lr (Lq.qf j M ux uy v))]
              ∧ (wr.heap.size < wx.heap.size
              ∧ Blk wx (wr.heap.size) 43 #[.int .i64 (M j 0), .int .i64 (M j 1), .int .i64 (M j 2), .int .i64 (M j 3), .int .i64 (M j 4), .int .i64 (M j 5)]))
              ∧ ((L 9 → w.heap.size ≤ G 9 ∧ G 9 < wx.heap.size ∧ w.heap.size ≠ G 9 ∧ gN ≠ G 9 ∧ gU ≠ G 9 ∧ wr.heap.size ≠ G 9)
              ∧ ((L 9 → ¬ L 10 → Blk wx (G 9) 34 #[.int .i64 (0), .int .u64 (0)])
              ∧ (L 10 → Blk wx (G 9) 34 #[.int .i64 (Wi.Hq (Lq.mi M j ux uy v * Lq.mi M j ux uy v * M j 5)), .int .u64 (Wi.Lr (Lq.mi M j ux uy v * Lq.mi M j ux uy v * M j 5))])))))
              ∧ ((((L 10 → L 9)
              ∧ ((L 0 → x 111 = .int .i64 (Lq.mi M j ux uy v))
              ∧ (L 1 → x 112 = .int .i64 (Lq.mi M j ux uy v))))
              ∧ ((L 2 → x 113 = .agg #[.int .i64 (Wi.Hq (Lq.mi M j ux uy v * Lq.mi M j ux uy v)), .int .u64 (Wi.Lr (Lq.mi M j ux uy v * Lq.mi M j ux uy v))])
              ∧ ((L 3 → x 114 = .pointer (some ⟨wr.heap.size, 5, none⟩))
              ∧ (L 4 → x 115 = .int .i64 (M j 5)))))
              ∧ (((L 5 → x 116 = .tuple #[.agg #[.int .i64 (Wi.Hq (Lq.mi M j ux uy v * Lq.mi M j ux uy v * M j 5)), .int .u64 (Wi.Lr (Lq.mi M j ux uy v * Lq.mi M j ux uy v * M j 5))], .bool (true)])
              ∧ ((L 6 → x 110 = .tuple #[.agg #[.int .i64 (Wi.Hq (Lq.mi M j ux uy v * Lq.mi M j ux uy v * M j 5)), .int .u64 (Wi.Lr (Lq.mi M j ux uy v * Lq.mi M j ux uy v * M j 5))], .bool (true)])
              ∧ (L 7 → x 117 = .agg #[.int .i64 (Wi.Hq (Lq.mi M j ux uy v * Lq.mi M j ux uy v * M j 5)), .int .u64 (Wi.Lr (Lq.mi M j ux uy v * Lq.mi M j ux uy v * M j 5))])))
              ∧ ((L 8 → x 118 = .bool (true))
              ∧ ((L 9 → x 17 = .pointer (some ⟨G 9, 0, none⟩))
              ∧ (L 11 → x 18 = .bool (true)))))))) [111, 112, 113, 114, 115, 116, 110, 117, 118, 17, 18] 12 (by kernel_rfl) (by kernel_rfl) (by kernel_rfl) ?h0 ?st ?fin
        case h0 =>
          exact ⟨⟨⟨⟨bdr hB, ⟨Blk.lt P.drew, P.drew⟩⟩, ⟨Blk.lt N.drew, ⟨N.drew, Blk.lt U.drew⟩⟩⟩, ⟨⟨U.drew, ⟨Blk.lt X.drew, X.drew⟩⟩, ⟨fun q => q.elim, ⟨fun q => q.elim, fun q => q.elim⟩⟩⟩⟩, ⟨⟨⟨fun q => q.elim, ⟨fun q => q.elim, fun q => q.elim⟩⟩, ⟨fun q => q.elim, ⟨fun q => q.elim, fun q => q.elim⟩⟩⟩, ⟨⟨fun q => q.elim, ⟨fun q => q.elim, fun q => q.elim⟩⟩, ⟨fun q => q.elim, ⟨fun q => q.elim, fun q => q.elim⟩⟩⟩⟩⟩
        case st =>
          refine StepsOk.cons (i := 0) rfl (fun L x G w1 K Q hn hp hJ hK => ?_) ?_
          · skip
            simp only [putAll, Act.put, List.setIfInBounds_toArray, List.set_cons_zero, List.set_cons_succ]
            go_simp
            refine hK _ G _ (by kernel_rfl) ?_
            exact ⟨⟨⟨⟨(hJ.1.1.1.1), ⟨(hJ.1.1.1.2.1), (hJ.1.1.1.2.2)⟩⟩, ⟨(hJ.1.1.2.1), ⟨(hJ.1.1.2.2.1), (hJ.1.1.2.2.2)⟩⟩⟩, ⟨⟨(hJ.1.2.1.1), ⟨(hJ.1.2.1.2.1), (hJ.1.2.1.2.2)⟩⟩, ⟨fun q => (hJ.1.2.2.1) (rl q), ⟨fun q n => (hJ.1.2.2.2.1) (rl q) (fun m => n (.inr m)), fun q => (hJ.1.2.2.2.2) (rl q)⟩⟩⟩⟩, ⟨⟨⟨fun q => .inr ((hJ.2.1.1.1) (rl q)), ⟨fun _ => rfl, fun q => (hJ.2.1.1.2.2) (rl q)⟩⟩, ⟨fun q => (hJ.2.1.2.1) (rl q), ⟨fun q => (hJ.2.1.2.2.1) (rl q), fun q => (hJ.2.1.2.2.2) (rl q)⟩⟩⟩, ⟨⟨fun q => (hJ.2.2.1.1) (rl q), ⟨fun q => (hJ.2.2.1.2.1) (rl q), fun q => (hJ.2.2.1.2.2) (rl q)⟩⟩, ⟨fun q => (hJ.2.2.2.1) (rl q), ⟨fun q => (hJ.2.2.2.2.1) (rl q), fun q => (hJ.2.2.2.2.2) (rl q)⟩⟩⟩⟩⟩
          refine StepsOk.cons (i := 1) rfl (fun L x G w1 K Q hn hp hJ hK => ?_) ?_
          · skip
            simp only [putAll, Act.put, List.setIfInBounds_toArray, List.set_cons_zero, List.set_cons_succ]
            go_simp
            refine hK _ G _ (by kernel_rfl) ?_
            exact ⟨⟨⟨⟨(hJ.1.1.1.1), ⟨(hJ.1.1.1.2.1), (hJ.1.1.1.2.2)⟩⟩, ⟨(hJ.1.1.2.1), ⟨(hJ.1.1.2.2.1), (hJ.1.1.2.2.2)⟩⟩⟩, ⟨⟨(hJ.1.2.1.1), ⟨(hJ.1.2.1.2.1), (hJ.1.2.1.2.2)⟩⟩, ⟨fun q => (hJ.1.2.2.1) (rl q), ⟨fun q n => (hJ.1.2.2.2.1) (rl q) (fun m => n (.inr m)), fun q => (hJ.1.2.2.2.2) (rl q)⟩⟩⟩⟩, ⟨⟨⟨fun q => .inr ((hJ.2.1.1.1) (rl q)), ⟨fun q => (hJ.2.1.1.2.1) (rl q), fun _ => rfl⟩⟩, ⟨fun q => (hJ.2.1.2.1) (rl q), ⟨fun q => (hJ.2.1.2.2.1) (rl q), fun q => (hJ.2.1.2.2.2) (rl q)⟩⟩⟩, ⟨⟨fun q => (hJ.2.2.1.1) (rl q), ⟨fun q => (hJ.2.2.1.2.1) (rl q), fun q => (hJ.2.2.1.2.2) (rl q)⟩⟩, ⟨fun q => (hJ.2.2.2.1) (rl q), ⟨fun q => (hJ.2.2.2.2.1) (rl q), fun q => (hJ.2.2.2.2.2) (rl q)⟩⟩⟩⟩⟩
          refine StepsOk.cons (i := 2) rfl (fun L x G w1 K Q hn hp hJ hK => ?_) ?_
          · skip
            have p0 : L 0 := hp ⟨0, .data⟩ (by simp) rfl
            have e0 := (hJ.2.1.1.2.1) p0
            have p1 : L 1 := hp ⟨1, .data⟩ (by simp) rfl
            have e1 := (hJ.2.1.1.2.2) p1
            simp only [putAll, Act.put, List.setIfInBounds_toArray, List.set_cons_zero, List.set_cons_succ]
            go_simp
            refine (mul_c _ _ _ (by omega) (by omega) (by omega) (by omega)).mono ?_
            rintro e w2 ⟨rfl, hb⟩
            have hz := hb.size
            try go_simp
            refine hK _ G _ (by kernel_rfl) ?_
            exact ⟨⟨⟨⟨bt (hJ.1.1.1.1) hb, ⟨Nat.lt_of_lt_of_le (hJ.1.1.1.2.1) hb.size, Blk.keep ((hJ.1.1.1.2.2)) hb⟩⟩, ⟨Nat.lt_of_lt_of_le (hJ.1.1.2.1) hb.size, ⟨Blk.keep ((hJ.1.1.2.2.1)) hb, Nat.lt_of_lt_of_le (hJ.1.1.2.2.2) hb.size⟩⟩⟩, ⟨⟨Blk.keep ((hJ.1.2.1.1)) hb, ⟨Nat.lt_of_lt_of_le (hJ.1.2.1.2.1) hb.size, Blk.keep ((hJ.1.2.1.2.2)) hb⟩⟩, ⟨fun q => ⟨((hJ.1.2.2.1) (rl q)).1, by have := ((hJ.1.2.2.1) (rl q)).2.1; omega, ((hJ.1.2.2.1) (rl q)).2.2⟩, ⟨fun q n => Blk.keep ((hJ.1.2.2.2.1) (rl q) (fun m => n (.inr m))) hb, fun q => Blk.keep ((hJ.1.2.2.2.2) (rl q)) hb⟩⟩⟩⟩, ⟨⟨⟨fun q => .inr ((hJ.2.1.1.1) (rl q)), ⟨fun _ => by first | exact rfl | exact e0, fun _ => by first | exact rfl | exact e1⟩⟩, ⟨fun _ => rfl, ⟨fun q => (hJ.2.1.2.2.1) (rl q), fun q => (hJ.2.1.2.2.2) (rl q)⟩⟩⟩, ⟨⟨fun q => (hJ.2.2.1.1) (rl q), ⟨fun q => (hJ.2.2.1.2.1) (rl q), fun q => (hJ.2.2.1.2.2) (rl q)⟩⟩, ⟨fun q => (hJ.2.2.2.1) (rl q), ⟨fun q => (hJ.2.2.2.2.1) (rl q), fun q => (hJ.2.2.2.2.2) (rl q)⟩⟩⟩⟩⟩
          refine StepsOk.cons (i := 3) rfl (fun L x G w1 K Q hn hp hJ hK => ?_) ?_
          · skip
            simp only [putAll, Act.put, List.setIfInBounds_toArray, List.set_cons_zero, List.set_cons_succ]
            go_simp
            refine hK _ G _ (by kernel_rfl) ?_
            exact ⟨⟨⟨⟨(hJ.1.1.1.1), ⟨(hJ.1.1.1.2.1), (hJ.1.1.1.2.2)⟩⟩, ⟨(hJ.1.1.2.1), ⟨(hJ.1.1.2.2.1), (hJ.1.1.2.2.2)⟩⟩⟩, ⟨⟨(hJ.1.2.1.1), ⟨(hJ.1.2.1.2.1), (hJ.1.2.1.2.2)⟩⟩, ⟨fun q => (hJ.1.2.2.1) (rl q), ⟨fun q n => (hJ.1.2.2.2.1) (rl q) (fun m => n (.inr m)), fun q => (hJ.1.2.2.2.2) (rl q)⟩⟩⟩⟩, ⟨⟨⟨fun q => .inr ((hJ.2.1.1.1) (rl q)), ⟨fun q => (hJ.2.1.1.2.1) (rl q), fun q => (hJ.2.1.1.2.2) (rl q)⟩⟩, ⟨fun q => (hJ.2.1.2.1) (rl q), ⟨fun _ => rfl, fun q => (hJ.2.1.2.2.2) (rl q)⟩⟩⟩, ⟨⟨fun q => (hJ.2.2.1.1) (rl q), ⟨fun q => (hJ.2.2.1.2.1) (rl q), fun q => (hJ.2.2.1.2.2) (rl q)⟩⟩, ⟨fun q => (hJ.2.2.2.1) (rl q), ⟨fun q => (hJ.2.2.2.2.1) (rl q), fun q => (hJ.2.2.2.2.2) (rl q)⟩⟩⟩⟩⟩
          refine StepsOk.cons (i := 4) rfl (fun L x G w1 K Q hn hp hJ hK => ?_) ?_
          · skip
            have p3 : L 3 := hp ⟨3, .data⟩ (by simp) rfl
            have e3 := (hJ.2.1.2.2.1) p3
            have hc := Blk.open6 ((hJ.1.2.1.2.2))
            have c0 := hc.1
            have c1 := hc.2.1
            have c2 := hc.2.2.1
            have c3 := hc.2.2.2.1
            have c4 := hc.2.2.2.2.1
            have c5 := hc.2.2.2.2.2.1
            have c6 := hc.2.2.2.2.2.2.1
            have c7 := hc.2.2.2.2.2.2.2
            clear hc
            simp only [putAll, Act.put, List.setIfInBounds_toArray, List.set_cons_zero, List.set_cons_succ]
            go_simp
            refine hK _ G _ (by kernel_rfl) ?_
            exact ⟨⟨⟨⟨(hJ.1.1.1.1), ⟨(hJ.1.1.1.2.1), (hJ.1.1.1.2.2)⟩⟩, ⟨(hJ.1.1.2.1), ⟨(hJ.1.1.2.2.1), (hJ.1.1.2.2.2)⟩⟩⟩, ⟨⟨(hJ.1.2.1.1), ⟨(hJ.1.2.1.2.1), (hJ.1.2.1.2.2)⟩⟩, ⟨fun q => (hJ.1.2.2.1) (rl q), ⟨fun q n => (hJ.1.2.2.2.1) (rl q) (fun m => n (.inr m)), fun q => (hJ.1.2.2.2.2) (rl q)⟩⟩⟩⟩, ⟨⟨⟨fun q => .inr ((hJ.2.1.1.1) (rl q)), ⟨fun q => (hJ.2.1.1.2.1) (rl q), fun q => (hJ.2.1.1.2.2) (rl q)⟩⟩, ⟨fun q => (hJ.2.1.2.1) (rl q), ⟨fun _ => by first | exact rfl | exact e3, fun _ => rfl⟩⟩⟩, ⟨⟨fun q => (hJ.2.2.1.1) (rl q), ⟨fun q => (hJ.2.2.1.2.1) (rl q), fun q => (hJ.2.2.1.2.2) (rl q)⟩⟩, ⟨fun q => (hJ.2.2.2.1) (rl q), ⟨fun q => (hJ.2.2.2.2.1) (rl q), fun q => (hJ.2.2.2.2.2) (rl q)⟩⟩⟩⟩⟩
          refine StepsOk.cons (i := 5) rfl (fun L x G w1 K Q hn hp hJ hK => ?_) ?_
          · skip
            have p2 : L 2 := hp ⟨2, .data⟩ (by simp) rfl
            have e2 := (hJ.2.1.2.1) p2
            have p4 : L 4 := hp ⟨4, .data⟩ (by simp) rfl
            have e4 := (hJ.2.1.2.2.2) p4
            simp only [putAll, Act.put, List.setIfInBounds_toArray, List.set_cons_zero, List.set_cons_succ]
            go_simp
            refine (times_c _ _ _ _ _ OS (by omega) (by omega)).mono ?_
            rw [E3.out, K3.out]
            rintro e w2 ⟨rfl, hb⟩
            have hz := hb.size
            try go_simp
            refine hK _ G _ (by kernel_rfl) ?_
            exact ⟨⟨⟨⟨bt (hJ.1.1.1.1) hb, ⟨Nat.lt_of_lt_of_le (hJ.1.1.1.2.1) hb.size, Blk.keep ((hJ.1.1.1.2.2)) hb⟩⟩, ⟨Nat.lt_of_lt_of_le (hJ.1.1.2.1) hb.size, ⟨Blk.keep ((hJ.1.1.2.2.1)) hb, Nat.lt_of_lt_of_le (hJ.1.1.2.2.2) hb.size⟩⟩⟩, ⟨⟨Blk.keep ((hJ.1.2.1.1)) hb, ⟨Nat.lt_of_lt_of_le (hJ.1.2.1.2.1) hb.size, Blk.keep ((hJ.1.2.1.2.2)) hb⟩⟩, ⟨fun q => ⟨((hJ.1.2.2.1) (rl q)).1, by have := ((hJ.1.2.2.1) (rl q)).2.1; omega, ((hJ.1.2.2.1) (rl q)).2.2⟩, ⟨fun q n => Blk.keep ((hJ.1.2.2.2.1) (rl q) (fun m => n (.inr m))) hb, fun q => Blk.keep ((hJ.1.2.2.2.2) (rl q)) hb⟩⟩⟩⟩, ⟨⟨⟨fun q => .inr ((hJ.2.1.1.1) (rl q)), ⟨fun q => (hJ.2.1.1.2.1) (rl q), fun q => (hJ.2.1.1.2.2) (rl q)⟩⟩, ⟨fun _ => by first | exact rfl | exact e2, ⟨fun q => (hJ.2.1.2.2.1) (rl q), fun _ => by first | exact rfl | exact e4⟩⟩⟩, ⟨⟨fun _ => rfl, ⟨fun q => (hJ.2.2.1.2.1) (rl q), fun q => (hJ.2.2.1.2.2) (rl q)⟩⟩, ⟨fun q => (hJ.2.2.2.1) (rl q), ⟨fun q => (hJ.2.2.2.2.1) (rl q), fun q => (hJ.2.2.2.2.2) (rl q)⟩⟩⟩⟩⟩
          refine StepsOk.cons (i := 6) rfl (fun L x G w1 K Q hn hp hJ hK => ?_) ?_
          · skip
            have p5 : L 5 := hp ⟨5, .data⟩ (by simp) rfl
            have e5 := (hJ.2.2.1.1) p5
            simp only [putAll, Act.put, List.setIfInBounds_toArray, List.set_cons_zero, List.set_cons_succ]
            go_simp
            refine hK _ G _ (by kernel_rfl) ?_
            exact ⟨⟨⟨⟨(hJ.1.1.1.1), ⟨(hJ.1.1.1.2.1), (hJ.1.1.1.2.2)⟩⟩, ⟨(hJ.1.1.2.1), ⟨(hJ.1.1.2.2.1), (hJ.1.1.2.2.2)⟩⟩⟩, ⟨⟨(hJ.1.2.1.1), ⟨(hJ.1.2.1.2.1), (hJ.1.2.1.2.2)⟩⟩, ⟨fun q => (hJ.1.2.2.1) (rl q), ⟨fun q n => (hJ.1.2.2.2.1) (rl q) (fun m => n (.inr m)), fun q => (hJ.1.2.2.2.2) (rl q)⟩⟩⟩⟩, ⟨⟨⟨fun q => .inr ((hJ.2.1.1.1) (rl q)), ⟨fun q => (hJ.2.1.1.2.1) (rl q), fun q => (hJ.2.1.1.2.2) (rl q)⟩⟩, ⟨fun q => (hJ.2.1.2.1) (rl q), ⟨fun q => (hJ.2.1.2.2.1) (rl q), fun q => (hJ.2.1.2.2.2) (rl q)⟩⟩⟩, ⟨⟨fun _ => by first | exact rfl | exact e5, ⟨fun _ => rfl, fun q => (hJ.2.2.1.2.2) (rl q)⟩⟩, ⟨fun q => (hJ.2.2.2.1) (rl q), ⟨fun q => (hJ.2.2.2.2.1) (rl q), fun q => (hJ.2.2.2.2.2) (rl q)⟩⟩⟩⟩⟩
          refine StepsOk.cons (i := 7) rfl (fun L x G w1 K Q hn hp hJ hK => ?_) ?_
          · skip
            have p6 : L 6 := hp ⟨6, .data⟩ (by simp) rfl
            have e6 := (hJ.2.2.1.2.1) p6
            simp only [putAll, Act.put, List.setIfInBounds_toArray, List.set_cons_zero, List.set_cons_succ]
            go_simp
            refine hK _ G _ (by kernel_rfl) ?_
            exact ⟨⟨⟨⟨(hJ.1.1.1.1), ⟨(hJ.1.1.1.2.1), (hJ.1.1.1.2.2)⟩⟩, ⟨(hJ.1.1.2.1), ⟨(hJ.1.1.2.2.1), (hJ.1.1.2.2.2)⟩⟩⟩, ⟨⟨(hJ.1.2.1.1), ⟨(hJ.1.2.1.2.1), (hJ.1.2.1.2.2)⟩⟩, ⟨fun q => (hJ.1.2.2.1) (rl q), ⟨fun q n => (hJ.1.2.2.2.1) (rl q) (fun m => n (.inr m)), fun q => (hJ.1.2.2.2.2) (rl q)⟩⟩⟩⟩, ⟨⟨⟨fun q => .inr ((hJ.2.1.1.1) (rl q)), ⟨fun q => (hJ.2.1.1.2.1) (rl q), fun q => (hJ.2.1.1.2.2) (rl q)⟩⟩, ⟨fun q => (hJ.2.1.2.1) (rl q), ⟨fun q => (hJ.2.1.2.2.1) (rl q), fun q => (hJ.2.1.2.2.2) (rl q)⟩⟩⟩, ⟨⟨fun q => (hJ.2.2.1.1) (rl q), ⟨fun _ => by first | exact rfl | exact e6, fun _ => rfl⟩⟩, ⟨fun q => (hJ.2.2.2.1) (rl q), ⟨fun q => (hJ.2.2.2.2.1) (rl q), fun q => (hJ.2.2.2.2.2) (rl q)⟩⟩⟩⟩⟩
          refine StepsOk.cons (i := 8) rfl (fun L x G w1 K Q hn hp hJ hK => ?_) ?_
          · skip
            have p6 : L 6 := hp ⟨6, .data⟩ (by simp) rfl
            have e6 := (hJ.2.2.1.2.1) p6
            simp only [putAll, Act.put, List.setIfInBounds_toArray, List.set_cons_zero, List.set_cons_succ]
            go_simp
            refine hK _ G _ (by kernel_rfl) ?_
            exact ⟨⟨⟨⟨(hJ.1.1.1.1), ⟨(hJ.1.1.1.2.1), (hJ.1.1.1.2.2)⟩⟩, ⟨(hJ.1.1.2.1), ⟨(hJ.1.1.2.2.1), (hJ.1.1.2.2.2)⟩⟩⟩, ⟨⟨(hJ.1.2.1.1), ⟨(hJ.1.2.1.2.1), (hJ.1.2.1.2.2)⟩⟩, ⟨fun q => (hJ.1.2.2.1) (rl q), ⟨fun q n => (hJ.1.2.2.2.1) (rl q) (fun m => n (.inr m)), fun q => (hJ.1.2.2.2.2) (rl q)⟩⟩⟩⟩, ⟨⟨⟨fun q => .inr ((hJ.2.1.1.1) (rl q)), ⟨fun q => (hJ.2.1.1.2.1) (rl q), fun q => (hJ.2.1.1.2.2) (rl q)⟩⟩, ⟨fun q => (hJ.2.1.2.1) (rl q), ⟨fun q => (hJ.2.1.2.2.1) (rl q), fun q => (hJ.2.1.2.2.2) (rl q)⟩⟩⟩, ⟨⟨fun q => (hJ.2.2.1.1) (rl q), ⟨fun _ => by first | exact rfl | exact e6, fun q => (hJ.2.2.1.2.2) (rl q)⟩⟩, ⟨fun _ => rfl, ⟨fun q => (hJ.2.2.2.2.1) (rl q), fun q => (hJ.2.2.2.2.2) (rl q)⟩⟩⟩⟩⟩
          refine StepsOk.cons (i := 9) rfl (fun L x G w1 K Q hn hp hJ hK => ?_) ?_
          · skip
            simp only [putAll, Act.put, List.setIfInBounds_toArray, List.set_cons_zero, List.set_cons_succ]
            go_simp
            refine hK _ (fun t => if t = 9 then w1.heap.size else G t) _ (by kernel_rfl) ?_
            exact ⟨⟨⟨⟨bal (hJ.1.1.1.1) _, ⟨by simp; omega, Blk.alloc ((hJ.1.1.1.2.2)) _⟩⟩, ⟨by simp; omega, ⟨Blk.alloc ((hJ.1.1.2.2.1)) _, by simp; omega⟩⟩⟩, ⟨⟨Blk.alloc ((hJ.1.2.1.1)) _, ⟨by simp; omega, Blk.alloc ((hJ.1.2.1.2.2)) _⟩⟩, ⟨fun _ => ⟨(hJ.1.1.1.1).size, by simp, Nat.ne_of_lt (hJ.1.1.1.2.1), Nat.ne_of_lt (hJ.1.1.2.1), Nat.ne_of_lt (hJ.1.1.2.2.2), Nat.ne_of_lt (hJ.1.2.1.2.1)⟩, ⟨fun _ _ => Blk.new w1 _ _, fun q => absurd ((hJ.2.1.1.1) (rl q)) hn⟩⟩⟩⟩, ⟨⟨⟨fun q => .inr ((hJ.2.1.1.1) (rl q)), ⟨fun q => (hJ.2.1.1.2.1) (rl q), fun q => (hJ.2.1.1.2.2) (rl q)⟩⟩, ⟨fun q => (hJ.2.1.2.1) (rl q), ⟨fun q => (hJ.2.1.2.2.1) (rl q), fun q => (hJ.2.1.2.2.2) (rl q)⟩⟩⟩, ⟨⟨fun q => (hJ.2.2.1.1) (rl q), ⟨fun q => (hJ.2.2.1.2.1) (rl q), fun q => (hJ.2.2.1.2.2) (rl q)⟩⟩, ⟨fun q => (hJ.2.2.2.1) (rl q), ⟨fun _ => rfl, fun q => (hJ.2.2.2.2.2) (rl q)⟩⟩⟩⟩⟩
          refine StepsOk.cons (i := 10) rfl (fun L x G w1 K Q hn hp hJ hK => ?_) ?_
          · skip
            have p7 : L 7 := hp ⟨7, .data⟩ (by simp) rfl
            have e7 := (hJ.2.2.1.2.2) p7
            have p9 : L 9 := hp ⟨9, .data⟩ (by simp) rfl
            have e9 := (hJ.2.2.2.2.1) p9
            have hc := Blk.open2 (((hJ.1.2.2.2.1) p9 hn))
            have c0 := hc.1
            have c1 := hc.2.1
            have c2 := hc.2.2.1
            have c3 := hc.2.2.2
            clear hc
            simp only [putAll, Act.put, List.setIfInBounds_toArray, List.set_cons_zero, List.set_cons_succ]
            go_simp
            refine hK _ G _ (by kernel_rfl) ?_
            exact ⟨⟨⟨⟨bst (bst ((hJ.1.1.1.1)) (p := ⟨G 9, 0, none⟩) ((hJ.1.2.2.1) p9).1 (.int .i64 (Wi.Hq (Lq.mi M j ux uy v * Lq.mi M j ux uy v * M j 5)))) (p := ⟨G 9, 1, none⟩) ((hJ.1.2.2.1) p9).1 (.int .u64 (Wi.Lr (Lq.mi M j ux uy v * Lq.mi M j ux uy v * M j 5))), ⟨by simpa using (hJ.1.1.1.2.1), Blk.far (Blk.far ((hJ.1.1.1.2.2)) (p := ⟨G 9, 0, none⟩) (((hJ.1.2.2.1) p9).2.2.1) (.int .i64 (Wi.Hq (Lq.mi M j ux uy v * Lq.mi M j ux uy v * M j 5)))) (p := ⟨G 9, 1, none⟩) (((hJ.1.2.2.1) p9).2.2.1) (.int .u64 (Wi.Lr (Lq.mi M j ux uy v * Lq.mi M j ux uy v * M j 5)))⟩⟩, ⟨by simpa using (hJ.1.1.2.1), ⟨Blk.far (Blk.far ((hJ.1.1.2.2.1)) (p := ⟨G 9, 0, none⟩) (((hJ.1.2.2.1) p9).2.2.2.1) (.int .i64 (Wi.Hq (Lq.mi M j ux uy v * Lq.mi M j ux uy v * M j 5)))) (p := ⟨G 9, 1, none⟩) (((hJ.1.2.2.1) p9).2.2.2.1) (.int .u64 (Wi.Lr (Lq.mi M j ux uy v * Lq.mi M j ux uy v * M j 5))), by simpa using (hJ.1.1.2.2.2)⟩⟩⟩, ⟨⟨Blk.far (Blk.far ((hJ.1.2.1.1)) (p := ⟨G 9, 0, none⟩) (((hJ.1.2.2.1) p9).2.2.2.2.1) (.int .i64 (Wi.Hq (Lq.mi M j ux uy v * Lq.mi M j ux uy v * M j 5)))) (p := ⟨G 9, 1, none⟩) (((hJ.1.2.2.1) p9).2.2.2.2.1) (.int .u64 (Wi.Lr (Lq.mi M j ux uy v * Lq.mi M j ux uy v * M j 5))), ⟨by simpa using (hJ.1.2.1.2.1), Blk.far (Blk.far ((hJ.1.2.1.2.2)) (p := ⟨G 9, 0, none⟩) (((hJ.1.2.2.1) p9).2.2.2.2.2) (.int .i64 (Wi.Hq (Lq.mi M j ux uy v * Lq.mi M j ux uy v * M j 5)))) (p := ⟨G 9, 1, none⟩) (((hJ.1.2.2.1) p9).2.2.2.2.2) (.int .u64 (Wi.Lr (Lq.mi M j ux uy v * Lq.mi M j ux uy v * M j 5)))⟩⟩, ⟨fun q => ⟨((hJ.1.2.2.1) (rl q)).1, by have := ((hJ.1.2.2.1) (rl q)).2.1; simpa using this, ((hJ.1.2.2.1) (rl q)).2.2⟩, ⟨fun _ n => absurd (.inl rfl) n, fun _ => by simpa using Blk.set_ (Blk.set_ (((hJ.1.2.2.2.1) p9 hn)) 0 (.int .i64 (Wi.Hq (Lq.mi M j ux uy v * Lq.mi M j ux uy v * M j 5)))) 1 (.int .u64 (Wi.Lr (Lq.mi M j ux uy v * Lq.mi M j ux uy v * M j 5)))⟩⟩⟩⟩, ⟨⟨⟨fun _ => .inr p9, ⟨fun q => (hJ.2.1.1.2.1) (rl q), fun q => (hJ.2.1.1.2.2) (rl q)⟩⟩, ⟨fun q => (hJ.2.1.2.1) (rl q), ⟨fun q => (hJ.2.1.2.2.1) (rl q), fun q => (hJ.2.1.2.2.2) (rl q)⟩⟩⟩, ⟨⟨fun q => (hJ.2.2.1.1) (rl q), ⟨fun q => (hJ.2.2.1.2.1) (rl q), fun _ => by first | exact rfl | exact e7⟩⟩, ⟨fun q => (hJ.2.2.2.1) (rl q), ⟨fun _ => by first | exact rfl | exact e9, fun q => (hJ.2.2.2.2.2) (rl q)⟩⟩⟩⟩⟩
          refine StepsOk.cons (i := 11) rfl (fun L x G w1 K Q hn hp hJ hK => ?_) ?_
          · skip
            have p8 : L 8 := hp ⟨8, .data⟩ (by simp) rfl
            have e8 := (hJ.2.2.2.1) p8
            simp only [putAll, Act.put, List.setIfInBounds_toArray, List.set_cons_zero, List.set_cons_succ]
            go_simp
            refine hK _ G _ (by kernel_rfl) ?_
            exact ⟨⟨⟨⟨(hJ.1.1.1.1), ⟨(hJ.1.1.1.2.1), (hJ.1.1.1.2.2)⟩⟩, ⟨(hJ.1.1.2.1), ⟨(hJ.1.1.2.2.1), (hJ.1.1.2.2.2)⟩⟩⟩, ⟨⟨(hJ.1.2.1.1), ⟨(hJ.1.2.1.2.1), (hJ.1.2.1.2.2)⟩⟩, ⟨fun q => (hJ.1.2.2.1) (rl q), ⟨fun q n => (hJ.1.2.2.2.1) (rl q) (fun m => n (.inr m)), fun q => (hJ.1.2.2.2.2) (rl q)⟩⟩⟩⟩, ⟨⟨⟨fun q => .inr ((hJ.2.1.1.1) (rl q)), ⟨fun q => (hJ.2.1.1.2.1) (rl q), fun q => (hJ.2.1.1.2.2) (rl q)⟩⟩, ⟨fun q => (hJ.2.1.2.1) (rl q), ⟨fun q => (hJ.2.1.2.2.1) (rl q), fun q => (hJ.2.1.2.2.2) (rl q)⟩⟩⟩, ⟨⟨fun q => (hJ.2.2.1.1) (rl q), ⟨fun q => (hJ.2.2.1.2.1) (rl q), fun q => (hJ.2.2.1.2.2) (rl q)⟩⟩, ⟨fun _ => by first | exact rfl | exact e8, ⟨fun q => (hJ.2.2.2.2.1) (rl q), fun _ => rfl⟩⟩⟩⟩⟩
          exact StepsOk.nil
        case fin =>
          intro L x G w6 hall hJ
          replace P := (hJ.1.1.1.2.2)
          replace N := (hJ.1.1.2.2.1)
          replace U := (hJ.1.2.1.1)
          replace X := (hJ.1.2.1.2.2)
          obtain ⟨haY, hlY, hnYP, hnYN, hnYU, hnYX⟩ := (hJ.1.2.2.1) (hall 9 (by decide))
          have Y := (hJ.1.2.2.2.2) (hall 10 (by decide))
          have u0 := hJ.2.1.1.2.1 (hall 0 (by decide))
          have u1 := hJ.2.1.1.2.2 (hall 1 (by decide))
          have u2 := hJ.2.1.2.1 (hall 2 (by decide))
          have u3 := hJ.2.1.2.2.1 (hall 3 (by decide))
          have u4 := hJ.2.1.2.2.2 (hall 4 (by decide))
          have u5 := hJ.2.2.1.1 (hall 5 (by decide))
          have u6 := hJ.2.2.1.2.1 (hall 6 (by decide))
          have u7 := hJ.2.2.1.2.2 (hall 7 (by decide))
          have u8 := hJ.2.2.2.1 (hall 8 (by decide))
          have u9 := hJ.2.2.2.2.1 (hall 9 (by decide))
          have u11 := hJ.2.2.2.2.2 (hall 11 (by decide))
          replace hB := hJ.1.1.1.1
          simp only [putAll, Act.put, List.setIfInBounds_toArray, List.set_cons_zero, List.set_cons_succ]
          simp only [u0, u1, u2, u3, u4, u5, u6, u7, u8, u9, u11]
          clear hall hJ u0 u1 u2 u3 u4 u5 u6 u7 u8 u9 u11
          generalize G 9 = gY at *
          obtain ⟨c00, c01, c02, c03⟩ := U.open2
          obtain ⟨c10, c11, c12, c13⟩ := Y.open2
          go_wp2_with fail
          refine (add_c _ _ _ _ _ _ _ OU OM).mono ?_
          rw [E2.out, K2.out]
          rintro e w7 ⟨rfl, hb⟩
          clear c00 c01 c02 c03 c10 c11 c12 c13
          replace P := P.keep hb
          replace N := N.keep hb
          replace U := U.keep hb
          replace X := X.keep hb
          replace Y := Y.keep hb
          replace hB := bt hB hb
          clear hb
          have lU2 := U.lt
          obtain ⟨s0, s1, s2, s3⟩ := U.open2
          replace P := P.far (p := ⟨gU, 0, none⟩) (by first | (simp; done) | (simp; omega) | omega) (.int .i64 (Wi.Hq (Lq.qf (j + 1) M ux uy v)))
          replace N := N.far (p := ⟨gU, 0, none⟩) (by first | (simp; done) | (simp; omega) | omega) (.int .i64 (Wi.Hq (Lq.qf (j + 1) M ux uy v)))
          replace X := X.far (p := ⟨gU, 0, none⟩) (by first | (simp; done) | (simp; omega) | omega) (.int .i64 (Wi.Hq (Lq.qf (j + 1) M ux uy v)))
          replace Y := Y.far (p := ⟨gU, 0, none⟩) (by first | (simp; done) | (simp; omega) | omega) (.int .i64 (Wi.Hq (Lq.qf (j + 1) M ux uy v)))
          replace hB := bst hB (p := ⟨gU, 0, none⟩) (by first | (simp; done) | (simp; omega) | omega) (.int .i64 (Wi.Hq (Lq.qf (j + 1) M ux uy v)))
          replace U := U.set_ 0 (.int .i64 (Wi.Hq (Lq.qf (j + 1) M ux uy v)))
          replace P := P.far (p := ⟨gU, 1, none⟩) (by first | (simp; done) | (simp; omega) | omega) (.int .u64 (Wi.Lr (Lq.qf (j + 1) M ux uy v)))
          replace N := N.far (p := ⟨gU, 1, none⟩) (by first | (simp; done) | (simp; omega) | omega) (.int .u64 (Wi.Lr (Lq.qf (j + 1) M ux uy v)))
          replace X := X.far (p := ⟨gU, 1, none⟩) (by first | (simp; done) | (simp; omega) | omega) (.int .u64 (Wi.Lr (Lq.qf (j + 1) M ux uy v)))
          replace Y := Y.far (p := ⟨gU, 1, none⟩) (by first | (simp; done) | (simp; omega) | omega) (.int .u64 (Wi.Lr (Lq.qf (j + 1) M ux uy v)))
          replace hB := bst hB (p := ⟨gU, 1, none⟩) (by first | (simp; done) | (simp; omega) | omega) (.int .u64 (Wi.Lr (Lq.qf (j + 1) M ux uy v)))
          replace U := U.set_ 1 (.int .u64 (Wi.Lr (Lq.qf (j + 1) M ux uy v)))
          simp only [List.setIfInBounds_toArray, List.set_cons_zero, List.set_cons_succ] at U
          replace P := P.alloc (.cells #[.int .i64 (Wi.Hq (Lq.qf (j + 1) M ux uy v)), .int .u64 (Wi.Lr (Lq.qf (j + 1) M ux uy v))] 34)
          replace N := N.alloc (.cells #[.int .i64 (Wi.Hq (Lq.qf (j + 1) M ux uy v)), .int .u64 (Wi.Lr (Lq.qf (j + 1) M ux uy v))] 34)
          replace U := U.alloc (.cells #[.int .i64 (Wi.Hq (Lq.qf (j + 1) M ux uy v)), .int .u64 (Wi.Lr (Lq.qf (j + 1) M ux uy v))] 34)
          replace hB := bal hB (.cells #[.int .i64 (Wi.Hq (Lq.qf (j + 1) M ux uy v)), .int .u64 (Wi.Lr (Lq.qf (j + 1) M ux uy v))] 34)
          go_wp2_with fail
          go_roundw
          case rel => exact ⟨j + 1, by omega, rfl, by go_num, P, N, U, hB⟩
          case measure => simp [intOf]; omega
      · obtain rfl : j = k := by omega
        obtain ⟨t1, t2, t3, t4, t5⟩ := top_facts O hd0 x1 u1 y1 u2 v1 v2
        have OU := Wi.wd_self t1
        have ON := Wi.wd_self t2
        have OA := Wi.wd_self t3
        have OB := Wi.wd_self t4
        have E1 := Lib.hid (Wi.rv_yes t3)
        have K1 := Lib.hid (Wi.okb_yes t3)
        have E2 := Lib.hid (Wi.rv_yes t4)
        have K2 := Lib.hid (Wi.okb_yes t4)
        clear t1 t2 t3 t4
        have qv := Lq.mul_bd (a := v) (b := v) (A := 8) (B := 8) ⟨by omega, v2⟩ ⟨by omega, v2⟩
        have f21 : -64 ≤ v * v := by omega
        have f22 : v * v ≤ 64 := by omega
        have fw : wrap64 (v * v) = v * v := IntWalk.wrap64_in _ (by omega)
        clear qv
        obtain ⟨c00, c01, c02, c03⟩ := U.open2
        go_wp2_with fail
        refine (times_c _ _ _ _ _ OU (by omega) (by omega)).mono ?_
        rw [E1.out, K1.out]
        rintro e w21 ⟨rfl, hb⟩
        clear c00 c01 c02 c03
        replace P := P.keep hb
        replace N := N.keep hb
        replace U := U.keep hb
        replace hB := bt hB hb
        clear hb
        have hz21 := hB.size
        have l21P := P.lt
        have l21N := N.lt
        have l21U := U.lt
        replace P := P.alloc (.cells #[.int .i64 (Wi.Hq (Lq.qf j M ux uy v * Lq.det j M)), .int .u64 (Wi.Lr (Lq.qf j M ux uy v * Lq.det j M))] 34)
        replace N := N.alloc (.cells #[.int .i64 (Wi.Hq (Lq.qf j M ux uy v * Lq.det j M)), .int .u64 (Wi.Lr (Lq.qf j M ux uy v * Lq.det j M))] 34)
        replace U := U.alloc (.cells #[.int .i64 (Wi.Hq (Lq.qf j M ux uy v * Lq.det j M)), .int .u64 (Wi.Lr (Lq.qf j M ux uy v * Lq.det j M))] 34)
        replace hB := bal hB (.cells #[.int .i64 (Wi.Hq (Lq.qf j M ux uy v * Lq.det j M)), .int .u64 (Wi.Lr (Lq.qf j M ux uy v * Lq.det j M))] 34)
        have B1 := Blk.new w21 34 #[.int .i64 (Wi.Hq (Lq.qf j M ux uy v * Lq.det j M)), .int .u64 (Wi.Lr (Lq.qf j M ux uy v * Lq.det j M))]
        obtain ⟨c00, c01, c02, c03⟩ := N.open2
        go_wp2_with fail
        refine (times_c _ _ _ _ _ ON (by omega) (by omega)).mono ?_
        rw [E2.out, K2.out]
        rintro e w22 ⟨rfl, hb⟩
        clear c00 c01 c02 c03
        replace P := P.keep hb
        replace N := N.keep hb
        replace U := U.keep hb
        replace B1 := B1.keep hb
        replace hB := bt hB hb
        clear hb
        have hz22 := hB.size
        have l22P := P.lt
        have l22N := N.lt
        have l22U := U.lt
        have l22B1 := B1.lt
        replace P := P.alloc (.cells #[.int .i64 (Wi.Hq (Lq.num j M * (v * v))), .int .u64 (Wi.Lr (Lq.num j M * (v * v)))] 34)
        replace N := N.alloc (.cells #[.int .i64 (Wi.Hq (Lq.num j M * (v * v))), .int .u64 (Wi.Lr (Lq.num j M * (v * v)))] 34)
        replace U := U.alloc (.cells #[.int .i64 (Wi.Hq (Lq.num j M * (v * v))), .int .u64 (Wi.Lr (Lq.num j M * (v * v)))] 34)
        replace B1 := B1.alloc (.cells #[.int .i64 (Wi.Hq (Lq.num j M * (v * v))), .int .u64 (Wi.Lr (Lq.num j M * (v * v)))] 34)
        replace hB := bal hB (.cells #[.int .i64 (Wi.Hq (Lq.num j M * (v * v))), .int .u64 (Wi.Lr (Lq.num j M * (v * v)))] 34)
        have B2 := Blk.new w22 34 #[.int .i64 (Wi.Hq (Lq.num j M * (v * v))), .int .u64 (Wi.Lr (Lq.num j M * (v * v)))]
        obtain ⟨c00, c01, c02, c03⟩ := B1.open2
        obtain ⟨c10, c11, c12, c13⟩ := B2.open2
        go_wp2_with fail
        refine (cmp_c _ _ _ _ _ _ _ OB OA).mono ?_
        rintro e w23 ⟨rfl, hb⟩
        clear c00 c01 c02 c03 c10 c11 c12 c13
        replace P := P.keep hb
        replace N := N.keep hb
        replace U := U.keep hb
        replace B1 := B1.keep hb
        replace B2 := B2.keep hb
        replace hB := bt hB hb
        clear hb
        go_wp2_with fail
        go_returns
        exact ⟨rfl, hB⟩
end Go.Proofs.Ytcgcocingfhleaa
