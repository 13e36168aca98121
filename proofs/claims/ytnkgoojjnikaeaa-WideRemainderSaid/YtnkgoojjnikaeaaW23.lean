/-
  Contracts: 'awake' returns true.
-/
import Derived.Test.YtnkgoojjnikaeaaW22
namespace Go.Proofs.Ytnkgoojjnikaeaa
set_option linter.unusedVariables false
set_option linter.unusedSimpArgs false
open Go.RowKit

set_option maxRecDepth 100000 in
set_option maxHeartbeats 4000000 in
theorem awake_c (w : World) : Calls Try.prog 13 #[] w fun e w' => e = .returned (.bool true) ∧ Below w.heap.size w w' := by
  have aH : Wi.Wd 4611686018427387904 0 85070591730234615865843651857942052864 := ⟨aw2.symm, aw3.symm, aw4⟩
  have m7 : Wi.Wd (Wi.Hq (-7)) (Wi.Lr (-7)) (-7) := Wi.wd_self (by unfold Wi.inW; omega)
  have t2 : Wi.Wd (Wi.Hq 2) (Wi.Lr 2) 2 := Wi.wd_self (by unfold Wi.inW; omega)
  go_enter Try.func13, Try.ntmps13
  go_wp2_with fail
  refine (mul_c _ _ _ (by omega) (by omega) (by omega) (by omega)).mono ?_
  rw [aw1]
  rw [aw2]
  rw [aw3]
  rintro e w1 ⟨rfl, hb⟩
  have hB := hb
  replace hB := bal hB (.cells #[.int .i64 4611686018427387904, .int .u64 0] 24)
  have A := Blk.new w1 24 #[.int .i64 4611686018427387904, .int .u64 0]
  clear hb
  obtain ⟨c00, c01, c02, c03⟩ := A.open2
  go_wp2_with fail
  refine (add_c _ _ _ _ _ _ _ aH aH).mono ?_
  rw [aw5]
  generalize Wi.Hq (Wi.rv (85070591730234615865843651857942052864 + 85070591730234615865843651857942052864)) = o1
  generalize Wi.Lr (Wi.rv (85070591730234615865843651857942052864 + 85070591730234615865843651857942052864)) = o2
  rintro e w2 ⟨rfl, hb⟩
  clear c00 c01 c02 c03
  replace A := (A.keep hb) |>.alloc (.cells #[.int .i64 o1, .int .u64 o2] 24)
  replace hB := bt hB hb
  replace hB := bal hB (.cells #[.int .i64 o1, .int .u64 o2] 24)
  clear hb
  go_wp2_with fail
  refine (absw_c _ _ _ _ aw6).mono ?_
  rw [aw7]
  generalize Wi.Hq (Wi.rv (Wi.ab (-170141183460469231731687303715884105728))) = o3
  generalize Wi.Lr (Wi.rv (Wi.ab (-170141183460469231731687303715884105728))) = o4
  rintro e w3 ⟨rfl, hb⟩
  replace A := (A.keep hb) |>.alloc (.cells #[.int .i64 o3, .int .u64 o4] 24)
  replace hB := bt hB hb
  replace hB := bal hB (.cells #[.int .i64 o3, .int .u64 o4] 24)
  clear hb
  go_wp2_with fail
  refine (of_c _ _ (by omega) (by omega)).mono ?_
  rintro e w4 ⟨rfl, hb⟩
  replace A := (A.keep hb)
  replace hB := bt hB hb
  clear hb
  go_wp2_with fail
  refine (of_c _ _ (by omega) (by omega)).mono ?_
  rintro e w5 ⟨rfl, hb⟩
  replace A := (A.keep hb)
  replace hB := bt hB hb
  clear hb
  go_wp2_with fail
  refine (div_c _ _ _ _ _ _ _ m7 t2).mono ?_
  rw [aw8, aw9]
  rintro e w6 ⟨rfl, hb⟩
  replace A := (A.keep hb) |>.alloc (.cells #[.int .i64 (Wi.Hq (-4)), .int .u64 (Wi.Lr (-4))] 24)
  replace hB := bt hB hb
  replace hB := bal hB (.cells #[.int .i64 (Wi.Hq (-4)), .int .u64 (Wi.Lr (-4))] 24)
  have B := Blk.new w6 24 #[.int .i64 (Wi.Hq (-4)), .int .u64 (Wi.Lr (-4))]
  clear hb
  go_wp2_with fail
  refine (of_c _ _ (by omega) (by omega)).mono ?_
  rintro e w7 ⟨rfl, hb⟩
  replace A := (A.keep hb)
  replace B := (B.keep hb)
  replace hB := bt hB hb
  clear hb
  go_wp2_with fail
  refine (of_c _ _ (by omega) (by omega)).mono ?_
  rintro e w8 ⟨rfl, hb⟩
  replace A := (A.keep hb)
  replace B := (B.keep hb)
  replace hB := bt hB hb
  clear hb
  go_wp2_with fail
  refine (divup_c _ _ _ _ _ _ _ m7 t2).mono ?_
  rw [aw10, aw11]
  rintro e w9 ⟨rfl, hb⟩
  replace A := (A.keep hb) |>.alloc (.cells #[.int .i64 (Wi.Hq (-3)), .int .u64 (Wi.Lr (-3))] 24)
  replace B := (B.keep hb) |>.alloc (.cells #[.int .i64 (Wi.Hq (-3)), .int .u64 (Wi.Lr (-3))] 24)
  replace hB := bt hB hb
  replace hB := bal hB (.cells #[.int .i64 (Wi.Hq (-3)), .int .u64 (Wi.Lr (-3))] 24)
  have C := Blk.new w9 24 #[.int .i64 (Wi.Hq (-3)), .int .u64 (Wi.Lr (-3))]
  clear hb
  go_wp2_with fail
  refine (of_c _ _ (by omega) (by omega)).mono ?_
  rintro e w10 ⟨rfl, hb⟩
  replace A := (A.keep hb)
  replace B := (B.keep hb)
  replace C := (C.keep hb)
  replace hB := bt hB hb
  clear hb
  go_wp2_with fail
  refine (of_c _ _ (by omega) (by omega)).mono ?_
  rintro e w11 ⟨rfl, hb⟩
  replace A := (A.keep hb)
  replace B := (B.keep hb)
  replace C := (C.keep hb)
  replace hB := bt hB hb
  clear hb
  go_wp2_with fail
  refine (near_c _ _ _ _ _ _ _ m7 t2).mono ?_
  rw [aw12, aw13]
  rintro e w12 ⟨rfl, hb⟩
  replace A := (A.keep hb) |>.alloc (.cells #[.int .i64 (Wi.Hq (-3)), .int .u64 (Wi.Lr (-3))] 24)
  replace B := (B.keep hb) |>.alloc (.cells #[.int .i64 (Wi.Hq (-3)), .int .u64 (Wi.Lr (-3))] 24)
  replace C := (C.keep hb) |>.alloc (.cells #[.int .i64 (Wi.Hq (-3)), .int .u64 (Wi.Lr (-3))] 24)
  replace hB := bt hB hb
  replace hB := bal hB (.cells #[.int .i64 (Wi.Hq (-3)), .int .u64 (Wi.Lr (-3))] 24)
  have E := Blk.new w12 24 #[.int .i64 (Wi.Hq (-3)), .int .u64 (Wi.Lr (-3))]
  clear hb
  go_wp2_with fail
  generalize World.alloc w12 _ = W0 at A B C E hB ⊢
  have hreg : ∀ w', Below W0.heap.size W0 w' → Below W0.heap.size W0 w' ∧ w'.cell? ⟨w1.heap.size, 0, none⟩ = some (.int .i64 4611686018427387904) ∧ w'.cell? ⟨w1.heap.size, 1, none⟩ = some (.int .u64 0) ∧ w'.cell? ⟨w6.heap.size, 0, none⟩ = some (.int .i64 (Wi.Hq (-4))) ∧ w'.cell? ⟨w6.heap.size, 1, none⟩ = some (.int .u64 (Wi.Lr (-4))) ∧ w'.cell? ⟨w9.heap.size, 0, none⟩ = some (.int .i64 (Wi.Hq (-3))) ∧ w'.cell? ⟨w9.heap.size, 1, none⟩ = some (.int .u64 (Wi.Lr (-3))) ∧ w'.cell? ⟨w12.heap.size, 0, none⟩ = some (.int .i64 (Wi.Hq (-3))) ∧ w'.cell? ⟨w12.heap.size, 1, none⟩ = some (.int .u64 (Wi.Lr (-3))) := fun w' h => ⟨h, (A.keep h).cell 0, (A.keep h).cell 1, (B.keep h).cell 0, (B.keep h).cell 1, (C.keep h).cell 0, (C.keep h).cell 1, (E.keep h).cell 0, (E.keep h).cell 1⟩
  go_region_held3 (fun w' => Below W0.heap.size W0 w' ∧ w'.cell? ⟨w1.heap.size, 0, none⟩ = some (.int .i64 4611686018427387904) ∧ w'.cell? ⟨w1.heap.size, 1, none⟩ = some (.int .u64 0) ∧ w'.cell? ⟨w6.heap.size, 0, none⟩ = some (.int .i64 (Wi.Hq (-4))) ∧ w'.cell? ⟨w6.heap.size, 1, none⟩ = some (.int .u64 (Wi.Lr (-4))) ∧ w'.cell? ⟨w9.heap.size, 0, none⟩ = some (.int .i64 (Wi.Hq (-3))) ∧ w'.cell? ⟨w9.heap.size, 1, none⟩ = some (.int .u64 (Wi.Lr (-3))) ∧ w'.cell? ⟨w12.heap.size, 0, none⟩ = some (.int .i64 (Wi.Hq (-3))) ∧ w'.cell? ⟨w12.heap.size, 1, none⟩ = some (.int .u64 (Wi.Lr (-3)))) (first | exact hreg _ (Below.refl _ _).drew | exact keepR hreg hbn (by assumption)) ((go_at_call 43; refine (of_c _ _ (by omega) (by omega)).mono ?_; rintro e wn ⟨rfl, hbn⟩))
  rename_i hS
  have hb0 := hS.1
  clear hS hreg B C E
  replace A := A.keep hb0
  replace hB := bt hB hb0
  clear hb0
  obtain ⟨c00, c01, c02, c03⟩ := A.open2
  go_wp2_with fail
  refine (sqrt_c _ _ _ _ aH).mono ?_
  rw [aw14, aw15]
  rintro e u1 ⟨rfl, hb⟩
  replace hB := bt hB hb
  clear hb c00 c01 c02 c03 A
  go_wp2_with fail
  refine (parse_c ⟨#[48, 48, 55]⟩ _ (by decide)).mono ?_
  rw [show Wi.pE ⟨#[48, 48, 55]⟩ = 4 from aw16]
  generalize Wi.Hq (Wi.pV _) = p1
  generalize Wi.Lr (Wi.pV _) = p2
  rintro e u2 ⟨rfl, hb⟩
  replace hB := bal (bt hB hb) (.cells #[.int .i64 p1, .int .u64 p2] 24)
  clear hb
  go_wp2_with fail
  refine (text_c _ _ 18446744073709551616 _ ⟨by decide, by decide, by unfold Wi.inW; omega⟩).mono ?_
  rw [aw17, show sP = ⟨#[49, 56, 52, 52, 54, 55, 52, 52, 48, 55, 51, 55, 48, 57, 53, 53, 49, 54, 49, 54]⟩ from rfl]
  rintro e u3 ⟨rfl, hb⟩
  replace hB := bt hB hb
  clear hb
  go_wp2_with fail
  refine (text_c _ _ (-18446744073709551616) _ ⟨by decide, by decide, by unfold Wi.inW; omega⟩).mono ?_
  rw [aw18, show sM = ⟨#[45, 49, 56, 52, 52, 54, 55, 52, 52, 48, 55, 51, 55, 48, 57, 53, 53, 49, 54, 49, 54]⟩ from rfl]
  rintro e u4 ⟨rfl, hb⟩
  replace hB := bt hB hb
  clear hb
  go_wp2_with fail
  go_returns
  exact ⟨rfl, hB⟩
end Go.Proofs.Ytnkgoojjnikaeaa
