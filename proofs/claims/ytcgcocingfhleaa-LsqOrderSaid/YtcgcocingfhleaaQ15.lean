/-
  Contract: the examples hold.
-/
import Derived.Test.YtcgcocingfhleaaQ15p
namespace Go.Proofs.Ytcgcocingfhleaa
set_option linter.unusedVariables false
set_option linter.unusedSimpArgs false
open Go.RowKit
attribute [local irreducible] World.setCell World.cell?

set_option maxRecDepth 100000 in
set_option maxHeartbeats 4000000 in
theorem awake_c (w : World) : Calls Try.prog 13 #[] w fun e w' => e = .returned (.bool true) ∧ Below w.heap.size w w' := by
  go_enter Try.func13, Try.ntmps13
  try simp only [List.append_eq, List.cons_append, List.nil_append]
  have KO1 := fun (W : World) => of_c 429496729600 W (by omega) (by omega)
  have KO2 := fun (W : World) => of_c 70 W (by omega) (by omega)
  have KO3 := fun (W : World) => of_c 300 W (by omega) (by omega)
  have A1 := Blk.new w 43 #[.int .i64 (1), .int .i64 (256), .int .i64 (0), .int .i64 (25600), .int .i64 (0), .int .i64 (1), .int .i64 (1), .int .i64 (0), .int .i64 (256), .int .i64 (51200), .int .i64 (0), .int .i64 (1)]
  have hB := ba w (.cells #[.int .i64 (1), .int .i64 (256), .int .i64 (0), .int .i64 (25600), .int .i64 (0), .int .i64 (1), .int .i64 (1), .int .i64 (0), .int .i64 (256), .int .i64 (51200), .int .i64 (0), .int .i64 (1)] 43)
  go_wp2_with fail
  refine (sol1 A1).mono ?_
  rintro e w1 ⟨rfl, hb⟩
  replace A1 := A1.keep hb
  replace hB := bt hB hb
  clear hb
  have hz1 := hB.size
  have l1A1 := A1.lt
  replace A1 := A1.alloc (.cells #[.int .i64 (Wi.Hq (429496729600)), .int .u64 (Wi.Lr (429496729600)), .int .i64 (Wi.Hq (858993459200)), .int .u64 (Wi.Lr (858993459200)), .int .i64 (4294967296), .int .i64 (100), .int .i64 (200)] 38)
  replace hB := bal hB (.cells #[.int .i64 (Wi.Hq (429496729600)), .int .u64 (Wi.Lr (429496729600)), .int .i64 (Wi.Hq (858993459200)), .int .u64 (Wi.Lr (858993459200)), .int .i64 (4294967296), .int .i64 (100), .int .i64 (200)] 38)
  have S1 := Blk.new w1 38 #[.int .i64 (Wi.Hq (429496729600)), .int .u64 (Wi.Lr (429496729600)), .int .i64 (Wi.Hq (858993459200)), .int .u64 (Wi.Lr (858993459200)), .int .i64 (4294967296), .int .i64 (100), .int .i64 (200)]
  replace A1 := A1.alloc (.cells #[.int .i64 (1), .int .i64 (1), .int .i64 (0), .int .i64 (10), .int .i64 (0), .int .i64 (1), .int .i64 (2), .int .i64 (1), .int .i64 (0), .int .i64 (20), .int .i64 (0), .int .i64 (3), .int .i64 (3), .int .i64 (0), .int .i64 (1), .int .i64 (0), .int .i64 (0), .int .i64 (1)] 43)
  replace S1 := S1.alloc (.cells #[.int .i64 (1), .int .i64 (1), .int .i64 (0), .int .i64 (10), .int .i64 (0), .int .i64 (1), .int .i64 (2), .int .i64 (1), .int .i64 (0), .int .i64 (20), .int .i64 (0), .int .i64 (3), .int .i64 (3), .int .i64 (0), .int .i64 (1), .int .i64 (0), .int .i64 (0), .int .i64 (1)] 43)
  replace hB := bal hB (.cells #[.int .i64 (1), .int .i64 (1), .int .i64 (0), .int .i64 (10), .int .i64 (0), .int .i64 (1), .int .i64 (2), .int .i64 (1), .int .i64 (0), .int .i64 (20), .int .i64 (0), .int .i64 (3), .int .i64 (3), .int .i64 (0), .int .i64 (1), .int .i64 (0), .int .i64 (0), .int .i64 (1)] 43)
  have A2 := Blk.new1 w1 (.cells #[.int .i64 (Wi.Hq (429496729600)), .int .u64 (Wi.Lr (429496729600)), .int .i64 (Wi.Hq (858993459200)), .int .u64 (Wi.Lr (858993459200)), .int .i64 (4294967296), .int .i64 (100), .int .i64 (200)] 38) 43 #[.int .i64 (1), .int .i64 (1), .int .i64 (0), .int .i64 (10), .int .i64 (0), .int .i64 (1), .int .i64 (2), .int .i64 (1), .int .i64 (0), .int .i64 (20), .int .i64 (0), .int .i64 (3), .int .i64 (3), .int .i64 (0), .int .i64 (1), .int .i64 (0), .int .i64 (0), .int .i64 (1)]
  go_wp2_with fail
  refine (sol2 A2).mono ?_
  rintro e w2 ⟨rfl, hb⟩
  replace A1 := A1.keep hb
  replace S1 := S1.keep hb
  replace A2 := A2.keep hb
  replace hB := bt hB hb
  clear hb
  have hz2 := hB.size
  have l2A1 := A1.lt
  have l2S1 := S1.lt
  have l2A2 := A2.lt
  replace A1 := A1.alloc (.cells #[.int .i64 (Wi.Hq (70)), .int .u64 (Wi.Lr (70)), .int .i64 (Wi.Hq (0)), .int .u64 (Wi.Lr (0)), .int .i64 (4), .int .i64 (18), .int .i64 (0)] 38)
  replace S1 := S1.alloc (.cells #[.int .i64 (Wi.Hq (70)), .int .u64 (Wi.Lr (70)), .int .i64 (Wi.Hq (0)), .int .u64 (Wi.Lr (0)), .int .i64 (4), .int .i64 (18), .int .i64 (0)] 38)
  replace A2 := A2.alloc (.cells #[.int .i64 (Wi.Hq (70)), .int .u64 (Wi.Lr (70)), .int .i64 (Wi.Hq (0)), .int .u64 (Wi.Lr (0)), .int .i64 (4), .int .i64 (18), .int .i64 (0)] 38)
  replace hB := bal hB (.cells #[.int .i64 (Wi.Hq (70)), .int .u64 (Wi.Lr (70)), .int .i64 (Wi.Hq (0)), .int .u64 (Wi.Lr (0)), .int .i64 (4), .int .i64 (18), .int .i64 (0)] 38)
  have S2 := Blk.new w2 38 #[.int .i64 (Wi.Hq (70)), .int .u64 (Wi.Lr (70)), .int .i64 (Wi.Hq (0)), .int .u64 (Wi.Lr (0)), .int .i64 (4), .int .i64 (18), .int .i64 (0)]
  go_wp2_with fail
  refine (lea2 A2).mono ?_
  rintro e w3 ⟨rfl, hb⟩
  replace A1 := A1.keep hb
  replace S1 := S1.keep hb
  replace A2 := A2.keep hb
  replace S2 := S2.keep hb
  replace hB := bt hB hb
  clear hb
  have hz3 := hB.size
  have l3A1 := A1.lt
  have l3S1 := S1.lt
  have l3A2 := A2.lt
  have l3S2 := S2.lt
  replace A1 := A1.alloc (.cells #[.int .i64 (Wi.Hq (300)), .int .u64 (Wi.Lr (300))] 34)
  replace S1 := S1.alloc (.cells #[.int .i64 (Wi.Hq (300)), .int .u64 (Wi.Lr (300))] 34)
  replace A2 := A2.alloc (.cells #[.int .i64 (Wi.Hq (300)), .int .u64 (Wi.Lr (300))] 34)
  replace S2 := S2.alloc (.cells #[.int .i64 (Wi.Hq (300)), .int .u64 (Wi.Lr (300))] 34)
  replace hB := bal hB (.cells #[.int .i64 (Wi.Hq (300)), .int .u64 (Wi.Lr (300))] 34)
  have D := Blk.new w3 34 #[.int .i64 (Wi.Hq (300)), .int .u64 (Wi.Lr (300))]
  replace A1 := A1.alloc (.cells #[.int .i64 (1), .int .i64 (1), .int .i64 (2), .int .i64 (0), .int .i64 (0), .int .i64 (1), .int .i64 (2), .int .i64 (-2), .int .i64 (-4), .int .i64 (0), .int .i64 (0), .int .i64 (1)] 43)
  replace S1 := S1.alloc (.cells #[.int .i64 (1), .int .i64 (1), .int .i64 (2), .int .i64 (0), .int .i64 (0), .int .i64 (1), .int .i64 (2), .int .i64 (-2), .int .i64 (-4), .int .i64 (0), .int .i64 (0), .int .i64 (1)] 43)
  replace A2 := A2.alloc (.cells #[.int .i64 (1), .int .i64 (1), .int .i64 (2), .int .i64 (0), .int .i64 (0), .int .i64 (1), .int .i64 (2), .int .i64 (-2), .int .i64 (-4), .int .i64 (0), .int .i64 (0), .int .i64 (1)] 43)
  replace S2 := S2.alloc (.cells #[.int .i64 (1), .int .i64 (1), .int .i64 (2), .int .i64 (0), .int .i64 (0), .int .i64 (1), .int .i64 (2), .int .i64 (-2), .int .i64 (-4), .int .i64 (0), .int .i64 (0), .int .i64 (1)] 43)
  replace D := D.alloc (.cells #[.int .i64 (1), .int .i64 (1), .int .i64 (2), .int .i64 (0), .int .i64 (0), .int .i64 (1), .int .i64 (2), .int .i64 (-2), .int .i64 (-4), .int .i64 (0), .int .i64 (0), .int .i64 (1)] 43)
  replace hB := bal hB (.cells #[.int .i64 (1), .int .i64 (1), .int .i64 (2), .int .i64 (0), .int .i64 (0), .int .i64 (1), .int .i64 (2), .int .i64 (-2), .int .i64 (-4), .int .i64 (0), .int .i64 (0), .int .i64 (1)] 43)
  have A3 := Blk.new1 w3 (.cells #[.int .i64 (Wi.Hq (300)), .int .u64 (Wi.Lr (300))] 34) 43 #[.int .i64 (1), .int .i64 (1), .int .i64 (2), .int .i64 (0), .int .i64 (0), .int .i64 (1), .int .i64 (2), .int .i64 (-2), .int .i64 (-4), .int .i64 (0), .int .i64 (0), .int .i64 (1)]
  go_wp2_with fail
  refine (sol3 A3).mono ?_
  rintro e w4 ⟨rfl, hb⟩
  replace A1 := A1.keep hb
  replace S1 := S1.keep hb
  replace A2 := A2.keep hb
  replace S2 := S2.keep hb
  replace D := D.keep hb
  replace A3 := A3.keep hb
  replace hB := bt hB hb
  clear hb
  have hz4 := hB.size
  have l4A1 := A1.lt
  have l4S1 := S1.lt
  have l4A2 := A2.lt
  have l4S2 := S2.lt
  have l4D := D.lt
  have l4A3 := A3.lt
  replace A1 := A1.alloc (.cells #[.int .i64 (0), .int .u64 (0), .int .i64 (0), .int .u64 (0), .int .i64 (0), .int .i64 (0), .int .i64 (0)] 38)
  replace S1 := S1.alloc (.cells #[.int .i64 (0), .int .u64 (0), .int .i64 (0), .int .u64 (0), .int .i64 (0), .int .i64 (0), .int .i64 (0)] 38)
  replace A2 := A2.alloc (.cells #[.int .i64 (0), .int .u64 (0), .int .i64 (0), .int .u64 (0), .int .i64 (0), .int .i64 (0), .int .i64 (0)] 38)
  replace S2 := S2.alloc (.cells #[.int .i64 (0), .int .u64 (0), .int .i64 (0), .int .u64 (0), .int .i64 (0), .int .i64 (0), .int .i64 (0)] 38)
  replace D := D.alloc (.cells #[.int .i64 (0), .int .u64 (0), .int .i64 (0), .int .u64 (0), .int .i64 (0), .int .i64 (0), .int .i64 (0)] 38)
  replace A3 := A3.alloc (.cells #[.int .i64 (0), .int .u64 (0), .int .i64 (0), .int .u64 (0), .int .i64 (0), .int .i64 (0), .int .i64 (0)] 38)
  replace hB := bal hB (.cells #[.int .i64 (0), .int .u64 (0), .int .i64 (0), .int .u64 (0), .int .i64 (0), .int .i64 (0), .int .i64 (0)] 38)
  have S3 := Blk.new w4 38 #[.int .i64 (0), .int .u64 (0), .int .i64 (0), .int .u64 (0), .int .i64 (0), .int .i64 (0), .int .i64 (0)]
  go_wp2_with fail
  generalize World.alloc w4 _ = W0 at S1 S2 D hB ⊢
  have hreg : ∀ w', Below W0.heap.size W0 w' → Below W0.heap.size W0 w' ∧ w'.cell? ⟨w1.heap.size, 0, none⟩ = some (.int .i64 (Wi.Hq (429496729600))) ∧ w'.cell? ⟨w1.heap.size, 1, none⟩ = some (.int .u64 (Wi.Lr (429496729600))) ∧ w'.cell? ⟨w1.heap.size, 2, none⟩ = some (.int .i64 (Wi.Hq (858993459200))) ∧ w'.cell? ⟨w1.heap.size, 3, none⟩ = some (.int .u64 (Wi.Lr (858993459200))) ∧ w'.cell? ⟨w1.heap.size, 4, none⟩ = some (.int .i64 (4294967296)) ∧ w'.cell? ⟨w1.heap.size, 5, none⟩ = some (.int .i64 (100)) ∧ w'.cell? ⟨w1.heap.size, 6, none⟩ = some (.int .i64 (200)) ∧ w'.cell? ⟨w2.heap.size, 0, none⟩ = some (.int .i64 (Wi.Hq (70))) ∧ w'.cell? ⟨w2.heap.size, 1, none⟩ = some (.int .u64 (Wi.Lr (70))) ∧ w'.cell? ⟨w2.heap.size, 2, none⟩ = some (.int .i64 (Wi.Hq (0))) ∧ w'.cell? ⟨w2.heap.size, 3, none⟩ = some (.int .u64 (Wi.Lr (0))) ∧ w'.cell? ⟨w2.heap.size, 4, none⟩ = some (.int .i64 (4)) ∧ w'.cell? ⟨w2.heap.size, 5, none⟩ = some (.int .i64 (18)) ∧ w'.cell? ⟨w2.heap.size, 6, none⟩ = some (.int .i64 (0)) ∧ w'.cell? ⟨w3.heap.size, 0, none⟩ = some (.int .i64 (Wi.Hq (300))) ∧ w'.cell? ⟨w3.heap.size, 1, none⟩ = some (.int .u64 (Wi.Lr (300))) := fun w' h => ⟨h, (S1.keep h).cell 0, (S1.keep h).cell 1, (S1.keep h).cell 2, (S1.keep h).cell 3, (S1.keep h).cell 4, (S1.keep h).cell 5, (S1.keep h).cell 6, (S2.keep h).cell 0, (S2.keep h).cell 1, (S2.keep h).cell 2, (S2.keep h).cell 3, (S2.keep h).cell 4, (S2.keep h).cell 5, (S2.keep h).cell 6, (D.keep h).cell 0, (D.keep h).cell 1⟩
  go_region_held3 (fun w' => Below W0.heap.size W0 w' ∧ w'.cell? ⟨w1.heap.size, 0, none⟩ = some (.int .i64 (Wi.Hq (429496729600))) ∧ w'.cell? ⟨w1.heap.size, 1, none⟩ = some (.int .u64 (Wi.Lr (429496729600))) ∧ w'.cell? ⟨w1.heap.size, 2, none⟩ = some (.int .i64 (Wi.Hq (858993459200))) ∧ w'.cell? ⟨w1.heap.size, 3, none⟩ = some (.int .u64 (Wi.Lr (858993459200))) ∧ w'.cell? ⟨w1.heap.size, 4, none⟩ = some (.int .i64 (4294967296)) ∧ w'.cell? ⟨w1.heap.size, 5, none⟩ = some (.int .i64 (100)) ∧ w'.cell? ⟨w1.heap.size, 6, none⟩ = some (.int .i64 (200)) ∧ w'.cell? ⟨w2.heap.size, 0, none⟩ = some (.int .i64 (Wi.Hq (70))) ∧ w'.cell? ⟨w2.heap.size, 1, none⟩ = some (.int .u64 (Wi.Lr (70))) ∧ w'.cell? ⟨w2.heap.size, 2, none⟩ = some (.int .i64 (Wi.Hq (0))) ∧ w'.cell? ⟨w2.heap.size, 3, none⟩ = some (.int .u64 (Wi.Lr (0))) ∧ w'.cell? ⟨w2.heap.size, 4, none⟩ = some (.int .i64 (4)) ∧ w'.cell? ⟨w2.heap.size, 5, none⟩ = some (.int .i64 (18)) ∧ w'.cell? ⟨w2.heap.size, 6, none⟩ = some (.int .i64 (0)) ∧ w'.cell? ⟨w3.heap.size, 0, none⟩ = some (.int .i64 (Wi.Hq (300))) ∧ w'.cell? ⟨w3.heap.size, 1, none⟩ = some (.int .u64 (Wi.Lr (300)))) (first | exact hreg _ (Below.refl _ _).drew | exact keepR hreg hbn (by assumption)) (first | (go_at_call 35; (first | with_reducible refine (KO1 _).mono ?_ | with_reducible refine (KO2 _).mono ?_ | with_reducible refine (KO3 _).mono ?_); rintro e wn ⟨rfl, hbn⟩))
  rename_i hS
  replace S1 := S1.keep hS.1
  replace S2 := S2.keep hS.1
  replace D := D.keep hS.1
  replace hB := bt hB hS.1
  clear hS hreg
  go_wp2_with fail
  generalize wn = W0 at S1 S2 D hB ⊢
  have hreg : ∀ w', Below W0.heap.size W0 w' → Below W0.heap.size W0 w' ∧ w'.cell? ⟨w1.heap.size, 0, none⟩ = some (.int .i64 (Wi.Hq (429496729600))) ∧ w'.cell? ⟨w1.heap.size, 1, none⟩ = some (.int .u64 (Wi.Lr (429496729600))) ∧ w'.cell? ⟨w1.heap.size, 2, none⟩ = some (.int .i64 (Wi.Hq (858993459200))) ∧ w'.cell? ⟨w1.heap.size, 3, none⟩ = some (.int .u64 (Wi.Lr (858993459200))) ∧ w'.cell? ⟨w1.heap.size, 4, none⟩ = some (.int .i64 (4294967296)) ∧ w'.cell? ⟨w1.heap.size, 5, none⟩ = some (.int .i64 (100)) ∧ w'.cell? ⟨w1.heap.size, 6, none⟩ = some (.int .i64 (200)) ∧ w'.cell? ⟨w2.heap.size, 0, none⟩ = some (.int .i64 (Wi.Hq (70))) ∧ w'.cell? ⟨w2.heap.size, 1, none⟩ = some (.int .u64 (Wi.Lr (70))) ∧ w'.cell? ⟨w2.heap.size, 2, none⟩ = some (.int .i64 (Wi.Hq (0))) ∧ w'.cell? ⟨w2.heap.size, 3, none⟩ = some (.int .u64 (Wi.Lr (0))) ∧ w'.cell? ⟨w2.heap.size, 4, none⟩ = some (.int .i64 (4)) ∧ w'.cell? ⟨w2.heap.size, 5, none⟩ = some (.int .i64 (18)) ∧ w'.cell? ⟨w2.heap.size, 6, none⟩ = some (.int .i64 (0)) ∧ w'.cell? ⟨w3.heap.size, 0, none⟩ = some (.int .i64 (Wi.Hq (300))) ∧ w'.cell? ⟨w3.heap.size, 1, none⟩ = some (.int .u64 (Wi.Lr (300))) := fun w' h => ⟨h, (S1.keep h).cell 0, (S1.keep h).cell 1, (S1.keep h).cell 2, (S1.keep h).cell 3, (S1.keep h).cell 4, (S1.keep h).cell 5, (S1.keep h).cell 6, (S2.keep h).cell 0, (S2.keep h).cell 1, (S2.keep h).cell 2, (S2.keep h).cell 3, (S2.keep h).cell 4, (S2.keep h).cell 5, (S2.keep h).cell 6, (D.keep h).cell 0, (D.keep h).cell 1⟩
  go_region_held3 (fun w' => Below W0.heap.size W0 w' ∧ w'.cell? ⟨w1.heap.size, 0, none⟩ = some (.int .i64 (Wi.Hq (429496729600))) ∧ w'.cell? ⟨w1.heap.size, 1, none⟩ = some (.int .u64 (Wi.Lr (429496729600))) ∧ w'.cell? ⟨w1.heap.size, 2, none⟩ = some (.int .i64 (Wi.Hq (858993459200))) ∧ w'.cell? ⟨w1.heap.size, 3, none⟩ = some (.int .u64 (Wi.Lr (858993459200))) ∧ w'.cell? ⟨w1.heap.size, 4, none⟩ = some (.int .i64 (4294967296)) ∧ w'.cell? ⟨w1.heap.size, 5, none⟩ = some (.int .i64 (100)) ∧ w'.cell? ⟨w1.heap.size, 6, none⟩ = some (.int .i64 (200)) ∧ w'.cell? ⟨w2.heap.size, 0, none⟩ = some (.int .i64 (Wi.Hq (70))) ∧ w'.cell? ⟨w2.heap.size, 1, none⟩ = some (.int .u64 (Wi.Lr (70))) ∧ w'.cell? ⟨w2.heap.size, 2, none⟩ = some (.int .i64 (Wi.Hq (0))) ∧ w'.cell? ⟨w2.heap.size, 3, none⟩ = some (.int .u64 (Wi.Lr (0))) ∧ w'.cell? ⟨w2.heap.size, 4, none⟩ = some (.int .i64 (4)) ∧ w'.cell? ⟨w2.heap.size, 5, none⟩ = some (.int .i64 (18)) ∧ w'.cell? ⟨w2.heap.size, 6, none⟩ = some (.int .i64 (0)) ∧ w'.cell? ⟨w3.heap.size, 0, none⟩ = some (.int .i64 (Wi.Hq (300))) ∧ w'.cell? ⟨w3.heap.size, 1, none⟩ = some (.int .u64 (Wi.Lr (300)))) (first | exact hreg _ (Below.refl _ _).drew | exact keepR hreg hbn (by assumption)) (first | (go_at_call 35; (first | with_reducible refine (KO1 _).mono ?_ | with_reducible refine (KO2 _).mono ?_ | with_reducible refine (KO3 _).mono ?_); rintro e wn ⟨rfl, hbn⟩))
  rename_i hS
  replace S1 := S1.keep hS.1
  replace S2 := S2.keep hS.1
  replace D := D.keep hS.1
  replace hB := bt hB hS.1
  clear hS hreg
  go_wp2_with fail
  go_returns
  exact ⟨rfl, hB⟩
end Go.Proofs.Ytcgcocingfhleaa
