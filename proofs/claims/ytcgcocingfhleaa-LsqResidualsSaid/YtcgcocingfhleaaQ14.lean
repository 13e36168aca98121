/-
  Contract: Holds.
-/
import Derived.Test.YtcgcocingfhleaaQ14p
import Derived.Test.YtcgcocingfhleaaQ3
namespace Go.Proofs.Ytcgcocingfhleaa
set_option linter.unusedVariables false
set_option linter.unusedSimpArgs false
open Go.RowKit
attribute [local irreducible] World.setCell World.cell?

set_option maxRecDepth 100000 in
set_option maxHeartbeats 4000000 in
theorem holds_c (s a b z d g px py : Int) (w : World) (x1 : -9223372036854775808 ≤ px ∧ px ≤ 9223372036854775807) (y1 : -9223372036854775808 ≤ py ∧ py ≤ 9223372036854775807) :
    Calls Try.prog 30 #[.agg #[.int .i64 s, .int .i64 a, .int .i64 b, .int .i64 z, .int .i64 d, .int .i64 g], .agg #[.int .i64 px, .int .i64 py]] w fun e w' => e = .returned (.bool (hold s a b z d g px py)) ∧ Below w.heap.size w w' := by
  cases v1 : Lq.vm s a b z d g
  · have HE := Lib.hid (hold_1 (px := px) (py := py) v1)
    have E1 := Lib.hid v1
    have KV := fun W_ : World => valid_c s a b z d g W_
    rw [v1] at KV
    clear v1
    go_enter Try.func30, Try.ntmps30
    have X := Blk.new w 43 #[.int .i64 (s), .int .i64 (a), .int .i64 (b), .int .i64 (z), .int .i64 (d), .int .i64 (g)]
    have hB := ba w (.cells #[.int .i64 (s), .int .i64 (a), .int .i64 (b), .int .i64 (z), .int .i64 (d), .int .i64 (g)] 43)
    have P := Blk.new1 w (.cells #[.int .i64 (s), .int .i64 (a), .int .i64 (b), .int .i64 (z), .int .i64 (d), .int .i64 (g)] 43) 36 #[.int .i64 (px), .int .i64 (py)]
    replace X := X.alloc (.cells #[.int .i64 (px), .int .i64 (py)] 36)
    replace hB := bal hB (.cells #[.int .i64 (px), .int .i64 (py)] 36)
    go_wp2_with fail
    (first | go_region_with (go_at_call 36; refine (KV _).mono ?_; rintro e w1 ⟨rfl, hb1⟩) | fail)
    all_goals
      go_wp2_with fail
      go_returns
      exact ⟨ret_bool HE.out.symm, by first | exact bt (bdr hB) hb1 | exact bt hB hb1⟩
  cases v2 : Lq.pv px py
  · have HE := Lib.hid (hold_2 v1 v2)
    have E1 := Lib.hid v1
    have KV := fun W_ : World => valid_c s a b z d g W_
    rw [v1] at KV
    have KP := fun W_ : World => pvalid_c px py W_
    rw [v2] at KP
    clear v1 v2
    go_enter Try.func30, Try.ntmps30
    have X := Blk.new w 43 #[.int .i64 (s), .int .i64 (a), .int .i64 (b), .int .i64 (z), .int .i64 (d), .int .i64 (g)]
    have hB := ba w (.cells #[.int .i64 (s), .int .i64 (a), .int .i64 (b), .int .i64 (z), .int .i64 (d), .int .i64 (g)] 43)
    have P := Blk.new1 w (.cells #[.int .i64 (s), .int .i64 (a), .int .i64 (b), .int .i64 (z), .int .i64 (d), .int .i64 (g)] 43) 36 #[.int .i64 (px), .int .i64 (py)]
    replace X := X.alloc (.cells #[.int .i64 (px), .int .i64 (py)] 36)
    replace hB := bal hB (.cells #[.int .i64 (px), .int .i64 (py)] 36)
    go_wp2_with fail
    (first | go_region_with (first | (go_at_call 36; refine (KV _).mono ?_; rintro e w1 ⟨rfl, hb1⟩; have P1 := P.drew.keep hb1; obtain ⟨y0, y3, y4, y5⟩ := P1.open2) | (go_at_call 22; refine (KP _).mono ?_; rintro e w2 ⟨rfl, hb2⟩)) | fail)
    all_goals
      go_wp2_with fail
      go_returns
      exact ⟨ret_bool HE.out.symm, bt (by first | exact bt (bdr hB) hb1 | exact bt hB hb1) hb2⟩
  obtain ⟨a1, a2, b1, b2, z1, z2, d1, d2⟩ := vm_bd v1
  obtain ⟨q1, q2, q3, q4⟩ := Lq.pv_iff.1 v2
  obtain ⟨m1, m2, m3, m4, m5, m6⟩ := ms_bd a1 a2 b1 b2 z1 z2 q1 q2 q3 q4
  by_cases hh : Wi.ab (a * px + b * py - z) ≤ d
  · have HE := Lib.hid (hold_3 (t := true) v1 v2 (decide_eq_true (by unfold Wi.ab at hh; split at hh <;> omega)))
    have E1 := Lib.hid v1
    have KV := fun W_ : World => valid_c s a b z d g W_
    rw [v1] at KV
    have KP := fun W_ : World => pvalid_c px py W_
    rw [v2] at KP
    clear v1 v2
    have KM := fun W_ : World => miss_c s a b z d g px py W_ a1 a2 b1 b2 z1 z2 q1 q2 q3 q4
    have KA := fun W_ : World => fabs_c (a * px + b * py - z) W_ (by omega) (by omega)
    have hd : decide (Wi.ab (a * px + b * py - z) ≤ d) = true := decide_eq_true hh
    clear hh
    generalize a * px + b * py - z = mm at KM KA hd
    generalize Wi.ab mm = aa at KA hd
    clear m1 m2 m3 m4 m5 m6
    go_enter Try.func30, Try.ntmps30
    have X := Blk.new w 43 #[.int .i64 (s), .int .i64 (a), .int .i64 (b), .int .i64 (z), .int .i64 (d), .int .i64 (g)]
    have hB := ba w (.cells #[.int .i64 (s), .int .i64 (a), .int .i64 (b), .int .i64 (z), .int .i64 (d), .int .i64 (g)] 43)
    have P := Blk.new1 w (.cells #[.int .i64 (s), .int .i64 (a), .int .i64 (b), .int .i64 (z), .int .i64 (d), .int .i64 (g)] 43) 36 #[.int .i64 (px), .int .i64 (py)]
    replace X := X.alloc (.cells #[.int .i64 (px), .int .i64 (py)] 36)
    replace hB := bal hB (.cells #[.int .i64 (px), .int .i64 (py)] 36)
    go_wp2_with fail
    generalize World.alloc (World.alloc w _) _ = W0 at X P hB ⊢
    have hreg : ∀ w', Below W0.heap.size W0 w' → Below W0.heap.size W0 w' ∧ w'.cell? ⟨w.heap.size, 0, none⟩ = some (.int .i64 (s)) ∧ w'.cell? ⟨w.heap.size, 1, none⟩ = some (.int .i64 (a)) ∧ w'.cell? ⟨w.heap.size, 2, none⟩ = some (.int .i64 (b)) ∧ w'.cell? ⟨w.heap.size, 3, none⟩ = some (.int .i64 (z)) ∧ w'.cell? ⟨w.heap.size, 4, none⟩ = some (.int .i64 (d)) ∧ w'.cell? ⟨w.heap.size, 5, none⟩ = some (.int .i64 (g)) ∧ w'.cell? ⟨w.heap.size + 1, 0, none⟩ = some (.int .i64 (px)) ∧ w'.cell? ⟨w.heap.size + 1, 1, none⟩ = some (.int .i64 (py)) := fun w' h => ⟨h, (X.keep h).cell 0, (X.keep h).cell 1, (X.keep h).cell 2, (X.keep h).cell 3, (X.keep h).cell 4, (X.keep h).cell 5, (P.keep h).cell 0, (P.keep h).cell 1⟩
    go_region_held3 (fun w' => Below W0.heap.size W0 w' ∧ w'.cell? ⟨w.heap.size, 0, none⟩ = some (.int .i64 (s)) ∧ w'.cell? ⟨w.heap.size, 1, none⟩ = some (.int .i64 (a)) ∧ w'.cell? ⟨w.heap.size, 2, none⟩ = some (.int .i64 (b)) ∧ w'.cell? ⟨w.heap.size, 3, none⟩ = some (.int .i64 (z)) ∧ w'.cell? ⟨w.heap.size, 4, none⟩ = some (.int .i64 (d)) ∧ w'.cell? ⟨w.heap.size, 5, none⟩ = some (.int .i64 (g)) ∧ w'.cell? ⟨w.heap.size + 1, 0, none⟩ = some (.int .i64 (px)) ∧ w'.cell? ⟨w.heap.size + 1, 1, none⟩ = some (.int .i64 (py))) (first | exact hreg _ (Below.refl _ _).drew | exact keepR hreg hbn (by assumption)) (first | (go_at_call 36; (first | with_reducible refine (KV _).mono ?_); rintro e wn ⟨rfl, hbn⟩) | (go_at_call 22; (first | with_reducible refine (KP _).mono ?_); rintro e wn ⟨rfl, hbn⟩) | (go_at_call 49; (first | with_reducible refine (KM _).mono ?_); rintro e wn ⟨rfl, hbn⟩) | (go_at_call 57; (first | with_reducible refine (KA _).mono ?_); rintro e wn ⟨rfl, hbn⟩))
    rename_i hS
    replace X := X.keep hS.1
    replace P := P.keep hS.1
    replace hB := bt hB hS.1
    clear hS hreg
    go_wp2_with fail
    go_returns
    exact ⟨ret_bool HE.out.symm, hB⟩
  · have HE := Lib.hid (hold_3 (t := false) v1 v2 (decide_eq_false (by unfold Wi.ab at hh; split at hh <;> omega)))
    have E1 := Lib.hid v1
    have KV := fun W_ : World => valid_c s a b z d g W_
    rw [v1] at KV
    have KP := fun W_ : World => pvalid_c px py W_
    rw [v2] at KP
    clear v1 v2
    have KM := fun W_ : World => miss_c s a b z d g px py W_ a1 a2 b1 b2 z1 z2 q1 q2 q3 q4
    have KA := fun W_ : World => fabs_c (a * px + b * py - z) W_ (by omega) (by omega)
    have hd : decide (Wi.ab (a * px + b * py - z) ≤ d) = false := decide_eq_false hh
    clear hh
    generalize a * px + b * py - z = mm at KM KA hd
    generalize Wi.ab mm = aa at KA hd
    clear m1 m2 m3 m4 m5 m6
    go_enter Try.func30, Try.ntmps30
    have X := Blk.new w 43 #[.int .i64 (s), .int .i64 (a), .int .i64 (b), .int .i64 (z), .int .i64 (d), .int .i64 (g)]
    have hB := ba w (.cells #[.int .i64 (s), .int .i64 (a), .int .i64 (b), .int .i64 (z), .int .i64 (d), .int .i64 (g)] 43)
    have P := Blk.new1 w (.cells #[.int .i64 (s), .int .i64 (a), .int .i64 (b), .int .i64 (z), .int .i64 (d), .int .i64 (g)] 43) 36 #[.int .i64 (px), .int .i64 (py)]
    replace X := X.alloc (.cells #[.int .i64 (px), .int .i64 (py)] 36)
    replace hB := bal hB (.cells #[.int .i64 (px), .int .i64 (py)] 36)
    go_wp2_with fail
    generalize World.alloc (World.alloc w _) _ = W0 at X P hB ⊢
    have hreg : ∀ w', Below W0.heap.size W0 w' → Below W0.heap.size W0 w' ∧ w'.cell? ⟨w.heap.size, 0, none⟩ = some (.int .i64 (s)) ∧ w'.cell? ⟨w.heap.size, 1, none⟩ = some (.int .i64 (a)) ∧ w'.cell? ⟨w.heap.size, 2, none⟩ = some (.int .i64 (b)) ∧ w'.cell? ⟨w.heap.size, 3, none⟩ = some (.int .i64 (z)) ∧ w'.cell? ⟨w.heap.size, 4, none⟩ = some (.int .i64 (d)) ∧ w'.cell? ⟨w.heap.size, 5, none⟩ = some (.int .i64 (g)) ∧ w'.cell? ⟨w.heap.size + 1, 0, none⟩ = some (.int .i64 (px)) ∧ w'.cell? ⟨w.heap.size + 1, 1, none⟩ = some (.int .i64 (py)) := fun w' h => ⟨h, (X.keep h).cell 0, (X.keep h).cell 1, (X.keep h).cell 2, (X.keep h).cell 3, (X.keep h).cell 4, (X.keep h).cell 5, (P.keep h).cell 0, (P.keep h).cell 1⟩
    go_region_held3 (fun w' => Below W0.heap.size W0 w' ∧ w'.cell? ⟨w.heap.size, 0, none⟩ = some (.int .i64 (s)) ∧ w'.cell? ⟨w.heap.size, 1, none⟩ = some (.int .i64 (a)) ∧ w'.cell? ⟨w.heap.size, 2, none⟩ = some (.int .i64 (b)) ∧ w'.cell? ⟨w.heap.size, 3, none⟩ = some (.int .i64 (z)) ∧ w'.cell? ⟨w.heap.size, 4, none⟩ = some (.int .i64 (d)) ∧ w'.cell? ⟨w.heap.size, 5, none⟩ = some (.int .i64 (g)) ∧ w'.cell? ⟨w.heap.size + 1, 0, none⟩ = some (.int .i64 (px)) ∧ w'.cell? ⟨w.heap.size + 1, 1, none⟩ = some (.int .i64 (py))) (first | exact hreg _ (Below.refl _ _).drew | exact keepR hreg hbn (by assumption)) (first | (go_at_call 36; (first | with_reducible refine (KV _).mono ?_); rintro e wn ⟨rfl, hbn⟩) | (go_at_call 22; (first | with_reducible refine (KP _).mono ?_); rintro e wn ⟨rfl, hbn⟩) | (go_at_call 49; (first | with_reducible refine (KM _).mono ?_); rintro e wn ⟨rfl, hbn⟩) | (go_at_call 57; (first | with_reducible refine (KA _).mono ?_); rintro e wn ⟨rfl, hbn⟩))
    rename_i hS
    replace X := X.keep hS.1
    replace P := P.keep hS.1
    replace hB := bt hB hS.1
    clear hS hreg
    go_wp2_with fail
    go_returns
    exact ⟨ret_bool HE.out.symm, hB⟩
end Go.Proofs.Ytcgcocingfhleaa
