/-
  The walk of LsqResiduals.
-/
import Derived.Test.YtcgcocingfhleaaQ19
import Derived.Test.YtcgcocingfhleaaQ11
import Derived.Test.YtcgcocingfhleaaQ14
import Derived.Test.YtcgcocingfhleaaQ14r
namespace Go.Proofs.Ytcgcocingfhleaa
set_option linter.unusedVariables false
set_option linter.unusedSimpArgs false
open Go.RowKit
attribute [local irreducible] World.setCell World.cell?

theorem rres_ok (A : Option Addr) (n c : Nat) (M : Lq.Tab) (px py : Int) (w : World) (T : Rd w 6 A n c (iv M)) (h : Re n M px py = 0) : Calls Try.prog 29 #[.slice A n c, .agg #[.int .i64 px, .int .i64 py]] w fun e w' => e = .returned (.tuple #[.agg #[.int .i64 (Wi.Hq (Lq.qf n M px py 1)), .int .u64 (Wi.Lr (Lq.qf n M px py 1))], .int .i64 0]) ∧ Below w.heap.size w w' := (rresidual_c A n c M px py w T).mono fun _ _ q => ⟨q.1.1 h, q.2⟩
theorem rres_no (A : Option Addr) (n c : Nat) (M : Lq.Tab) (px py : Int) (w : World) (T : Rd w 6 A n c (iv M)) (h : Re n M px py ≠ 0) : Calls Try.prog 29 #[.slice A n c, .agg #[.int .i64 px, .int .i64 py]] w fun e w' => e = .returned (.tuple #[.agg #[.int .i64 (0), .int .u64 (0)], .int .i64 (Re n M px py)]) ∧ Below w.heap.size w w' := (rresidual_c A n c M px py w T).mono fun _ _ q => ⟨q.1.2 h, q.2⟩
set_option maxRecDepth 100000 in
set_option maxHeartbeats 4000000 in
theorem law_residuals (A : Option Addr) (n c : Nat) (M : Lq.Tab) (px py : Int) (w : World) (T : Rd w 6 A n c (iv M)) (bx : -9223372036854775808 ≤ px ∧ px ≤ 9223372036854775807) (by_ : -9223372036854775808 ≤ py ∧ py ≤ 9223372036854775807) :
    Calls Try.prog 11 #[.slice A n c, .agg #[.int .i64 px, .int .i64 py]] w fun e w' => e = .returned (.bool true) ∧ Below w.heap.size w w' := by
  have KC := fun W_ (T_ : Rd W_ 6 A n c (iv M)) => cut_c A n c M W_ T_
  have T0 := T
  have hk : (if n ≤ 20 then n else 20) ≤ n := by split <;> omega
  generalize hk2 : (if n ≤ 20 then n else 20) = k at hk
  replace hk2 := Lib.hid hk2
  simp only [hk2.out] at KC
  have T := T0.short hk
  go_enter Try.func11, Try.ntmps11
  try simp only [List.append_eq, List.cons_append, List.nil_append]
  have P := Blk.new w 36 #[.int .i64 (px), .int .i64 (py)]
  have hB := ba w (.cells #[.int .i64 (px), .int .i64 (py)] 36)
  go_wp2_with fail
  refine (awake_c _).mono ?_
  rintro e w1 ⟨rfl, hb⟩
  replace P := P.keep hb
  replace hB := bt hB hb
  clear hb
  go_wp2_with fail
  refine (KC _ (T0.keep hB)).mono ?_
  rintro e wq ⟨rfl, rfl⟩
  clear KC
  by_cases h : Re k M px py = 0
  · have H := Lib.hid h
    clear h
    obtain ⟨c00, c01, c02, c03⟩ := P.open2
    go_wp2_with fail
    refine (res_ok _ _ _ _ _ _ _ (T.keep hB) H.out).mono ?_
    rintro e w2 ⟨rfl, hb⟩
    clear c00 c01 c02 c03
    replace P := P.keep hb
    replace hB := bt hB hb
    clear hb
    have hz2 := hB.size
    have l2P := P.lt
    replace P := P.alloc (.cells #[.int .i64 (Wi.Hq (Lq.qf k M px py 1)), .int .u64 (Wi.Lr (Lq.qf k M px py 1))] 34)
    replace hB := bal hB (.cells #[.int .i64 (Wi.Hq (Lq.qf k M px py 1)), .int .u64 (Wi.Lr (Lq.qf k M px py 1))] 34)
    have N := Blk.new w2 34 #[.int .i64 (Wi.Hq (Lq.qf k M px py 1)), .int .u64 (Wi.Lr (Lq.qf k M px py 1))]
    obtain ⟨c00, c01, c02, c03⟩ := P.open2
    obtain ⟨c10, c11, c12, c13⟩ := N.open2
    go_wp2_with fail
    refine (rres_ok _ _ _ _ _ _ _ (T.keep hB) H.out).mono ?_
    rintro e w3 ⟨rfl, hb⟩
    clear c00 c01 c02 c03 c10 c11 c12 c13
    replace P := P.keep hb
    replace N := N.keep hb
    replace hB := bt hB hb
    clear hb
    have hz3 := hB.size
    have l3P := P.lt
    have l3N := N.lt
    replace P := P.alloc (.cells #[.int .i64 (Wi.Hq (Lq.qf k M px py 1)), .int .u64 (Wi.Lr (Lq.qf k M px py 1))] 34)
    replace N := N.alloc (.cells #[.int .i64 (Wi.Hq (Lq.qf k M px py 1)), .int .u64 (Wi.Lr (Lq.qf k M px py 1))] 34)
    replace hB := bal hB (.cells #[.int .i64 (Wi.Hq (Lq.qf k M px py 1)), .int .u64 (Wi.Lr (Lq.qf k M px py 1))] 34)
    have N2 := Blk.new w3 34 #[.int .i64 (Wi.Hq (Lq.qf k M px py 1)), .int .u64 (Wi.Lr (Lq.qf k M px py 1))]
    obtain ⟨v0, v1, v2, v3⟩ := N.open2
    obtain ⟨v4, v5, v6, v7⟩ := N2.open2
    have r1 := T.le
    have r2 := T.mx
    clear N N2
    go_wp2_with fail
    clear v0 v1 v2 v3 v4 v5 v6 v7
    go_loopw [37] (fun i wr => ∃ j : Nat, j ≤ k ∧ i = .int .i64 j ∧ Blk wr w.heap.size 36 #[.int .i64 (px), .int .i64 (py)] ∧ Below w.heap.size w wr) (fun i _ => k - (intOf i).toNat)
    case atStart => exact ⟨0, Nat.zero_le _, rfl, P, hB⟩
    case round =>
      clear P hB
      rename_i wr
      obtain ⟨j, hj, rfl, P, hB⟩ := hrel
      by_cases hlt : j < k
      · obtain ⟨bb, off, eA, hbl, u0, u1, u2, u3, u4, u5⟩ := (T.keep hB).at6 hlt
        have HA := Lib.hid eA
        rw [HA.out]
        clear eA
        have KH := fun W_ : World => holds_c (M j 0) (M j 1) (M j 2) (M j 3) (M j 4) (M j 5) px py W_ bx by_
        have KR := fun W_ : World => rholds_c (M j 0) (M j 1) (M j 2) (M j 3) (M j 4) (M j 5) px py W_ bx by_
        generalize hold (M j 0) (M j 1) (M j 2) (M j 3) (M j 4) (M j 5) px py = t at KH KR
        replace P := P.alloc (.cells #[.int .i64 (M j 0), .int .i64 (M j 1), .int .i64 (M j 2), .int .i64 (M j 3), .int .i64 (M j 4), .int .i64 (M j 5)] 43)
        replace hB := bal hB (.cells #[.int .i64 (M j 0), .int .i64 (M j 1), .int .i64 (M j 2), .int .i64 (M j 3), .int .i64 (M j 4), .int .i64 (M j 5)] 43)
        have X := Blk.new wr 43 #[.int .i64 (M j 0), .int .i64 (M j 1), .int .i64 (M j 2), .int .i64 (M j 3), .int .i64 (M j 4), .int .i64 (M j 5)]
        go_wp2_with fail
        generalize World.alloc wr _ = W0 at P X hB ⊢
        have hreg : ∀ w', Below W0.heap.size W0 w' → Below W0.heap.size W0 w' ∧ w'.cell? ⟨w.heap.size, 0, none⟩ = some (.int .i64 (px)) ∧ w'.cell? ⟨w.heap.size, 1, none⟩ = some (.int .i64 (py)) ∧ w'.cell? ⟨wr.heap.size, 0, none⟩ = some (.int .i64 (M j 0)) ∧ w'.cell? ⟨wr.heap.size, 1, none⟩ = some (.int .i64 (M j 1)) ∧ w'.cell? ⟨wr.heap.size, 2, none⟩ = some (.int .i64 (M j 2)) ∧ w'.cell? ⟨wr.heap.size, 3, none⟩ = some (.int .i64 (M j 3)) ∧ w'.cell? ⟨wr.heap.size, 4, none⟩ = some (.int .i64 (M j 4)) ∧ w'.cell? ⟨wr.heap.size, 5, none⟩ = some (.int .i64 (M j 5)) := fun w' h => ⟨h, (P.keep h).cell 0, (P.keep h).cell 1, (X.keep h).cell 0, (X.keep h).cell 1, (X.keep h).cell 2, (X.keep h).cell 3, (X.keep h).cell 4, (X.keep h).cell 5⟩
        go_region_held3 (fun w' => Below W0.heap.size W0 w' ∧ w'.cell? ⟨w.heap.size, 0, none⟩ = some (.int .i64 (px)) ∧ w'.cell? ⟨w.heap.size, 1, none⟩ = some (.int .i64 (py)) ∧ w'.cell? ⟨wr.heap.size, 0, none⟩ = some (.int .i64 (M j 0)) ∧ w'.cell? ⟨wr.heap.size, 1, none⟩ = some (.int .i64 (M j 1)) ∧ w'.cell? ⟨wr.heap.size, 2, none⟩ = some (.int .i64 (M j 2)) ∧ w'.cell? ⟨wr.heap.size, 3, none⟩ = some (.int .i64 (M j 3)) ∧ w'.cell? ⟨wr.heap.size, 4, none⟩ = some (.int .i64 (M j 4)) ∧ w'.cell? ⟨wr.heap.size, 5, none⟩ = some (.int .i64 (M j 5))) (first | exact hreg _ (Below.refl _ _).drew | exact keepR hreg hbn (by assumption)) (first | (go_at_call 30; (first | with_reducible refine (KH _).mono ?_); rintro e wn ⟨rfl, hbn⟩) | (go_at_call 31; (first | with_reducible refine (KR _).mono ?_); rintro e wn ⟨rfl, hbn⟩))
        rename_i hS
        replace P := P.keep hS.1
        replace X := X.keep hS.1
        replace hB := bt hB hS.1
        clear hS hreg
        cases t
        all_goals
          go_wp2_with fail
          go_roundw
          case rel => exact ⟨j + 1, by omega, by go_num, P, hB⟩
          case measure => simp [intOf]; omega
      · obtain rfl : j = k := by omega
        go_wp2_with fail
        go_returns
        exact ⟨rfl, hB⟩
  · have H := Lib.hid h
    clear h
    have hee : (Re k M px py != Re k M px py) = false := by simp
    obtain ⟨c00, c01, c02, c03⟩ := P.open2
    go_wp2_with fail
    refine (res_no _ _ _ _ _ _ _ (T.keep hB) H.out).mono ?_
    rintro e w2 ⟨rfl, hb⟩
    clear c00 c01 c02 c03
    replace P := P.keep hb
    replace hB := bt hB hb
    clear hb
    have hz2 := hB.size
    have l2P := P.lt
    replace P := P.alloc (.cells #[.int .i64 (0), .int .u64 (0)] 34)
    replace hB := bal hB (.cells #[.int .i64 (0), .int .u64 (0)] 34)
    have N := Blk.new w2 34 #[.int .i64 (0), .int .u64 (0)]
    obtain ⟨c00, c01, c02, c03⟩ := P.open2
    obtain ⟨c10, c11, c12, c13⟩ := N.open2
    go_wp2_with fail
    refine (rres_no _ _ _ _ _ _ _ (T.keep hB) H.out).mono ?_
    rintro e w3 ⟨rfl, hb⟩
    clear c00 c01 c02 c03 c10 c11 c12 c13
    replace P := P.keep hb
    replace N := N.keep hb
    replace hB := bt hB hb
    clear hb
    have hz3 := hB.size
    have l3P := P.lt
    have l3N := N.lt
    replace P := P.alloc (.cells #[.int .i64 (0), .int .u64 (0)] 34)
    replace N := N.alloc (.cells #[.int .i64 (0), .int .u64 (0)] 34)
    replace hB := bal hB (.cells #[.int .i64 (0), .int .u64 (0)] 34)
    have N2 := Blk.new w3 34 #[.int .i64 (0), .int .u64 (0)]
    obtain ⟨v0, v1, v2, v3⟩ := N.open2
    obtain ⟨v4, v5, v6, v7⟩ := N2.open2
    have r1 := T.le
    have r2 := T.mx
    clear N N2
    go_wp2_with fail
    clear v0 v1 v2 v3 v4 v5 v6 v7 hee
    go_loopw [37] (fun i wr => ∃ j : Nat, j ≤ k ∧ i = .int .i64 j ∧ Blk wr w.heap.size 36 #[.int .i64 (px), .int .i64 (py)] ∧ Below w.heap.size w wr) (fun i _ => k - (intOf i).toNat)
    case atStart => exact ⟨0, Nat.zero_le _, rfl, P, hB⟩
    case round =>
      clear P hB
      rename_i wr
      obtain ⟨j, hj, rfl, P, hB⟩ := hrel
      by_cases hlt : j < k
      · obtain ⟨bb, off, eA, hbl, u0, u1, u2, u3, u4, u5⟩ := (T.keep hB).at6 hlt
        have HA := Lib.hid eA
        rw [HA.out]
        clear eA
        have KH := fun W_ : World => holds_c (M j 0) (M j 1) (M j 2) (M j 3) (M j 4) (M j 5) px py W_ bx by_
        have KR := fun W_ : World => rholds_c (M j 0) (M j 1) (M j 2) (M j 3) (M j 4) (M j 5) px py W_ bx by_
        generalize hold (M j 0) (M j 1) (M j 2) (M j 3) (M j 4) (M j 5) px py = t at KH KR
        replace P := P.alloc (.cells #[.int .i64 (M j 0), .int .i64 (M j 1), .int .i64 (M j 2), .int .i64 (M j 3), .int .i64 (M j 4), .int .i64 (M j 5)] 43)
        replace hB := bal hB (.cells #[.int .i64 (M j 0), .int .i64 (M j 1), .int .i64 (M j 2), .int .i64 (M j 3), .int .i64 (M j 4), .int .i64 (M j 5)] 43)
        have X := Blk.new wr 43 #[.int .i64 (M j 0), .int .i64 (M j 1), .int .i64 (M j 2), .int .i64 (M j 3), .int .i64 (M j 4), .int .i64 (M j 5)]
        go_wp2_with fail
        generalize World.alloc wr _ = W0 at P X hB ⊢
        have hreg : ∀ w', Below W0.heap.size W0 w' → Below W0.heap.size W0 w' ∧ w'.cell? ⟨w.heap.size, 0, none⟩ = some (.int .i64 (px)) ∧ w'.cell? ⟨w.heap.size, 1, none⟩ = some (.int .i64 (py)) ∧ w'.cell? ⟨wr.heap.size, 0, none⟩ = some (.int .i64 (M j 0)) ∧ w'.cell? ⟨wr.heap.size, 1, none⟩ = some (.int .i64 (M j 1)) ∧ w'.cell? ⟨wr.heap.size, 2, none⟩ = some (.int .i64 (M j 2)) ∧ w'.cell? ⟨wr.heap.size, 3, none⟩ = some (.int .i64 (M j 3)) ∧ w'.cell? ⟨wr.heap.size, 4, none⟩ = some (.int .i64 (M j 4)) ∧ w'.cell? ⟨wr.heap.size, 5, none⟩ = some (.int .i64 (M j 5)) := fun w' h => ⟨h, (P.keep h).cell 0, (P.keep h).cell 1, (X.keep h).cell 0, (X.keep h).cell 1, (X.keep h).cell 2, (X.keep h).cell 3, (X.keep h).cell 4, (X.keep h).cell 5⟩
        go_region_held3 (fun w' => Below W0.heap.size W0 w' ∧ w'.cell? ⟨w.heap.size, 0, none⟩ = some (.int .i64 (px)) ∧ w'.cell? ⟨w.heap.size, 1, none⟩ = some (.int .i64 (py)) ∧ w'.cell? ⟨wr.heap.size, 0, none⟩ = some (.int .i64 (M j 0)) ∧ w'.cell? ⟨wr.heap.size, 1, none⟩ = some (.int .i64 (M j 1)) ∧ w'.cell? ⟨wr.heap.size, 2, none⟩ = some (.int .i64 (M j 2)) ∧ w'.cell? ⟨wr.heap.size, 3, none⟩ = some (.int .i64 (M j 3)) ∧ w'.cell? ⟨wr.heap.size, 4, none⟩ = some (.int .i64 (M j 4)) ∧ w'.cell? ⟨wr.heap.size, 5, none⟩ = some (.int .i64 (M j 5))) (first | exact hreg _ (Below.refl _ _).drew | exact keepR hreg hbn (by assumption)) (first | (go_at_call 30; (first | with_reducible refine (KH _).mono ?_); rintro e wn ⟨rfl, hbn⟩) | (go_at_call 31; (first | with_reducible refine (KR _).mono ?_); rintro e wn ⟨rfl, hbn⟩))
        rename_i hS
        replace P := P.keep hS.1
        replace X := X.keep hS.1
        replace hB := bt hB hS.1
        clear hS hreg
        cases t
        all_goals
          go_wp2_with fail
          go_roundw
          case rel => exact ⟨j + 1, by omega, by go_num, P, hB⟩
          case measure => simp [intOf]; omega
      · obtain rfl : j = k := by omega
        go_wp2_with fail
        go_returns
        exact ⟨rfl, hB⟩
end Go.Proofs.Ytcgcocingfhleaa
