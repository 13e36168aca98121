/-
  The examples, by their contracts.
-/
import Derived.Test.YtcgcocingfhleaaQ12
namespace Go.Proofs.Ytcgcocingfhleaa
set_option linter.unusedVariables false
set_option linter.unusedSimpArgs false
open Go.RowKit
attribute [local irreducible] World.setCell World.cell?

theorem cut_c (A : Option Addr) (n c : Nat) (M : Lq.Tab) (w : World) (T : Rd w 6 A n c (iv M)) : Calls Try.prog 14 #[.slice A n c] w fun e w' => e = .returned (.slice A (if n ≤ 20 then n else 20) c) ∧ w = w' := by
  have r1 := T.le
  have r2 := T.mx
  by_cases h : n ≤ 20
  · rw [if_pos h]
    have f1 : (if (20 : Int) < (n : Int) then (20 : Int) else (n : Int)) = n := if_neg (by omega)
    have f2 : (if (n : Int) < (20 : Int) then (n : Int) else (20 : Int)) = n := by split <;> omega
    go_enter Try.func14, Try.ntmps14
    go_wp2_with fail
    go_returns
    exact ⟨rfl, rfl⟩
  · rw [if_neg h]
    have f2 : (if (n : Int) < (20 : Int) then (n : Int) else (20 : Int)) = 20 := if_neg (by omega)
    have f3 : (20 : Int) ≤ (c : Int) := by omega
    go_enter Try.func14, Try.ntmps14
    go_wp2_with fail
    go_returns
    exact ⟨rfl, rfl⟩
theorem Rd.short {w : World} {q : Nat} {A : Option Addr} {n c : Nat} {V : Nat → Nat → Value} (h : Rd w q A n c V) {k : Nat} (hk : k ≤ n) : Rd w q A k c V :=
  ⟨by have := h.le; omega, h.mx, fun h0 => by
    obtain ⟨b, off, e, hl, hc⟩ := h.at_ (by omega)
    exact ⟨b, off, e, hl, fun i j hi hj => hc i j (by omega) hj⟩⟩
def tab (L : List (List Int)) : Lq.Tab := fun i j => (L.getD i []).getD j 0
def M1 : Lq.Tab := tab [[1, 256, 0, 25600, 0, 1], [1, 0, 256, 51200, 0, 1]]
theorem rd_m1 {w : World} {g : Nat} (h : Blk w g 43 #[.int .i64 (1), .int .i64 (256), .int .i64 (0), .int .i64 (25600), .int .i64 (0), .int .i64 (1), .int .i64 (1), .int .i64 (0), .int .i64 (256), .int .i64 (51200), .int .i64 (0), .int .i64 (1)]) : Rd w 6 (some ⟨g, 0, none⟩) 2 2 (iv M1) :=
  Rd.of_blk h (Nat.le_refl _) (by omega) fun i j hi hj => by
    match i, j, hi, hj with
    | 0, 0, _, _ => rfl
    | 0, 1, _, _ => rfl
    | 0, 2, _, _ => rfl
    | 0, 3, _, _ => rfl
    | 0, 4, _, _ => rfl
    | 0, 5, _, _ => rfl
    | 1, 0, _, _ => rfl
    | 1, 1, _, _ => rfl
    | 1, 2, _, _ => rfl
    | 1, 3, _, _ => rfl
    | 1, 4, _, _ => rfl
    | 1, 5, _, _ => rfl
def M2 : Lq.Tab := tab [[1, 1, 0, 10, 0, 1], [2, 1, 0, 20, 0, 3], [3, 0, 1, 0, 0, 1]]
theorem rd_m2 {w : World} {g : Nat} (h : Blk w g 43 #[.int .i64 (1), .int .i64 (1), .int .i64 (0), .int .i64 (10), .int .i64 (0), .int .i64 (1), .int .i64 (2), .int .i64 (1), .int .i64 (0), .int .i64 (20), .int .i64 (0), .int .i64 (3), .int .i64 (3), .int .i64 (0), .int .i64 (1), .int .i64 (0), .int .i64 (0), .int .i64 (1)]) : Rd w 6 (some ⟨g, 0, none⟩) 3 3 (iv M2) :=
  Rd.of_blk h (Nat.le_refl _) (by omega) fun i j hi hj => by
    match i, j, hi, hj with
    | 0, 0, _, _ => rfl
    | 0, 1, _, _ => rfl
    | 0, 2, _, _ => rfl
    | 0, 3, _, _ => rfl
    | 0, 4, _, _ => rfl
    | 0, 5, _, _ => rfl
    | 1, 0, _, _ => rfl
    | 1, 1, _, _ => rfl
    | 1, 2, _, _ => rfl
    | 1, 3, _, _ => rfl
    | 1, 4, _, _ => rfl
    | 1, 5, _, _ => rfl
    | 2, 0, _, _ => rfl
    | 2, 1, _, _ => rfl
    | 2, 2, _, _ => rfl
    | 2, 3, _, _ => rfl
    | 2, 4, _, _ => rfl
    | 2, 5, _, _ => rfl
def M3 : Lq.Tab := tab [[1, 1, 2, 0, 0, 1], [2, -2, -4, 0, 0, 1]]
theorem rd_m3 {w : World} {g : Nat} (h : Blk w g 43 #[.int .i64 (1), .int .i64 (1), .int .i64 (2), .int .i64 (0), .int .i64 (0), .int .i64 (1), .int .i64 (2), .int .i64 (-2), .int .i64 (-4), .int .i64 (0), .int .i64 (0), .int .i64 (1)]) : Rd w 6 (some ⟨g, 0, none⟩) 2 2 (iv M3) :=
  Rd.of_blk h (Nat.le_refl _) (by omega) fun i j hi hj => by
    match i, j, hi, hj with
    | 0, 0, _, _ => rfl
    | 0, 1, _, _ => rfl
    | 0, 2, _, _ => rfl
    | 0, 3, _, _ => rfl
    | 0, 4, _, _ => rfl
    | 0, 5, _, _ => rfl
    | 1, 0, _, _ => rfl
    | 1, 1, _, _ => rfl
    | 1, 2, _, _ => rfl
    | 1, 3, _, _ => rfl
    | 1, 4, _, _ => rfl
    | 1, 5, _, _ => rfl
theorem aw1 : Lq.er 2 M1 = 0 ∧ Lq.sx 2 M1 = 429496729600 ∧ Lq.sy 2 M1 = 858993459200 ∧ Lq.det 2 M1 = 4294967296 ∧ Lq.nr 429496729600 4294967296 = 100 ∧ Lq.nr 858993459200 4294967296 = 200 := ⟨by decide +kernel, by decide +kernel, by decide +kernel, by decide +kernel, by decide +kernel, by decide +kernel⟩
theorem aw2 : Lq.er 3 M2 = 0 ∧ Lq.sx 3 M2 = 70 ∧ Lq.sy 3 M2 = 0 ∧ Lq.det 3 M2 = 4 ∧ Lq.nr 70 4 = 18 ∧ Lq.nr 0 4 = 0 ∧ Lq.num 3 M2 = 300 := ⟨by decide +kernel, by decide +kernel, by decide +kernel, by decide +kernel, by decide +kernel, by decide +kernel, by decide +kernel⟩
theorem aw3 : Lq.er 2 M3 = 14 := by decide +kernel
theorem sol1 {w : World} {g : Nat} (h : Blk w g 43 #[.int .i64 (1), .int .i64 (256), .int .i64 (0), .int .i64 (25600), .int .i64 (0), .int .i64 (1), .int .i64 (1), .int .i64 (0), .int .i64 (256), .int .i64 (51200), .int .i64 (0), .int .i64 (1)]) : Calls Try.prog 19 #[.slice (some ⟨g, 0, none⟩) 2 2] w fun e w' => e = .returned (.tuple #[.agg #[.int .i64 (Wi.Hq (429496729600)), .int .u64 (Wi.Lr (429496729600)), .int .i64 (Wi.Hq (858993459200)), .int .u64 (Wi.Lr (858993459200)), .int .i64 (4294967296), .int .i64 (100), .int .i64 (200)], .int .i64 0]) ∧ Below w.heap.size w w' := by
  have q := solve_ok _ _ _ M1 w (rd_m1 h) aw1.1
  rw [aw1.2.1, aw1.2.2.1, aw1.2.2.2.1, aw1.2.2.2.2.1, aw1.2.2.2.2.2] at q
  exact q
theorem sol2 {w : World} {g : Nat} (h : Blk w g 43 #[.int .i64 (1), .int .i64 (1), .int .i64 (0), .int .i64 (10), .int .i64 (0), .int .i64 (1), .int .i64 (2), .int .i64 (1), .int .i64 (0), .int .i64 (20), .int .i64 (0), .int .i64 (3), .int .i64 (3), .int .i64 (0), .int .i64 (1), .int .i64 (0), .int .i64 (0), .int .i64 (1)]) : Calls Try.prog 19 #[.slice (some ⟨g, 0, none⟩) 3 3] w fun e w' => e = .returned (.tuple #[.agg #[.int .i64 (Wi.Hq (70)), .int .u64 (Wi.Lr (70)), .int .i64 (Wi.Hq (0)), .int .u64 (Wi.Lr (0)), .int .i64 (4), .int .i64 (18), .int .i64 (0)], .int .i64 0]) ∧ Below w.heap.size w w' := by
  have q := solve_ok _ _ _ M2 w (rd_m2 h) aw2.1
  rw [aw2.2.1, aw2.2.2.1, aw2.2.2.2.1, aw2.2.2.2.2.1, aw2.2.2.2.2.2.1] at q
  exact q
theorem lea2 {w : World} {g : Nat} (h : Blk w g 43 #[.int .i64 (1), .int .i64 (1), .int .i64 (0), .int .i64 (10), .int .i64 (0), .int .i64 (1), .int .i64 (2), .int .i64 (1), .int .i64 (0), .int .i64 (20), .int .i64 (0), .int .i64 (3), .int .i64 (3), .int .i64 (0), .int .i64 (1), .int .i64 (0), .int .i64 (0), .int .i64 (1)]) : Calls Try.prog 23 #[.slice (some ⟨g, 0, none⟩) 3 3] w fun e w' => e = .returned (.tuple #[.agg #[.int .i64 (Wi.Hq (300)), .int .u64 (Wi.Lr (300))], .int .i64 4, .int .i64 0]) ∧ Below w.heap.size w w' :=
  (least_c _ _ _ M2 w (rd_m2 h)).mono fun e w' q => ⟨by have := q.1.1 aw2.1; rw [aw2.2.2.2.2.2.2, aw2.2.2.2.1] at this; exact this, q.2⟩
theorem sol3 {w : World} {g : Nat} (h : Blk w g 43 #[.int .i64 (1), .int .i64 (1), .int .i64 (2), .int .i64 (0), .int .i64 (0), .int .i64 (1), .int .i64 (2), .int .i64 (-2), .int .i64 (-4), .int .i64 (0), .int .i64 (0), .int .i64 (1)]) : Calls Try.prog 19 #[.slice (some ⟨g, 0, none⟩) 2 2] w fun e w' => e = .returned (.tuple #[.agg #[.int .i64 (0), .int .u64 (0), .int .i64 (0), .int .u64 (0), .int .i64 (0), .int .i64 (0), .int .i64 (0)], .int .i64 14]) ∧ Below w.heap.size w w' :=
  (solve_c _ _ _ M3 w (rd_m3 h)).mono fun e w' q => ⟨by have := q.1.2 (by rw [aw3]; decide); rw [aw3] at this; exact this, q.2⟩
end Go.Proofs.Ytcgcocingfhleaa
