/-
  Contracts: the laws' examples and the comparison of windows.
-/
import Derived.Test.YtgfmheaijdcgoaaW13
namespace Go.Proofs.Ytgfmheaijdcgoaa
set_option linter.unusedVariables false
set_option linter.unusedSimpArgs false
open Go.RowKit

/-- A list of pairs as a table, and as cells. -/
def tb (l : List (Int × Int)) : Nat → Nat → Int := fun i f => if f = 0 then (l.getD i (0, 0)).1 else (l.getD i (0, 0)).2
def fl : List (Int × Int) → List Value
  | [] => []
  | p :: l => .int .i64 p.1 :: .int .i64 p.2 :: fl l
theorem fl_get : ∀ (l : List (Int × Int)) (i j : Nat), i < l.length → j < 2 → (fl l)[i * 2 + j]? = some (iv (tb l) i j)
  | p :: l, 0, j, _, hj => by
    match j, hj with
    | 0, _ => rfl
    | 1, _ => rfl
  | p :: l, i + 1, j, hi, hj => by
    have := fl_get l i j (by simpa using hi) hj
    rw [show (i + 1) * 2 + j = (i * 2 + j) + 2 from by omega]
    simpa [fl, iv, tb] using this
theorem Rd.lit {w : World} {g : Nat} {t : TypeId} {cs : Array Value} {n : Nat} (l : List (Int × Int)) (h : Blk w g t cs) (e : cs = (fl l).toArray) (hn : n = l.length) (hm : n ≤ 9223372036854775807) : Rd w 2 (some ⟨g, 0, none⟩) n n (iv (tb l)) := by
  subst e hn
  exact Rd.of_blk h (Nat.le_refl _) hm fun i j hi hj => by simpa using fl_get l i j hi hj
def nb (l : List Int) : Nat → Int := fun i => l.getD i 0
theorem Rd.litn {w : World} {g : Nat} {t : TypeId} {cs : Array Value} {n : Nat} (l : List Int) (h : Blk w g t cs) (e : cs = (l.map (Value.int .i64)).toArray) (hn : n = l.length) (hm : n ≤ 9223372036854775807) : Rd w 1 (some ⟨g, 0, none⟩) n n (nv (nb l)) := by
  subst e hn
  exact Rd.of_blk h (Nat.le_refl _) hm fun i j hi hj => by
    obtain rfl : j = 0 := by omega
    simp [nv, nb, List.getD, List.getElem?_eq_getElem hi]
def exW : List (Int × Int) := [(0, 10), (0, 100), (50, 60)]
def exS1 : List (Int × Int) := [(15, 5), (20, 5)]
def exS2 : List (Int × Int) := [(25, 5), (20, 5)]
def exW3 : List (Int × Int) := [(5, 4), (0, 1)]
def exS3 : List (Int × Int) := [(0, 0)]
theorem ex1 : Co.fI 3 (tb exW) 2 (tb exS1) = 0 ∧ Co.fJ 3 (tb exW) 2 (tb exS1) = 2 ∧ Co.fB 3 (tb exW) 2 (tb exS1) = true ∧ Co.ck 3 (tb exW) 2 (tb exS1) = 0 := by decide +kernel
theorem ex2 : Co.xsV 3 (tb exW) 2 (tb exS1) 0 2 = 5 ∧ Co.xsE 3 (tb exW) 2 (tb exS1) 0 2 = 0 := by decide +kernel
theorem ex3 : Co.tgE 3 (tb exW) 2 (tb exS2) = 0 ∧ Co.tgL 3 (tb exW) 2 (tb exS2) = 3 := by decide +kernel
theorem ex4 : Co.tt 3 (tb exW) (tb exS2) 0 0 = 5 ∧ Co.tt 3 (tb exW) (tb exS2) 0 1 = 10 ∧ Co.tt 3 (tb exW) (tb exS2) 1 0 = 30 ∧ Co.tt 3 (tb exW) (tb exS2) 1 1 = 35 ∧ Co.tt 3 (tb exW) (tb exS2) 2 0 = 50 ∧ Co.tt 3 (tb exW) (tb exS2) 2 1 = 55 := by decide +kernel
theorem ex5 : Co.cfl 2 (tb exW3) 1 (tb exS3) = [(0, 0)] ∧ Co.ck 2 (tb exW3) 1 (tb exS3) = 0 := by decide +kernel
theorem ex6 : Co.mt 3 (tb exW) 2 (tb exS2) 3 (nb [10, 35, 55]) = true := by decide +kernel

set_option maxRecDepth 100000 in
set_option maxHeartbeats 2000000 in
theorem awake_c (w : World) : Calls Try.prog 12 #[] w fun e w' => e = .returned (.bool true) ∧ Below w.heap.size w w' := by
  go_enter Try.func12, Try.ntmps12
  go_wp2_with fail
  have WS := (Blk.new w 44 #[.int .i64 0, .int .i64 10, .int .i64 0, .int .i64 100, .int .i64 50, .int .i64 60])
  have hB := ba w (.cells #[.int .i64 0, .int .i64 10, .int .i64 0, .int .i64 100, .int .i64 50, .int .i64 60] 44)
  refine (conflicts_c _ _ 3 _ 2 _ (tb exW) (tb exS1) _ (Rd.lit exW (WS.alloc _) rfl rfl (by decide)) (Rd.lit exS1 (Blk.new1 w _ 50 _) rfl rfl (by decide))).mono ?_
  rw [ex1.1, ex1.2.1, ex1.2.2.1, ex1.2.2.2]
  rintro e w1 ⟨rfl, hb⟩
  replace WS := (WS.alloc _).keep hb
  replace hB := bt (bal hB _) hb
  clear hb
  have C := Blk.new w1 30 #[.int .i64 0, .int .i64 2]
  replace hB := bal hB (.cells #[.int .i64 0, .int .i64 2] 30)
  replace WS := WS.alloc (.cells #[.int .i64 0, .int .i64 2] 30)
  obtain ⟨c0, c1, c2, c3⟩ := C.open2
  go_wp2_with fail
  refine (excess_c _ _ 3 _ 2 _ (tb exW) (tb exS1) _ _ _ (Rd.lit exW (WS.alloc _) rfl rfl (by decide)) (Rd.lit exS1 (Blk.new1 w1 _ 50 _) rfl rfl (by decide))).mono ?_
  rw [ex2.1, ex2.2]
  rintro e w2 ⟨rfl, hb⟩
  clear c0 c1 c2 c3
  replace C := (C.alloc _).keep hb
  replace WS := (WS.alloc _).keep hb
  replace hB := bt (bal hB _) hb
  clear hb
  obtain ⟨c0, c1, c2, c3⟩ := C.open2
  go_wp2_with fail
  refine (tighten_c _ _ 3 _ 2 _ (tb exW) (tb exS2) _ (Rd.lit exW (WS.alloc _) rfl rfl (by decide)) (Rd.lit exS2 (Blk.new w2 50 _) rfl rfl (by decide))).mono ?_
  rintro e w3 ⟨A1, d1, rfl, own, hb⟩
  rw [ex3.1, ex3.2]
  rw [ex3.2] at own
  clear c0 c1 c2 c3
  replace WS := (WS.alloc _).keep hb
  replace hB := bt (bal hB _) hb
  clear hb C
  obtain ⟨g, rfl, hg1, hg2⟩ := own.pos (by omega)
  have o0 : w3.cell? ⟨g, 0, none⟩ = some (.int .i64 5) := (own.cell (i := 0) (j := 0) (by omega) (by omega)).trans (by unfold iv; rw [ex4.1])
  have o1 : w3.cell? ⟨g, 1, none⟩ = some (.int .i64 10) := (own.cell (i := 0) (j := 1) (by omega) (by omega)).trans (by unfold iv; rw [ex4.2.1])
  have o2 : w3.cell? ⟨g, 2, none⟩ = some (.int .i64 30) := (own.cell (i := 1) (j := 0) (by omega) (by omega)).trans (by unfold iv; rw [ex4.2.2.1])
  have o3 : w3.cell? ⟨g, 3, none⟩ = some (.int .i64 35) := (own.cell (i := 1) (j := 1) (by omega) (by omega)).trans (by unfold iv; rw [ex4.2.2.2.1])
  have o4 : w3.cell? ⟨g, 4, none⟩ = some (.int .i64 50) := (own.cell (i := 2) (j := 0) (by omega) (by omega)).trans (by unfold iv; rw [ex4.2.2.2.2.1])
  have o5 : w3.cell? ⟨g, 5, none⟩ = some (.int .i64 55) := (own.cell (i := 2) (j := 1) (by omega) (by omega)).trans (by unfold iv; rw [ex4.2.2.2.2.2])
  go_wp2_with fail
  have X := Blk.new w3 44 #[.int .i64 5, .int .i64 4, .int .i64 0, .int .i64 1]
  refine (all_c _ _ 2 _ 1 _ (tb exW3) (tb exS3) _ (Rd.lit exW3 (X.alloc _) rfl rfl (by decide)) (Rd.lit exS3 (Blk.new1 w3 _ 50 _) rfl rfl (by decide))).mono ?_
  rintro e w4 ⟨A2, d2, rfl, own2, hb⟩
  rw [ex5.1, ex5.2]
  rw [ex5.1] at own2
  clear o0 o1 o2 o3 o4 o5
  replace WS := ((WS.alloc _).alloc _).keep hb
  replace hB := bt (bal (bal hB _) _) hb
  clear hb own X
  obtain ⟨g2, rfl, hg3, hg4⟩ := own2.pos (by simp)
  have o0 : w4.cell? ⟨g2, 0, none⟩ = some (.int .i64 0) := own2.cell (i := 0) (j := 0) (by simp) (by omega)
  have o1 : w4.cell? ⟨g2, 1, none⟩ = some (.int .i64 0) := own2.cell (i := 0) (j := 1) (by simp) (by omega)
  go_wp2_with fail
  refine (meets_c _ _ _ 3 _ 2 _ 3 _ (tb exW) (tb exS2) (nb [10, 35, 55]) _ (Rd.lit exW ((WS.alloc _).alloc _) rfl rfl (by decide)) (Rd.lit exS2 ((Blk.new w4 50 _).alloc _) rfl rfl (by decide)) (Rd.litn [10, 35, 55] (Blk.new1 w4 _ 2 _) rfl rfl (by decide))).mono ?_
  rw [ex6]
  rintro e w5 ⟨rfl, hb⟩
  go_wp2_with fail
  go_returns
  exact ⟨rfl, bt (bal (bal hB _) _) hb⟩

set_option maxHeartbeats 1000000 in
theorem windows_c (A B : Option Addr) (n c d : Nat) (N : Nat → Nat → Int) (w : World) (R : Rd w 2 A n c (iv N)) (T : Rd w 2 B n d (iv N)) :
    Calls Try.prog 25 #[.slice A n c, .slice B n d] w fun e w' => e = .returned (.bool true) ∧ Below w.heap.size w w' := by
  have r1 := R.le
  have r2 := R.mx
  go_enter Try.func25, Try.ntmps25
  go_wp2
  go_loopw [13] (fun i wr => ∃ k : Nat, k ≤ n ∧ i = .int .i64 k ∧ Below w.heap.size w wr) (fun i _ => n - (intOf i).toNat)
  case atStart => exact ⟨0, Nat.zero_le _, rfl, Below.refl _ _⟩
  case round =>
    obtain ⟨k, hk, rfl, hB⟩ := hrel
    by_cases hlt : k < n
    · obtain ⟨b, off, eA, hbl, u0, u1⟩ := (R.keep hB).at2 hlt
      obtain ⟨b2, off2, eB, hbl2, v0, v1⟩ := (T.keep hB).at2 hlt
      have HA := Lib.hid eA
      have HB := Lib.hid eB
      rw [HA.out, HB.out]
      clear eA eB
      have i1 : (0 : Int) ≤ (k : Int) := by omega
      have i2 : (k : Int) < (n : Int) := by omega
      go_wp2
      go_quiet (fail)
      go_wp2
      go_roundw
      case rel => exact ⟨k + 1, by omega, by go_num, bdnl hB _⟩
      case measure => simp [intOf]; omega
    · obtain rfl : k = n := by omega
      go_wp2
      go_returns
      exact ⟨rfl, hB⟩
end Go.Proofs.Ytgfmheaijdcgoaa
