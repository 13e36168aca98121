/-
  Contracts: Example, list, routes.
-/
import Derived.Test.YtbmfkncfenkjoaaL3
namespace Go.Proofs.Ytbmfkncfenkjoaa
set_option linter.unusedVariables false
set_option linter.unusedSimpArgs false
open Go.RowKit
attribute [local irreducible] World.setCell World.cell?

def exE : Ce.Tab := fun i j => match i, j with
  | 0, 0 => 0
  | 0, 1 => 1
  | 0, 2 => 5
  | 1, 0 => 0
  | 1, 1 => 2
  | 1, 2 => 2
  | 2, 0 => 2
  | 2, 1 => 1
  | 2, 2 => 2
  | 3, 0 => 1
  | _, _ => 0
def f4 (a b c d : Int) : Nat → Int := fun i => match i with
  | 0 => a
  | 1 => b
  | 2 => c
  | _ => d
def eqL (l : Nat) (N : Nat → Int) (k : Nat) (M : Nat → Int) : Bool := decide (l = k ∧ ∀ i, i < l → N i = M i)
theorem rd_lit4 (w : World) (t : TypeId) (a b c d : Int) {H : Nat} (hH : w.heap.size = H) : Rd (w.alloc (.cells #[.int .i64 a, .int .i64 b, .int .i64 c, .int .i64 d] t)) 1 (some ⟨H, 0, none⟩) 4 4 (nv (f4 a b c d)) := by
  subst hH
  exact Rd.of_blk (Blk.new w t _) (Nat.le_refl _) (by omega) fun i j hi hj => by
    obtain rfl : j = 0 := by omega
    match i, hi with
    | 0, _ => rfl
    | 1, _ => rfl
    | 2, _ => rfl
    | 3, _ => rfl
theorem rd_lit2 (w : World) (t : TypeId) (a b : Int) {H : Nat} (hH : w.heap.size = H) : Rd (w.alloc (.cells #[.int .i64 a, .int .i64 b] t)) 1 (some ⟨H, 0, none⟩) 2 2 (nv (f4 a b 0 0)) := by
  subst hH
  exact Rd.of_blk (Blk.new w t _) (Nat.le_refl _) (by omega) fun i j hi hj => by
    obtain rfl : j = 0 := by omega
    match i, hi with
    | 0, _ => rfl
    | 1, _ => rfl
set_option maxRecDepth 100000 in
set_option maxHeartbeats 4000000 in
theorem example_c (w : World) : Calls Try.prog 29 #[] w fun e w' => e = .returned (.agg #[.int .i64 4, .slice (some ⟨w.heap.size + 1, 0, none⟩) 4 4]) ∧ Rd w' 3 (some ⟨w.heap.size + 1, 0, none⟩) 4 4 (iv exE) ∧ Below w.heap.size w w' := by
  go_enter Try.func29, Try.ntmps29
  have G := (Blk.new w 24 #[.int .i64 4, .slice (some ⟨w.heap.size + 1, 0, none⟩) 4 4]).alloc (.cells #[.int .i64 0, .int .i64 1, .int .i64 5, .int .i64 0, .int .i64 2, .int .i64 2, .int .i64 2, .int .i64 1, .int .i64 2, .int .i64 1, .int .i64 0, .int .i64 0] 59)
  obtain ⟨c0, c1, c2, c3⟩ := G.open2
  have R := Rd.of_blk (Blk.new1 w (.cells #[.int .i64 4, .slice (some ⟨w.heap.size + 1, 0, none⟩) 4 4] 24) 59 #[.int .i64 0, .int .i64 1, .int .i64 5, .int .i64 0, .int .i64 2, .int .i64 2, .int .i64 2, .int .i64 1, .int .i64 2, .int .i64 1, .int .i64 0, .int .i64 0]) (q := 3) (n := 4) (c := 4) (V := iv exE) (Nat.le_refl _) (by omega) fun i j hi hj => by
    match i, j, hi, hj with
    | 0, 0, _, _ => rfl
    | 0, 1, _, _ => rfl
    | 0, 2, _, _ => rfl
    | 1, 0, _, _ => rfl
    | 1, 1, _, _ => rfl
    | 1, 2, _, _ => rfl
    | 2, 0, _, _ => rfl
    | 2, 1, _, _ => rfl
    | 2, 2, _, _ => rfl
    | 3, 0, _, _ => rfl
    | 3, 1, _, _ => rfl
    | 3, 2, _, _ => rfl
  go_wp2_with fail
  refine bodyPost_ret (by simp [results, Try.results29, go_sem, c0, c1, c2, c3]; try rfl) rfl ?_
  exact ⟨rfl, R, bal (ba w _) _⟩
set_option maxRecDepth 100000 in
set_option maxHeartbeats 4000000 in
theorem list_c (A : Option Addr) (l c : Nat) (N : Nat → Int) (B : Option Addr) (k d : Nat) (M : Nat → Int) (w : World) (T : Rd w 1 A l c (nv N)) (U : Rd w 1 B k d (nv M)) : Calls Try.prog 24 #[.slice A l c, .slice B k d] w fun e w' => e = .returned (.bool (eqL l N k M)) ∧ Below w.heap.size w w' := by
  have r1 := T.le
  have r2 := T.mx
  have s1 := U.le
  have s2 := U.mx
  by_cases h : l = k
  rotate_left
  · have h0 : ¬ (l : Int) = (k : Int) := by omega
    have h1 : ((l : Int) != (k : Int)) = true := by simpa using h0
    have HE := Lib.hid (show eqL l N k M = false from decide_eq_false fun z => h z.1)
    clear h h0
    go_enter Try.func24, Try.ntmps24
    have hB := Below.refl w.heap.size w
    go_wp2_with fail
    go_returns
    exact ⟨ret_bool HE.out.symm, hB⟩
  subst h
  go_enter Try.func24, Try.ntmps24
  have hB := Below.refl w.heap.size w
  go_wp2_with fail
  go_loopw [13] (fun i wr => ∃ j : Nat, j ≤ l ∧ i = .int .i64 j ∧ Hid (∀ q, q < j → N q = M q) ∧ Below w.heap.size w wr) (fun i _ => l - (intOf i).toNat)
  case atStart => exact ⟨0, Nat.zero_le _, rfl, (fun q hq => absurd hq (Nat.not_lt_zero _)), hB⟩
  case round =>
    clear hB
    obtain ⟨j, hj, rfl, hall, hB⟩ := hrel
    by_cases hlt : j < l
    · obtain ⟨b1, f1, e1, l1, u0⟩ := (T.keep hB).at1 hlt
      obtain ⟨b2, f2, e2, l2, v0⟩ := (U.keep hB).at1 hlt
      have HA := Lib.hid e1
      have HB := Lib.hid e2
      rw [HA.out, HB.out]
      clear e1 e2
      by_cases hq : N j = M j
      · have HN := Lib.hid (show ∀ q, q < j + 1 → N q = M q from fun q hh => by
          by_cases e : q = j
          · rw [e]; exact hq
          · exact hall.out q (by omega))
        have h1 : (N j != M j) = false := by simpa using hq
        clear hq
        go_wp2_with fail
        go_quiet (fail)
        go_wp2_with fail
        go_roundw
        case rel => exact ⟨j + 1, by omega, by go_num, HN, bdnl hB _⟩
        case measure => simp [intOf]; omega
      · have HE := Lib.hid (show eqL l N l M = false from decide_eq_false fun z => hq (z.2 j hlt))
        have h1 : (N j != M j) = true := by simpa using hq
        clear hq
        go_wp2_with fail
        go_quiet (fail)
        go_wp2_with fail
        go_returns
        exact ⟨ret_bool HE.out.symm, bdnl hB _⟩
    · obtain rfl : j = l := by omega
      have HE := Lib.hid (show eqL j N j M = true from decide_eq_true ⟨rfl, hall.out⟩)
      go_wp2_with fail
      go_returns
      exact ⟨ret_bool HE.out.symm, hB⟩
set_option maxRecDepth 100000 in
set_option maxHeartbeats 4000000 in
theorem routes_c (A : Option Addr) (l c : Nat) (N : Nat → Int) (B : Option Addr) (k d : Nat) (M : Nat → Int) (w : World) (T : Rd w 1 A l c (nv N)) (U : Rd w 1 B k d (nv M)) : Calls Try.prog 27 #[.slice A l c, .slice B k d] w fun e w' => e = .returned (.bool (eqL l N k M)) ∧ Below w.heap.size w w' := by
  have r1 := T.le
  have r2 := T.mx
  have s1 := U.le
  have s2 := U.mx
  by_cases h : l = k
  rotate_left
  · have h0 : ¬ (l : Int) = (k : Int) := by omega
    have h1 : ((l : Int) != (k : Int)) = true := by simpa using h0
    have HE := Lib.hid (show eqL l N k M = false from decide_eq_false fun z => h z.1)
    clear h h0
    go_enter Try.func27, Try.ntmps27
    have hB := Below.refl w.heap.size w
    go_wp2_with fail
    go_returns
    exact ⟨ret_bool HE.out.symm, hB⟩
  subst h
  go_enter Try.func27, Try.ntmps27
  have hB := Below.refl w.heap.size w
  go_wp2_with fail
  go_loopw [13] (fun i wr => ∃ j : Nat, j ≤ l ∧ i = .int .i64 j ∧ Hid (∀ q, q < j → N q = M q) ∧ Below w.heap.size w wr) (fun i _ => l - (intOf i).toNat)
  case atStart => exact ⟨0, Nat.zero_le _, rfl, (fun q hq => absurd hq (Nat.not_lt_zero _)), hB⟩
  case round =>
    clear hB
    obtain ⟨j, hj, rfl, hall, hB⟩ := hrel
    by_cases hlt : j < l
    · obtain ⟨b1, f1, e1, l1, u0⟩ := (T.keep hB).at1 hlt
      obtain ⟨b2, f2, e2, l2, v0⟩ := (U.keep hB).at1 hlt
      have HA := Lib.hid e1
      have HB := Lib.hid e2
      rw [HA.out, HB.out]
      clear e1 e2
      by_cases hq : N j = M j
      · have HN := Lib.hid (show ∀ q, q < j + 1 → N q = M q from fun q hh => by
          by_cases e : q = j
          · rw [e]; exact hq
          · exact hall.out q (by omega))
        have h1 : (N j != M j) = false := by simpa using hq
        clear hq
        go_wp2_with fail
        go_quiet (fail)
        go_wp2_with fail
        go_roundw
        case rel => exact ⟨j + 1, by omega, by go_num, HN, bdnl hB _⟩
        case measure => simp [intOf]; omega
      · have HE := Lib.hid (show eqL l N l M = false from decide_eq_false fun z => hq (z.2 j hlt))
        have h1 : (N j != M j) = true := by simpa using hq
        clear hq
        go_wp2_with fail
        go_quiet (fail)
        go_wp2_with fail
        go_returns
        exact ⟨ret_bool HE.out.symm, bdnl hB _⟩
    · obtain rfl : j = l := by omega
      have HE := Lib.hid (show eqL j N j M = true from decide_eq_true ⟨rfl, hall.out⟩)
      go_wp2_with fail
      go_returns
      exact ⟨ret_bool HE.out.symm, hB⟩
end Go.Proofs.Ytbmfkncfenkjoaa
