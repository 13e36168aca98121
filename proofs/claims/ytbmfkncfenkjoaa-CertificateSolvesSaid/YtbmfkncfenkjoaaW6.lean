/-
  Contracts: the closure of Violated, slices.IndexFunc.
-/
import Derived.Test.YtbmfkncfenkjoaaW2
import Derived.Shelf.Abstract
namespace Go.Proofs.Ytbmfkncfenkjoaa
set_option linter.unusedVariables false
set_option linter.unusedSimpArgs false
open Go.RowKit
attribute [local irreducible] World.setCell World.cell?

set_option maxRecDepth 100000 in
set_option maxHeartbeats 4000000 in
theorem vio_c (x y z : Int) (E : Ce.Tab) (i : Nat) (w : World) (g : Nat) (B : Option Addr) (l d : Nat) (P : Nat → Int) (U : Rd w 1 B l d (nv P)) (Gp : Blk w g 34 #[.slice B l d]) (hx : E i 0 = x) (hy : E i 1 = y) (hz : E i 2 = z)
    (x0 : 0 ≤ x) (x1 : x < l) (y0 : 0 ≤ y) (y1 : y < l) (hb : ∀ k, k < l → -1152921504606846976 ≤ P k ∧ P k ≤ 1152921504606846976) (z0 : 0 ≤ z) (z1 : z ≤ 1099511627776) :
    Calls Try.prog 34 #[.agg #[.int .i64 x, .int .i64 y, .int .i64 z], .pointer (some ⟨g, 0, none⟩)] w fun e w' => e = .returned (.bool (Ce.vp E P i)) ∧ Below w.heap.size w w' := by
  have r1 := U.le
  have r2 := U.mx
  obtain ⟨xn, rfl⟩ : ∃ q : Nat, x = (q : Int) := ⟨x.toNat, by omega⟩
  obtain ⟨yn, rfl⟩ : ∃ q : Nat, y = (q : Int) := ⟨y.toNat, by omega⟩
  have p1 := hb xn (by omega)
  have p2 := hb yn (by omega)
  obtain ⟨bb, off, eA, hbl, u0⟩ := U.at1 (k := xn) (by omega)
  obtain ⟨bb', off', eA', hbl', u1⟩ := U.at1 (k := yn) (by omega)
  rw [eA] at eA'
  injection eA' with eA'
  injection eA' with eA1 eA2 eA3
  subst eA1 eA2
  have HV := Lib.hid (show Ce.vp E P i = decide (z < P yn - P xn) by unfold Ce.vp; rw [hx, hy, hz, Int.toNat_natCast, Int.toNat_natCast])
  rw [HV.out]
  have HA := Lib.hid eA
  rw [HA.out] at Gp
  clear eA hb hx hy hz U
  have l0 := Gp.lt
  go_enter Try.func34, Try.ntmps34
  have Gb := Blk.new w 59 #[.int .i64 xn, .int .i64 yn, .int .i64 z]
  replace Gp := Gp.alloc (.cells #[.int .i64 xn, .int .i64 yn, .int .i64 z] 59)
  have hB := ba w (.cells #[.int .i64 xn, .int .i64 yn, .int .i64 z] 59)
  obtain ⟨c0, c1, c2⟩ := Gp.open1
  obtain ⟨d0, d1, d2, d3, d4⟩ := Gb.open3
  go_wp2_with fail
  go_quiet (fail)
  go_wp2_with fail
  go_returns
  exact ⟨rfl, bdnl hB _⟩
set_option maxRecDepth 100000 in
set_option maxHeartbeats 4000000 in
theorem index_c (p : Nat → Bool) (fn : Nat) (eg : ∀ args w, (callFunc fn args).run Try.prog w = .ok (.enter fn args) w) (lb : Array Value) (A : Option Addr) (m c : Nat) (E : Ce.Tab) (w : World) (T : Rd w 3 A m c (iv E))
    (hp : ∀ (W : World) (i : Nat), i < m → Below w.heap.size w W → Calls Try.prog fn (#[.agg #[.int .i64 (E i 0), .int .i64 (E i 1), .int .i64 (E i 2)]] ++ lb) W fun e w' => e = .returned (.bool (p i)) ∧ Below W.heap.size W w') :
    Calls Try.prog 33 #[.slice A m c, .func (.func fn) #[] lb] w fun e w' => e = .returned (.int .i64 (Ce.fi p m)) ∧ Below w.heap.size w w' := by
  have r1 := T.le
  have r2 := T.mx
  go_enter Try.func33, Try.ntmps33
  have hB := Below.refl w.heap.size w
  go_wp2_with fail
  go_loopw [5, 8] (fun _ i wr => ∃ k : Nat, k ≤ m ∧ i = .int .i64 k ∧ Hid (∀ j, j < k → p j = false) ∧ Below w.heap.size w wr) (fun _ i _ => m - (intOf i).toNat)
  case atStart => exact ⟨0, Nat.zero_le _, rfl, (fun j hj => absurd hj (Nat.not_lt_zero _)), hB⟩
  case round =>
    clear hB
    rename_i wr
    obtain ⟨k, hk, rfl, hno, hB⟩ := hrel
    by_cases hlt : k < m
    · obtain ⟨bb, off, eA, hbl, u0, u1, u2⟩ := (T.keep hB).at3 hlt
      have HA := Lib.hid eA
      rw [HA.out]
      clear eA
      have hcall := hp wr k hlt hB
      clear hp T
      cases hq : p k with
      | true =>
        have HI := Lib.hid (Ce.fi_hit hno.out hq m hlt)
        rw [hq] at hcall
        clear hq
        go_wp2_with (refine hcall.mono ?_; rintro e w' ⟨rfl, hb⟩)
        go_returns
        exact ⟨ret_int HI.out.symm, bt hB hb⟩
      | false =>
        have HN := Lib.hid (show ∀ j, j < k + 1 → p j = false from fun j hj => by
          by_cases e : j = k
          · rw [e]; exact hq
          · exact hno.out j (by omega))
        rw [hq] at hcall
        clear hq
        go_wp2_with (refine hcall.mono ?_; rintro e w' ⟨rfl, hb⟩)
        go_roundw
        case rel => exact ⟨k + 1, by omega, by go_num, HN, bt hB hb⟩
        case measure => simp [intOf]; omega
    · obtain rfl : k = m := by omega
      have HI := Lib.hid ((Ce.fi_no p k).2 hno.out)
      clear hp
      go_wp2_with fail
      go_returns
      exact ⟨ret_int HI.out.symm, hB⟩
end Go.Proofs.Ytbmfkncfenkjoaa
