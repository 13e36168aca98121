/-
  Contract: the closure of Solve.
-/
import Derived.Test.YtbmfkncfenkjoaaL3
namespace Go.Proofs.Ytbmfkncfenkjoaa
set_option linter.unusedVariables false
set_option linter.unusedSimpArgs false
open Go.RowKit
attribute [local irreducible] World.setCell World.cell?

set_option maxRecDepth 100000 in
set_option maxHeartbeats 4000000 in
theorem sol_c (x y z v : Int) (E : Ce.Tab) (i : Nat) (n : Nat) (C D : Nat → Int) (F : Nat → Bool) (w : World) (gL ga gv : Nat) (R : Rd w 3 (some ⟨gL, 0, none⟩) n n (lv C D F)) (Ga : Blk w ga 67 #[.slice (some ⟨gL, 0, none⟩) n n]) (Gv : Blk w gv 3 #[.int .i64 v])
    (hx : E i 0 = x) (hy : E i 1 = y) (hz : E i 2 = z) (x0 : 0 ≤ x) (x1 : x < n) (z0 : 0 ≤ z) (z1 : z ≤ 1099511627776) (v0 : 0 ≤ v) (v1 : v < n) (hn : n ≤ 512)
    (hC : ∀ u, u < n → C u ≤ 562949953421312 ∧ (0 ≤ C u → 0 ≤ D u ∧ D u ≤ 512)) :
    Calls Try.prog 37 #[.agg #[.int .i64 x, .int .i64 y, .int .i64 z], .pointer (some ⟨ga, 0, none⟩), .pointer (some ⟨gv, 0, none⟩)] w fun e w' => e = .returned (.bool (Ce.lastB E C D v i)) ∧ Below w.heap.size w w' := by
  obtain ⟨xn, rfl⟩ : ∃ q : Nat, x = (q : Int) := ⟨x.toNat, by omega⟩
  obtain ⟨vn, rfl⟩ : ∃ q : Nat, v = (q : Int) := ⟨v.toNat, by omega⟩
  have hxn : xn < n := by omega
  have hvn : vn < n := by omega
  obtain ⟨b1, b2⟩ := hC xn hxn
  have HV := Lib.hid (show Ce.lastB E C D vn i = decide (y = (vn : Int) ∧ 0 ≤ C xn ∧ C xn + z = C vn ∧ D xn + 1 = D vn) by unfold Ce.lastB Ce.fr; rw [hx, hy, hz, Int.toNat_natCast, Int.toNat_natCast])
  rw [HV.out]
  clear hC hx hy hz
  have la := Ga.lt
  have lb := Gv.lt
  by_cases q1 : y = (vn : Int)
  rotate_left
  · have HE := Lib.hid (show decide (y = (vn : Int) ∧ 0 ≤ C xn ∧ C xn + z = C vn ∧ D xn + 1 = D vn) = false from decide_eq_false (by omega))
    rw [HE.out]
    have h1 : (y == (vn : Int)) = false := by simpa using q1
    go_enter Try.func37, Try.ntmps37
    try simp only [List.append_eq, List.cons_append, List.nil_append]
    obtain ⟨a0, a1, a2⟩ := Ga.open1
    obtain ⟨d0, d1, d2⟩ := Gv.open1
    obtain ⟨y0, y1, y2, y3⟩ := R.lab hxn
    obtain ⟨z0_, z1_, z2_, z3_⟩ := R.lab hvn
    have hB := bal (ba w (.cells #[.int .i64 xn, .int .i64 y, .int .i64 z] 59)) (.cells #[.int .i64 (C xn), .int .i64 (D xn), .bool (F xn)] 70)
    go_wp2_with fail
    go_quiet (fail)
    go_wp2_with fail
    go_returns
    exact ⟨rfl, bdnl hB _⟩
  have h1 : (y == (vn : Int)) = true := by simpa using q1
  by_cases q2 : C xn < 0
  · have HE := Lib.hid (show decide (y = (vn : Int) ∧ 0 ≤ C xn ∧ C xn + z = C vn ∧ D xn + 1 = D vn) = false from decide_eq_false (by omega))
    rw [HE.out]
    have h2 : decide (0 ≤ C xn) = false := decide_eq_false (by omega)
    clear q1
    go_enter Try.func37, Try.ntmps37
    try simp only [List.append_eq, List.cons_append, List.nil_append]
    obtain ⟨a0, a1, a2⟩ := Ga.open1
    obtain ⟨d0, d1, d2⟩ := Gv.open1
    obtain ⟨y0, y1, y2, y3⟩ := R.lab hxn
    obtain ⟨z0_, z1_, z2_, z3_⟩ := R.lab hvn
    have hB := bal (ba w (.cells #[.int .i64 xn, .int .i64 y, .int .i64 z] 59)) (.cells #[.int .i64 (C xn), .int .i64 (D xn), .bool (F xn)] 70)
    go_wp2_with fail
    go_quiet (fail)
    go_wp2_with fail
    go_returns
    exact ⟨rfl, bdnl hB _⟩
  have h2 : 0 ≤ C xn := by omega
  obtain ⟨b3, b4⟩ := b2 h2
  clear b2
  by_cases q3 : C xn + z = C vn
  rotate_left
  · have HE := Lib.hid (show decide (y = (vn : Int) ∧ 0 ≤ C xn ∧ C xn + z = C vn ∧ D xn + 1 = D vn) = false from decide_eq_false (by omega))
    rw [HE.out]
    have h3 : (C xn + z == C vn) = false := by simpa using q3
    clear q1 q3
    go_enter Try.func37, Try.ntmps37
    try simp only [List.append_eq, List.cons_append, List.nil_append]
    obtain ⟨a0, a1, a2⟩ := Ga.open1
    obtain ⟨d0, d1, d2⟩ := Gv.open1
    obtain ⟨y0, y1, y2, y3⟩ := R.lab hxn
    obtain ⟨z0_, z1_, z2_, z3_⟩ := R.lab hvn
    have hB := bal (ba w (.cells #[.int .i64 xn, .int .i64 y, .int .i64 z] 59)) (.cells #[.int .i64 (C xn), .int .i64 (D xn), .bool (F xn)] 70)
    go_wp2_with fail
    go_quiet (fail)
    go_wp2_with fail
    go_returns
    exact ⟨rfl, bdnl hB _⟩
  have h3 : (C xn + z == C vn) = true := by simpa using q3
  by_cases q4 : D xn + 1 = D vn
  rotate_left
  · have HE := Lib.hid (show decide (y = (vn : Int) ∧ 0 ≤ C xn ∧ C xn + z = C vn ∧ D xn + 1 = D vn) = false from decide_eq_false (by omega))
    rw [HE.out]
    have h4 : (D xn + 1 == D vn) = false := by simpa using q4
    clear q1 q3 q4
    go_enter Try.func37, Try.ntmps37
    try simp only [List.append_eq, List.cons_append, List.nil_append]
    obtain ⟨a0, a1, a2⟩ := Ga.open1
    obtain ⟨d0, d1, d2⟩ := Gv.open1
    obtain ⟨y0, y1, y2, y3⟩ := R.lab hxn
    obtain ⟨z0_, z1_, z2_, z3_⟩ := R.lab hvn
    have hB := bal (ba w (.cells #[.int .i64 xn, .int .i64 y, .int .i64 z] 59)) (.cells #[.int .i64 (C xn), .int .i64 (D xn), .bool (F xn)] 70)
    go_wp2_with fail
    go_quiet (fail)
    go_wp2_with fail
    go_returns
    exact ⟨rfl, bdnl hB _⟩
  · have HE := Lib.hid (show decide (y = (vn : Int) ∧ 0 ≤ C xn ∧ C xn + z = C vn ∧ D xn + 1 = D vn) = true from decide_eq_true (by omega))
    rw [HE.out]
    have h4 : (D xn + 1 == D vn) = true := by simpa using q4
    clear q1 q3 q4
    go_enter Try.func37, Try.ntmps37
    try simp only [List.append_eq, List.cons_append, List.nil_append]
    obtain ⟨a0, a1, a2⟩ := Ga.open1
    obtain ⟨d0, d1, d2⟩ := Gv.open1
    obtain ⟨y0, y1, y2, y3⟩ := R.lab hxn
    obtain ⟨z0_, z1_, z2_, z3_⟩ := R.lab hvn
    have hB := bal (ba w (.cells #[.int .i64 xn, .int .i64 y, .int .i64 z] 59)) (.cells #[.int .i64 (C xn), .int .i64 (D xn), .bool (F xn)] 70)
    go_wp2_with fail
    go_quiet (fail)
    go_wp2_with fail
    go_returns
    exact ⟨rfl, bdnl hB _⟩
end Go.Proofs.Ytbmfkncfenkjoaa
