/-
  Contracts: whether a number is a node.
-/
import Derived.Test.YtbmfkncfenkjoaaPlain3
import Derived.Test.YtbmfkncfenkjoaaBlk
import Derived.Handy
namespace Go.Proofs.Ytbmfkncfenkjoaa
set_option linter.unusedVariables false
set_option linter.unusedSimpArgs false
open Go.RowKit
attribute [local irreducible] World.setCell World.cell?

set_option maxRecDepth 100000 in
set_option maxHeartbeats 4000000 in
theorem node_c (A : Option Addr) (n a : Int) (m c : Nat) (w : World) : Calls Try.prog 30 #[.agg #[.int .i64 n, .slice A m c], .int .i64 a] w fun e w' => e = .returned (.bool (Ce.nd n a)) ∧ Below w.heap.size w w' := by
  by_cases q1 : 0 ≤ a
  rotate_left
  · have HE := Lib.hid (show Ce.nd n a = false from decide_eq_false (by omega))
    skip
    go_enter Try.func30, Try.ntmps30
    have Gb := Blk.new w 24 #[.int .i64 (n), .slice A m c]
    have hB := ba w (.cells #[.int .i64 (n), .slice A m c] 24)
    obtain ⟨c00, c01, c02, c03⟩ := Gb.open2
    go_wp2_with fail
    go_returns
    exact ⟨ret_bool HE.out.symm, hB⟩
  by_cases q2 : a < n
  · have HE := Lib.hid (show Ce.nd n a = true from decide_eq_true (by omega))
    skip
    go_enter Try.func30, Try.ntmps30
    have Gb := Blk.new w 24 #[.int .i64 (n), .slice A m c]
    have hB := ba w (.cells #[.int .i64 (n), .slice A m c] 24)
    obtain ⟨c00, c01, c02, c03⟩ := Gb.open2
    go_wp2_with fail
    go_returns
    exact ⟨ret_bool HE.out.symm, hB⟩
  · have HE := Lib.hid (show Ce.nd n a = false from decide_eq_false (by omega))
    have d1 : decide (a < n) = false := decide_eq_false q2
    go_enter Try.func30, Try.ntmps30
    have Gb := Blk.new w 24 #[.int .i64 (n), .slice A m c]
    have hB := ba w (.cells #[.int .i64 (n), .slice A m c] 24)
    obtain ⟨c00, c01, c02, c03⟩ := Gb.open2
    go_wp2_with fail
    go_returns
    exact ⟨ret_bool HE.out.symm, hB⟩
set_option maxRecDepth 100000 in
set_option maxHeartbeats 4000000 in
theorem rnode_c (A : Option Addr) (n a : Int) (m c : Nat) (w : World) : Calls Try.prog 31 #[.agg #[.int .i64 n, .slice A m c], .int .i64 a] w fun e w' => e = .returned (.bool (Ce.nd n a)) ∧ Below w.heap.size w w' := by
  by_cases q1 : 0 ≤ a
  rotate_left
  · have HE := Lib.hid (show Ce.nd n a = false from decide_eq_false (by omega))
    skip
    go_enter Try.func31, Try.ntmps31
    have Gb := Blk.new w 24 #[.int .i64 (n), .slice A m c]
    have hB := ba w (.cells #[.int .i64 (n), .slice A m c] 24)
    obtain ⟨c00, c01, c02, c03⟩ := Gb.open2
    go_wp2_with fail
    go_returns
    exact ⟨ret_bool HE.out.symm, hB⟩
  by_cases q2 : a < n
  · have HE := Lib.hid (show Ce.nd n a = true from decide_eq_true (by omega))
    skip
    go_enter Try.func31, Try.ntmps31
    have Gb := Blk.new w 24 #[.int .i64 (n), .slice A m c]
    have hB := ba w (.cells #[.int .i64 (n), .slice A m c] 24)
    obtain ⟨c00, c01, c02, c03⟩ := Gb.open2
    go_wp2_with fail
    go_returns
    exact ⟨ret_bool HE.out.symm, hB⟩
  · have HE := Lib.hid (show Ce.nd n a = false from decide_eq_false (by omega))
    have d1 : decide (a < n) = false := decide_eq_false q2
    go_enter Try.func31, Try.ntmps31
    have Gb := Blk.new w 24 #[.int .i64 (n), .slice A m c]
    have hB := ba w (.cells #[.int .i64 (n), .slice A m c] 24)
    obtain ⟨c00, c01, c02, c03⟩ := Gb.open2
    go_wp2_with fail
    go_returns
    exact ⟨ret_bool HE.out.symm, hB⟩
end Go.Proofs.Ytbmfkncfenkjoaa
