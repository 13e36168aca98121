/-
  Words and contracts, put together: W1, W2, W3, L3, L7, R0, OLd, OHp, Inv3, W4, L5, L4, W6, L6.
-/
import Derived.Test.YtoeklllahpegfaaM01
import Derived.Test.YtoeklllahpegfaaM02
import Derived.Test.YtoeklllahpegfaaM06
import Derived.Test.YtoeklllahpegfaaM07
import Derived.Handy
import Derived.Deep.WholeRow
import Derived.Deep.MidRow
import Derived.Shelf.Abstract
/-
  Contracts: whether a number is a node.
-/
namespace Go.Proofs.Ytoeklllahpegfaa
set_option linter.unusedVariables false
set_option linter.unusedSimpArgs false
open Go.RowKit
attribute [local irreducible] World.setCell World.cell?

set_option maxRecDepth 100000 in
set_option maxHeartbeats 4000000 in
theorem node_c (A : Option Addr) (n a : Int) (m c : Nat) (w : World) : Calls Try.prog 81 #[.agg #[.int .i64 n, .slice A m c], .int .i64 a] w fun e w' => e = .returned (.bool (Ce.nd n a)) ∧ Below w.heap.size w w' := by
  by_cases q1 : 0 ≤ a
  rotate_left
  · have HE := Lib.hid (show Ce.nd n a = false from decide_eq_false (by omega))
    skip
    go_enter Try.func81, Try.ntmps81
    have Gb := Blk.new w 41 #[.int .i64 (n), .slice A m c]
    have hB := ba w (.cells #[.int .i64 (n), .slice A m c] 41)
    obtain ⟨c00, c01, c02, c03⟩ := Gb.open2
    go_wp2_with fail
    go_returns
    exact ⟨ret_bool HE.out.symm, hB⟩
  by_cases q2 : a < n
  · have HE := Lib.hid (show Ce.nd n a = true from decide_eq_true (by omega))
    skip
    go_enter Try.func81, Try.ntmps81
    have Gb := Blk.new w 41 #[.int .i64 (n), .slice A m c]
    have hB := ba w (.cells #[.int .i64 (n), .slice A m c] 41)
    obtain ⟨c00, c01, c02, c03⟩ := Gb.open2
    go_wp2_with fail
    go_returns
    exact ⟨ret_bool HE.out.symm, hB⟩
  · have HE := Lib.hid (show Ce.nd n a = false from decide_eq_false (by omega))
    have d1 : decide (a < n) = false := decide_eq_false q2
    go_enter Try.func81, Try.ntmps81
    have Gb := Blk.new w 41 #[.int .i64 (n), .slice A m c]
    have hB := ba w (.cells #[.int .i64 (n), .slice A m c] 41)
    obtain ⟨c00, c01, c02, c03⟩ := Gb.open2
    go_wp2_with fail
    go_returns
    exact ⟨ret_bool HE.out.symm, hB⟩
set_option maxRecDepth 100000 in
set_option maxHeartbeats 4000000 in
theorem rnode_c (A : Option Addr) (n a : Int) (m c : Nat) (w : World) : Calls Try.prog 78 #[.agg #[.int .i64 n, .slice A m c], .int .i64 a] w fun e w' => e = .returned (.bool (Ce.nd n a)) ∧ Below w.heap.size w w' := by
  by_cases q1 : 0 ≤ a
  rotate_left
  · have HE := Lib.hid (show Ce.nd n a = false from decide_eq_false (by omega))
    skip
    go_enter Try.func78, Try.ntmps78
    have Gb := Blk.new w 41 #[.int .i64 (n), .slice A m c]
    have hB := ba w (.cells #[.int .i64 (n), .slice A m c] 41)
    obtain ⟨c00, c01, c02, c03⟩ := Gb.open2
    go_wp2_with fail
    go_returns
    exact ⟨ret_bool HE.out.symm, hB⟩
  by_cases q2 : a < n
  · have HE := Lib.hid (show Ce.nd n a = true from decide_eq_true (by omega))
    skip
    go_enter Try.func78, Try.ntmps78
    have Gb := Blk.new w 41 #[.int .i64 (n), .slice A m c]
    have hB := ba w (.cells #[.int .i64 (n), .slice A m c] 41)
    obtain ⟨c00, c01, c02, c03⟩ := Gb.open2
    go_wp2_with fail
    go_returns
    exact ⟨ret_bool HE.out.symm, hB⟩
  · have HE := Lib.hid (show Ce.nd n a = false from decide_eq_false (by omega))
    have d1 : decide (a < n) = false := decide_eq_false q2
    go_enter Try.func78, Try.ntmps78
    have Gb := Blk.new w 41 #[.int .i64 (n), .slice A m c]
    have hB := ba w (.cells #[.int .i64 (n), .slice A m c] 41)
    obtain ⟨c00, c01, c02, c03⟩ := Gb.open2
    go_wp2_with fail
    go_returns
    exact ⟨ret_bool HE.out.symm, hB⟩
end Go.Proofs.Ytoeklllahpegfaa
/-
  Contract: Check.
-/
namespace Go.Proofs.Ytoeklllahpegfaa
set_option linter.unusedVariables false
set_option linter.unusedSimpArgs false
open Go.RowKit
attribute [local irreducible] World.setCell World.cell?

set_option maxRecDepth 100000 in
set_option maxHeartbeats 4000000 in
theorem check_c (A : Option Addr) (n : Int) (m c : Nat) (E : Ce.Tab) (w : World) (T : Rd w 3 A m c (iv E)) (n1 : -9223372036854775808 ≤ n) (n2 : n ≤ 9223372036854775807) : Calls Try.prog 80 #[.agg #[.int .i64 n, .slice A m c]] w fun e w' => e = .returned (.int .i64 (Ce.ck n m E)) ∧ Below w.heap.size w w' := by
  have r1 := T.le
  have r2 := T.mx
  by_cases c1 : n < 1
  · have HE := Lib.hid (Ce.ck_3 (n := n) (m := m) (E := E) (by omega))
    skip
    go_enter Try.func80, Try.ntmps80
    have Gb := Blk.new w 41 #[.int .i64 (n), .slice A m c]
    have hB := ba w (.cells #[.int .i64 (n), .slice A m c] 41)
    obtain ⟨c00, c01, c02, c03⟩ := Gb.open2
    go_wp2_with fail
    go_returns
    exact ⟨ret_int HE.out.symm, hB⟩
  by_cases c2 : 512 < n
  · have HE := Lib.hid (Ce.ck_3 (n := n) (m := m) (E := E) (by omega))
    skip
    go_enter Try.func80, Try.ntmps80
    have Gb := Blk.new w 41 #[.int .i64 (n), .slice A m c]
    have hB := ba w (.cells #[.int .i64 (n), .slice A m c] 41)
    obtain ⟨c00, c01, c02, c03⟩ := Gb.open2
    go_wp2_with fail
    go_returns
    exact ⟨ret_int HE.out.symm, hB⟩
  by_cases c3 : 8192 < m
  · have HE := Lib.hid (Ce.ck_3 (n := n) (m := m) (E := E) (by omega))
    have c4 : (8192 : Int) < (m : Int) := by omega
    go_enter Try.func80, Try.ntmps80
    have Gb := Blk.new w 41 #[.int .i64 (n), .slice A m c]
    have hB := ba w (.cells #[.int .i64 (n), .slice A m c] 41)
    obtain ⟨c00, c01, c02, c03⟩ := Gb.open2
    go_wp2_with fail
    go_returns
    exact ⟨ret_int HE.out.symm, hB⟩
  have c4 : ¬ (8192 : Int) < (m : Int) := by omega
  have c0 : ¬ (n < 1 ∨ 512 < n ∨ 8192 < m) := by omega
  have C0 := Lib.hid c0
  clear c0
  go_enter Try.func80, Try.ntmps80
  have Gb := Blk.new w 41 #[.int .i64 (n), .slice A m c]
  have hB := ba w (.cells #[.int .i64 (n), .slice A m c] 41)
  obtain ⟨c00, c01, c02, c03⟩ := Gb.open2
  go_wp2_with fail
  clear c00 c01 c02 c03
  go_loopw [22] (fun i wr => ∃ k : Nat, k ≤ m ∧ i = .int .i64 k ∧ Hid (Ce.ckE n E k = 0) ∧ Blk wr w.heap.size 41 #[.int .i64 (n), .slice A m c] ∧ Below w.heap.size w wr) (fun i _ => m - (intOf i).toNat)
  case atStart => exact ⟨0, Nat.zero_le _, rfl, rfl, Gb, hB⟩
  case round =>
    clear Gb hB
    rename_i wr
    obtain ⟨k, hk, rfl, hok, Gb, hB⟩ := hrel
    by_cases hlt : k < m
    · obtain ⟨bb, off, eA, hbl, u0, u1, u2⟩ := (T.keep hB).at3 hlt
      have HA := Lib.hid eA
      clear eA
      replace Gb := Gb.alloc (.cells #[.int .i64 (E k 0), .int .i64 (E k 1), .int .i64 (E k 2)] 75)
      replace hB := bal hB (.cells #[.int .i64 (E k 0), .int .i64 (E k 1), .int .i64 (E k 2)] 75)
      have X := Blk.new wr 75 #[.int .i64 (E k 0), .int .i64 (E k 1), .int .i64 (E k 2)]
      have lG := Gb.lt
      cases q0 : Ce.nd n (E k 0)
      · have Q0 := Lib.hid q0
        have HE := Lib.hid ((Ce.ck_stop C0.out hlt hok.out (by rw [Ce.erow_1 (by rw [Q0.out]; rfl)]; decide)).trans (Ce.erow_1 (by rw [Q0.out]; rfl)))
        rw [HA.out] at Gb ⊢
        clear q0
        obtain ⟨c00, c01, c02, c03⟩ := Gb.open2
        obtain ⟨c10, c11, c12, c13, c14⟩ := X.open3
        go_wp2_with fail
        refine (node_c _ _ _ _ _ _).mono ?_
        rw [Q0.out]
        rintro e w6 ⟨rfl, hb⟩
        clear c00 c01 c02 c03 c10 c11 c12 c13 c14
        replace Gb := Gb.keep hb
        replace X := X.keep hb
        replace hB := bt hB hb
        clear hb
        go_wp2_with fail
        go_returns
        exact ⟨ret_int HE.out.symm, hB⟩
      cases q1 : Ce.nd n (E k 1)
      · have Q0 := Lib.hid q0
        have Q1 := Lib.hid q1
        have HE := Lib.hid ((Ce.ck_stop C0.out hlt hok.out (by rw [Ce.erow_1 (by rw [Q0.out, Q1.out]; rfl)]; decide)).trans (Ce.erow_1 (by rw [Q0.out, Q1.out]; rfl)))
        rw [HA.out] at Gb ⊢
        clear q0 q1
        obtain ⟨c00, c01, c02, c03⟩ := Gb.open2
        obtain ⟨c10, c11, c12, c13, c14⟩ := X.open3
        go_wp2_with fail
        refine (node_c _ _ _ _ _ _).mono ?_
        rw [Q0.out]
        rintro e w6 ⟨rfl, hb⟩
        clear c00 c01 c02 c03 c10 c11 c12 c13 c14
        replace Gb := Gb.keep hb
        replace X := X.keep hb
        replace hB := bt hB hb
        clear hb
        obtain ⟨c00, c01, c02, c03⟩ := Gb.open2
        obtain ⟨c10, c11, c12, c13, c14⟩ := X.open3
        go_wp2_with fail
        refine (node_c _ _ _ _ _ _).mono ?_
        rw [Q1.out]
        rintro e w7 ⟨rfl, hb⟩
        clear c00 c01 c02 c03 c10 c11 c12 c13 c14
        replace Gb := Gb.keep hb
        replace X := X.keep hb
        replace hB := bt hB hb
        clear hb
        go_wp2_with fail
        go_returns
        exact ⟨ret_int HE.out.symm, hB⟩
      by_cases k0 : E k 2 < 0
      · have Q0 := Lib.hid q0
        have Q1 := Lib.hid q1
        have HE := Lib.hid ((Ce.ck_stop C0.out hlt hok.out (by rw [Ce.erow_2 (by rw [Q0.out, Q1.out]; rfl) (decide_eq_false (by omega))]; decide)).trans (Ce.erow_2 (by rw [Q0.out, Q1.out]; rfl) (decide_eq_false (by omega))))
        rw [HA.out] at Gb ⊢
        clear q0 q1
        obtain ⟨c00, c01, c02, c03⟩ := Gb.open2
        obtain ⟨c10, c11, c12, c13, c14⟩ := X.open3
        go_wp2_with fail
        refine (node_c _ _ _ _ _ _).mono ?_
        rw [Q0.out]
        rintro e w6 ⟨rfl, hb⟩
        clear c00 c01 c02 c03 c10 c11 c12 c13 c14
        replace Gb := Gb.keep hb
        replace X := X.keep hb
        replace hB := bt hB hb
        clear hb
        obtain ⟨c00, c01, c02, c03⟩ := Gb.open2
        obtain ⟨c10, c11, c12, c13, c14⟩ := X.open3
        go_wp2_with fail
        refine (node_c _ _ _ _ _ _).mono ?_
        rw [Q1.out]
        rintro e w7 ⟨rfl, hb⟩
        clear c00 c01 c02 c03 c10 c11 c12 c13 c14
        replace Gb := Gb.keep hb
        replace X := X.keep hb
        replace hB := bt hB hb
        clear hb
        obtain ⟨c00, c01, c02, c03, c04⟩ := X.open3
        go_wp2_with fail
        go_returns
        exact ⟨ret_int HE.out.symm, hB⟩
      by_cases k1 : 1099511627776 < E k 2
      · have Q0 := Lib.hid q0
        have Q1 := Lib.hid q1
        have HE := Lib.hid ((Ce.ck_stop C0.out hlt hok.out (by rw [Ce.erow_2 (by rw [Q0.out, Q1.out]; rfl) (decide_eq_false (by omega))]; decide)).trans (Ce.erow_2 (by rw [Q0.out, Q1.out]; rfl) (decide_eq_false (by omega))))
        rw [HA.out] at Gb ⊢
        clear q0 q1
        obtain ⟨c00, c01, c02, c03⟩ := Gb.open2
        obtain ⟨c10, c11, c12, c13, c14⟩ := X.open3
        go_wp2_with fail
        refine (node_c _ _ _ _ _ _).mono ?_
        rw [Q0.out]
        rintro e w6 ⟨rfl, hb⟩
        clear c00 c01 c02 c03 c10 c11 c12 c13 c14
        replace Gb := Gb.keep hb
        replace X := X.keep hb
        replace hB := bt hB hb
        clear hb
        obtain ⟨c00, c01, c02, c03⟩ := Gb.open2
        obtain ⟨c10, c11, c12, c13, c14⟩ := X.open3
        go_wp2_with fail
        refine (node_c _ _ _ _ _ _).mono ?_
        rw [Q1.out]
        rintro e w7 ⟨rfl, hb⟩
        clear c00 c01 c02 c03 c10 c11 c12 c13 c14
        replace Gb := Gb.keep hb
        replace X := X.keep hb
        replace hB := bt hB hb
        clear hb
        obtain ⟨c00, c01, c02, c03, c04⟩ := X.open3
        go_wp2_with fail
        go_returns
        exact ⟨ret_int HE.out.symm, hB⟩
      · have Q0 := Lib.hid q0
        have Q1 := Lib.hid q1
        have HE := Lib.hid (Ce.ckE_next hok.out (Ce.erow_0.2 ⟨(Ce.nd_iff.1 Q0.out).1, (Ce.nd_iff.1 Q0.out).2, (Ce.nd_iff.1 Q1.out).1, (Ce.nd_iff.1 Q1.out).2, by omega, by omega⟩))
        rw [HA.out] at Gb ⊢
        clear q0 q1
        obtain ⟨c00, c01, c02, c03⟩ := Gb.open2
        obtain ⟨c10, c11, c12, c13, c14⟩ := X.open3
        go_wp2_with fail
        refine (node_c _ _ _ _ _ _).mono ?_
        rw [Q0.out]
        rintro e w6 ⟨rfl, hb⟩
        clear c00 c01 c02 c03 c10 c11 c12 c13 c14
        replace Gb := Gb.keep hb
        replace X := X.keep hb
        replace hB := bt hB hb
        clear hb
        obtain ⟨c00, c01, c02, c03⟩ := Gb.open2
        obtain ⟨c10, c11, c12, c13, c14⟩ := X.open3
        go_wp2_with fail
        refine (node_c _ _ _ _ _ _).mono ?_
        rw [Q1.out]
        rintro e w7 ⟨rfl, hb⟩
        clear c00 c01 c02 c03 c10 c11 c12 c13 c14
        replace Gb := Gb.keep hb
        replace X := X.keep hb
        replace hB := bt hB hb
        clear hb
        obtain ⟨c00, c01, c02, c03, c04⟩ := X.open3
        go_wp2_with fail
        go_roundw
        case rel => exact ⟨k + 1, by omega, by go_num, HE, Gb, hB⟩
        case measure => simp [intOf]; omega
    · obtain rfl : k = m := by omega
      have HE := Lib.hid (Ce.ck_end C0.out hok.out)
      go_wp2_with fail
      go_returns
      exact ⟨ret_int HE.out.symm, hB⟩
set_option maxRecDepth 100000 in
set_option maxHeartbeats 4000000 in
theorem rcheck_c (A : Option Addr) (n : Int) (m c : Nat) (E : Ce.Tab) (w : World) (T : Rd w 3 A m c (iv E)) (n1 : -9223372036854775808 ≤ n) (n2 : n ≤ 9223372036854775807) : Calls Try.prog 77 #[.agg #[.int .i64 n, .slice A m c]] w fun e w' => e = .returned (.int .i64 (Ce.ck n m E)) ∧ Below w.heap.size w w' := by
  have r1 := T.le
  have r2 := T.mx
  by_cases c1 : n < 1
  · have HE := Lib.hid (Ce.ck_3 (n := n) (m := m) (E := E) (by omega))
    skip
    go_enter Try.func77, Try.ntmps77
    have Gb := Blk.new w 41 #[.int .i64 (n), .slice A m c]
    have hB := ba w (.cells #[.int .i64 (n), .slice A m c] 41)
    obtain ⟨c00, c01, c02, c03⟩ := Gb.open2
    go_wp2_with fail
    go_returns
    exact ⟨ret_int HE.out.symm, hB⟩
  by_cases c2 : 512 < n
  · have HE := Lib.hid (Ce.ck_3 (n := n) (m := m) (E := E) (by omega))
    skip
    go_enter Try.func77, Try.ntmps77
    have Gb := Blk.new w 41 #[.int .i64 (n), .slice A m c]
    have hB := ba w (.cells #[.int .i64 (n), .slice A m c] 41)
    obtain ⟨c00, c01, c02, c03⟩ := Gb.open2
    go_wp2_with fail
    go_returns
    exact ⟨ret_int HE.out.symm, hB⟩
  by_cases c3 : 8192 < m
  · have HE := Lib.hid (Ce.ck_3 (n := n) (m := m) (E := E) (by omega))
    have c4 : (8192 : Int) < (m : Int) := by omega
    go_enter Try.func77, Try.ntmps77
    have Gb := Blk.new w 41 #[.int .i64 (n), .slice A m c]
    have hB := ba w (.cells #[.int .i64 (n), .slice A m c] 41)
    obtain ⟨c00, c01, c02, c03⟩ := Gb.open2
    go_wp2_with fail
    go_returns
    exact ⟨ret_int HE.out.symm, hB⟩
  have c4 : ¬ (8192 : Int) < (m : Int) := by omega
  have c0 : ¬ (n < 1 ∨ 512 < n ∨ 8192 < m) := by omega
  have C0 := Lib.hid c0
  clear c0
  go_enter Try.func77, Try.ntmps77
  have Gb := Blk.new w 41 #[.int .i64 (n), .slice A m c]
  have hB := ba w (.cells #[.int .i64 (n), .slice A m c] 41)
  obtain ⟨c00, c01, c02, c03⟩ := Gb.open2
  go_wp2_with fail
  clear c00 c01 c02 c03
  go_loopw [22] (fun i wr => ∃ k : Nat, k ≤ m ∧ i = .int .i64 k ∧ Hid (Ce.ckE n E k = 0) ∧ Blk wr w.heap.size 41 #[.int .i64 (n), .slice A m c] ∧ Below w.heap.size w wr) (fun i _ => m - (intOf i).toNat)
  case atStart => exact ⟨0, Nat.zero_le _, rfl, rfl, Gb, hB⟩
  case round =>
    clear Gb hB
    rename_i wr
    obtain ⟨k, hk, rfl, hok, Gb, hB⟩ := hrel
    by_cases hlt : k < m
    · obtain ⟨bb, off, eA, hbl, u0, u1, u2⟩ := (T.keep hB).at3 hlt
      have HA := Lib.hid eA
      clear eA
      replace Gb := Gb.alloc (.cells #[.int .i64 (E k 0), .int .i64 (E k 1), .int .i64 (E k 2)] 75)
      replace hB := bal hB (.cells #[.int .i64 (E k 0), .int .i64 (E k 1), .int .i64 (E k 2)] 75)
      have X := Blk.new wr 75 #[.int .i64 (E k 0), .int .i64 (E k 1), .int .i64 (E k 2)]
      have lG := Gb.lt
      cases q0 : Ce.nd n (E k 0)
      · have Q0 := Lib.hid q0
        have HE := Lib.hid ((Ce.ck_stop C0.out hlt hok.out (by rw [Ce.erow_1 (by rw [Q0.out]; rfl)]; decide)).trans (Ce.erow_1 (by rw [Q0.out]; rfl)))
        rw [HA.out] at Gb ⊢
        clear q0
        obtain ⟨c00, c01, c02, c03⟩ := Gb.open2
        obtain ⟨c10, c11, c12, c13, c14⟩ := X.open3
        go_wp2_with fail
        refine (rnode_c _ _ _ _ _ _).mono ?_
        rw [Q0.out]
        rintro e w6 ⟨rfl, hb⟩
        clear c00 c01 c02 c03 c10 c11 c12 c13 c14
        replace Gb := Gb.keep hb
        replace X := X.keep hb
        replace hB := bt hB hb
        clear hb
        go_wp2_with fail
        go_returns
        exact ⟨ret_int HE.out.symm, hB⟩
      cases q1 : Ce.nd n (E k 1)
      · have Q0 := Lib.hid q0
        have Q1 := Lib.hid q1
        have HE := Lib.hid ((Ce.ck_stop C0.out hlt hok.out (by rw [Ce.erow_1 (by rw [Q0.out, Q1.out]; rfl)]; decide)).trans (Ce.erow_1 (by rw [Q0.out, Q1.out]; rfl)))
        rw [HA.out] at Gb ⊢
        clear q0 q1
        obtain ⟨c00, c01, c02, c03⟩ := Gb.open2
        obtain ⟨c10, c11, c12, c13, c14⟩ := X.open3
        go_wp2_with fail
        refine (rnode_c _ _ _ _ _ _).mono ?_
        rw [Q0.out]
        rintro e w6 ⟨rfl, hb⟩
        clear c00 c01 c02 c03 c10 c11 c12 c13 c14
        replace Gb := Gb.keep hb
        replace X := X.keep hb
        replace hB := bt hB hb
        clear hb
        obtain ⟨c00, c01, c02, c03⟩ := Gb.open2
        obtain ⟨c10, c11, c12, c13, c14⟩ := X.open3
        go_wp2_with fail
        refine (rnode_c _ _ _ _ _ _).mono ?_
        rw [Q1.out]
        rintro e w7 ⟨rfl, hb⟩
        clear c00 c01 c02 c03 c10 c11 c12 c13 c14
        replace Gb := Gb.keep hb
        replace X := X.keep hb
        replace hB := bt hB hb
        clear hb
        go_wp2_with fail
        go_returns
        exact ⟨ret_int HE.out.symm, hB⟩
      by_cases k0 : E k 2 < 0
      · have Q0 := Lib.hid q0
        have Q1 := Lib.hid q1
        have HE := Lib.hid ((Ce.ck_stop C0.out hlt hok.out (by rw [Ce.erow_2 (by rw [Q0.out, Q1.out]; rfl) (decide_eq_false (by omega))]; decide)).trans (Ce.erow_2 (by rw [Q0.out, Q1.out]; rfl) (decide_eq_false (by omega))))
        rw [HA.out] at Gb ⊢
        clear q0 q1
        obtain ⟨c00, c01, c02, c03⟩ := Gb.open2
        obtain ⟨c10, c11, c12, c13, c14⟩ := X.open3
        go_wp2_with fail
        refine (rnode_c _ _ _ _ _ _).mono ?_
        rw [Q0.out]
        rintro e w6 ⟨rfl, hb⟩
        clear c00 c01 c02 c03 c10 c11 c12 c13 c14
        replace Gb := Gb.keep hb
        replace X := X.keep hb
        replace hB := bt hB hb
        clear hb
        obtain ⟨c00, c01, c02, c03⟩ := Gb.open2
        obtain ⟨c10, c11, c12, c13, c14⟩ := X.open3
        go_wp2_with fail
        refine (rnode_c _ _ _ _ _ _).mono ?_
        rw [Q1.out]
        rintro e w7 ⟨rfl, hb⟩
        clear c00 c01 c02 c03 c10 c11 c12 c13 c14
        replace Gb := Gb.keep hb
        replace X := X.keep hb
        replace hB := bt hB hb
        clear hb
        obtain ⟨c00, c01, c02, c03, c04⟩ := X.open3
        go_wp2_with fail
        go_returns
        exact ⟨ret_int HE.out.symm, hB⟩
      by_cases k1 : 1099511627776 < E k 2
      · have Q0 := Lib.hid q0
        have Q1 := Lib.hid q1
        have HE := Lib.hid ((Ce.ck_stop C0.out hlt hok.out (by rw [Ce.erow_2 (by rw [Q0.out, Q1.out]; rfl) (decide_eq_false (by omega))]; decide)).trans (Ce.erow_2 (by rw [Q0.out, Q1.out]; rfl) (decide_eq_false (by omega))))
        rw [HA.out] at Gb ⊢
        clear q0 q1
        obtain ⟨c00, c01, c02, c03⟩ := Gb.open2
        obtain ⟨c10, c11, c12, c13, c14⟩ := X.open3
        go_wp2_with fail
        refine (rnode_c _ _ _ _ _ _).mono ?_
        rw [Q0.out]
        rintro e w6 ⟨rfl, hb⟩
        clear c00 c01 c02 c03 c10 c11 c12 c13 c14
        replace Gb := Gb.keep hb
        replace X := X.keep hb
        replace hB := bt hB hb
        clear hb
        obtain ⟨c00, c01, c02, c03⟩ := Gb.open2
        obtain ⟨c10, c11, c12, c13, c14⟩ := X.open3
        go_wp2_with fail
        refine (rnode_c _ _ _ _ _ _).mono ?_
        rw [Q1.out]
        rintro e w7 ⟨rfl, hb⟩
        clear c00 c01 c02 c03 c10 c11 c12 c13 c14
        replace Gb := Gb.keep hb
        replace X := X.keep hb
        replace hB := bt hB hb
        clear hb
        obtain ⟨c00, c01, c02, c03, c04⟩ := X.open3
        go_wp2_with fail
        go_returns
        exact ⟨ret_int HE.out.symm, hB⟩
      · have Q0 := Lib.hid q0
        have Q1 := Lib.hid q1
        have HE := Lib.hid (Ce.ckE_next hok.out (Ce.erow_0.2 ⟨(Ce.nd_iff.1 Q0.out).1, (Ce.nd_iff.1 Q0.out).2, (Ce.nd_iff.1 Q1.out).1, (Ce.nd_iff.1 Q1.out).2, by omega, by omega⟩))
        rw [HA.out] at Gb ⊢
        clear q0 q1
        obtain ⟨c00, c01, c02, c03⟩ := Gb.open2
        obtain ⟨c10, c11, c12, c13, c14⟩ := X.open3
        go_wp2_with fail
        refine (rnode_c _ _ _ _ _ _).mono ?_
        rw [Q0.out]
        rintro e w6 ⟨rfl, hb⟩
        clear c00 c01 c02 c03 c10 c11 c12 c13 c14
        replace Gb := Gb.keep hb
        replace X := X.keep hb
        replace hB := bt hB hb
        clear hb
        obtain ⟨c00, c01, c02, c03⟩ := Gb.open2
        obtain ⟨c10, c11, c12, c13, c14⟩ := X.open3
        go_wp2_with fail
        refine (rnode_c _ _ _ _ _ _).mono ?_
        rw [Q1.out]
        rintro e w7 ⟨rfl, hb⟩
        clear c00 c01 c02 c03 c10 c11 c12 c13 c14
        replace Gb := Gb.keep hb
        replace X := X.keep hb
        replace hB := bt hB hb
        clear hb
        obtain ⟨c00, c01, c02, c03, c04⟩ := X.open3
        go_wp2_with fail
        go_roundw
        case rel => exact ⟨k + 1, by omega, by go_num, HE, Gb, hB⟩
        case measure => simp [intOf]; omega
    · obtain rfl : k = m := by omega
      have HE := Lib.hid (Ce.ck_end C0.out hok.out)
      go_wp2_with fail
      go_returns
      exact ⟨ret_int HE.out.symm, hB⟩
end Go.Proofs.Ytoeklllahpegfaa
/-
  Contract: ends.
-/
namespace Go.Proofs.Ytoeklllahpegfaa
set_option linter.unusedVariables false
set_option linter.unusedSimpArgs false
open Go.RowKit
attribute [local irreducible] World.setCell World.cell?

set_option maxRecDepth 100000 in
set_option maxHeartbeats 4000000 in
theorem ends_c (A : Option Addr) (n : Int) (m c : Nat) (E : Ce.Tab) (w : World) (T : Rd w 3 A m c (iv E)) (n1 : -9223372036854775808 ≤ n) (n2 : n ≤ 9223372036854775807) (a b : Int) : Calls Try.prog 51 #[.agg #[.int .i64 n, .slice A m c], .int .i64 a, .int .i64 b] w fun e w' => e = .returned (.int .i64 (Ce.en n m E a b)) ∧ Below w.heap.size w w' := by
  by_cases h : Ce.ck n m E = 0
  rotate_left
  · have h1 : (Ce.ck n m E != 0) = true := by simpa using h
    have HE := Lib.hid (Ce.en_ck (a := a) (b := b) h)
    clear h
    go_enter Try.func51, Try.ntmps51
    have Gb := Blk.new w 41 #[.int .i64 (n), .slice A m c]
    have hB := ba w (.cells #[.int .i64 (n), .slice A m c] 41)
    obtain ⟨c00, c01, c02, c03⟩ := Gb.open2
    go_wp2_with fail
    refine (check_c _ _ _ _ _ _ (T.keep hB) n1 n2).mono ?_
    rintro e w1 ⟨rfl, hb⟩
    clear c00 c01 c02 c03
    replace Gb := Gb.keep hb
    replace hB := bt hB hb
    clear hb
    go_wp2_with fail
    go_returns
    exact ⟨ret_int HE.out.symm, hB⟩
  cases q0 : Ce.nd n a
  · have HE := Lib.hid (Ce.en_1 h (a := a) (b := b) (by rw [q0]; rfl))
    have H := Lib.hid h
    have Q0 := Lib.hid q0
    clear h q0
    go_enter Try.func51, Try.ntmps51
    have Gb := Blk.new w 41 #[.int .i64 (n), .slice A m c]
    have hB := ba w (.cells #[.int .i64 (n), .slice A m c] 41)
    obtain ⟨c00, c01, c02, c03⟩ := Gb.open2
    go_wp2_with fail
    refine (check_c _ _ _ _ _ _ (T.keep hB) n1 n2).mono ?_
    rw [H.out]
    rintro e w1 ⟨rfl, hb⟩
    clear c00 c01 c02 c03
    replace Gb := Gb.keep hb
    replace hB := bt hB hb
    clear hb
    obtain ⟨c00, c01, c02, c03⟩ := Gb.open2
    go_wp2_with fail
    refine (node_c _ _ _ _ _ _).mono ?_
    rw [Q0.out]
    rintro e w2 ⟨rfl, hb⟩
    clear c00 c01 c02 c03
    replace Gb := Gb.keep hb
    replace hB := bt hB hb
    clear hb
    go_wp2_with fail
    go_returns
    exact ⟨ret_int HE.out.symm, hB⟩
  cases q1 : Ce.nd n b
  · have HE := Lib.hid (Ce.en_1 h (a := a) (b := b) (by rw [q0, q1]; rfl))
    have H := Lib.hid h
    have Q0 := Lib.hid q0
    have Q1 := Lib.hid q1
    clear h q0 q1
    go_enter Try.func51, Try.ntmps51
    have Gb := Blk.new w 41 #[.int .i64 (n), .slice A m c]
    have hB := ba w (.cells #[.int .i64 (n), .slice A m c] 41)
    obtain ⟨c00, c01, c02, c03⟩ := Gb.open2
    go_wp2_with fail
    refine (check_c _ _ _ _ _ _ (T.keep hB) n1 n2).mono ?_
    rw [H.out]
    rintro e w1 ⟨rfl, hb⟩
    clear c00 c01 c02 c03
    replace Gb := Gb.keep hb
    replace hB := bt hB hb
    clear hb
    obtain ⟨c00, c01, c02, c03⟩ := Gb.open2
    go_wp2_with fail
    refine (node_c _ _ _ _ _ _).mono ?_
    rw [Q0.out]
    rintro e w2 ⟨rfl, hb⟩
    clear c00 c01 c02 c03
    replace Gb := Gb.keep hb
    replace hB := bt hB hb
    clear hb
    obtain ⟨c00, c01, c02, c03⟩ := Gb.open2
    go_wp2_with fail
    refine (node_c _ _ _ _ _ _).mono ?_
    rw [Q1.out]
    rintro e w3 ⟨rfl, hb⟩
    clear c00 c01 c02 c03
    replace Gb := Gb.keep hb
    replace hB := bt hB hb
    clear hb
    go_wp2_with fail
    go_returns
    exact ⟨ret_int HE.out.symm, hB⟩
  · have HE := Lib.hid (Ce.en_0 h (a := a) (b := b) (by rw [q0, q1]; rfl))
    have H := Lib.hid h
    have Q0 := Lib.hid q0
    have Q1 := Lib.hid q1
    clear h q0 q1
    go_enter Try.func51, Try.ntmps51
    have Gb := Blk.new w 41 #[.int .i64 (n), .slice A m c]
    have hB := ba w (.cells #[.int .i64 (n), .slice A m c] 41)
    obtain ⟨c00, c01, c02, c03⟩ := Gb.open2
    go_wp2_with fail
    refine (check_c _ _ _ _ _ _ (T.keep hB) n1 n2).mono ?_
    rw [H.out]
    rintro e w1 ⟨rfl, hb⟩
    clear c00 c01 c02 c03
    replace Gb := Gb.keep hb
    replace hB := bt hB hb
    clear hb
    obtain ⟨c00, c01, c02, c03⟩ := Gb.open2
    go_wp2_with fail
    refine (node_c _ _ _ _ _ _).mono ?_
    rw [Q0.out]
    rintro e w2 ⟨rfl, hb⟩
    clear c00 c01 c02 c03
    replace Gb := Gb.keep hb
    replace hB := bt hB hb
    clear hb
    obtain ⟨c00, c01, c02, c03⟩ := Gb.open2
    go_wp2_with fail
    refine (node_c _ _ _ _ _ _).mono ?_
    rw [Q1.out]
    rintro e w3 ⟨rfl, hb⟩
    clear c00 c01 c02 c03
    replace Gb := Gb.keep hb
    replace hB := bt hB hb
    clear hb
    go_wp2_with fail
    go_returns
    exact ⟨ret_int HE.out.symm, hB⟩
end Go.Proofs.Ytoeklllahpegfaa
/-
  Contracts: Potentials.
-/
namespace Go.Proofs.Ytoeklllahpegfaa
set_option linter.unusedVariables false
set_option linter.unusedSimpArgs false
open Go.RowKit
attribute [local irreducible] World.setCell World.cell?

theorem rd_num (w : World) (t : TypeId) (x : Int) {H : Nat} (hH : w.heap.size = H) : Rd (w.alloc (.cells #[.int .i64 x] t)) 1 (some ⟨H, 0, none⟩) 1 1 (nv fun _ => x) := by
  subst hH
  exact Rd.of_blk (Blk.new w t _) (Nat.le_refl _) (by omega) fun i j hi hj => by
    obtain rfl : i = 0 := by omega
    obtain rfl : j = 0 := by omega
    rfl
theorem own_num {w : World} {b : Nat} {e : TypeId} {A : Option Addr} {j c : Nat} {R : Nat → Int} {x : Int} (h : Own w b e 1 A (j + 1) c (app j (nv R) (nv fun _ => x))) (hx : R j = x) : Own w b e 1 A (j + 1) c (nv R) :=
  h.congr fun i f hi _ => by
    unfold app
    split
    · rfl
    · obtain rfl : i = j := by omega
      unfold nv; rw [hx]
theorem Rd.lab {w : World} {g n c : Nat} {C D : Nat → Int} {F : Nat → Bool} (h : Rd w 3 (some ⟨g, 0, none⟩) n c (lv C D F)) {i : Nat} (hi : i < n) :
    w.cell? ⟨g, i * 3, none⟩ = some (.int .i64 (C i)) ∧ w.cell? ⟨g, i * 3 + 1, none⟩ = some (.int .i64 (D i)) ∧ w.cell? ⟨g, i * 3 + 2, none⟩ = some (.bool (F i)) ∧ g < w.heap.size := by
  obtain ⟨b, off, e, hl, hc⟩ := h.at_ (by omega)
  injection e with e
  injection e with e1 e2
  subst e1 e2
  have := hc i 0 hi (by omega)
  have := hc i 1 hi (by omega)
  have := hc i 2 hi (by omega)
  simp only [Nat.zero_add, Nat.add_zero] at *
  exact ⟨by assumption, by assumption, by assumption, hl⟩
end Go.Proofs.Ytoeklllahpegfaa
/-
  Contracts: Example, list, routes.
-/
namespace Go.Proofs.Ytoeklllahpegfaa
set_option linter.unusedVariables false
set_option linter.unusedSimpArgs false
open Go.RowKit
attribute [local irreducible] World.setCell World.cell?

def exE : Ce.Tab := fun i j => match i, j with
  | 0, 0 => 0
  | 0, 1 => 1
  | 0, 2 => 5
  | 1, 0 => 0
  | 1, 1 => 2
  | 1, 2 => 2
  | 2, 0 => 2
  | 2, 1 => 1
  | 2, 2 => 2
  | 3, 0 => 1
  | _, _ => 0
def f4 (a b c d : Int) : Nat → Int := fun i => match i with
  | 0 => a
  | 1 => b
  | 2 => c
  | _ => d
def eqL (l : Nat) (N : Nat → Int) (k : Nat) (M : Nat → Int) : Bool := decide (l = k ∧ ∀ i, i < l → N i = M i)
theorem rd_lit4 (w : World) (t : TypeId) (a b c d : Int) {H : Nat} (hH : w.heap.size = H) : Rd (w.alloc (.cells #[.int .i64 a, .int .i64 b, .int .i64 c, .int .i64 d] t)) 1 (some ⟨H, 0, none⟩) 4 4 (nv (f4 a b c d)) := by
  subst hH
  exact Rd.of_blk (Blk.new w t _) (Nat.le_refl _) (by omega) fun i j hi hj => by
    obtain rfl : j = 0 := by omega
    match i, hi with
    | 0, _ => rfl
    | 1, _ => rfl
    | 2, _ => rfl
    | 3, _ => rfl
theorem rd_lit2 (w : World) (t : TypeId) (a b : Int) {H : Nat} (hH : w.heap.size = H) : Rd (w.alloc (.cells #[.int .i64 a, .int .i64 b] t)) 1 (some ⟨H, 0, none⟩) 2 2 (nv (f4 a b 0 0)) := by
  subst hH
  exact Rd.of_blk (Blk.new w t _) (Nat.le_refl _) (by omega) fun i j hi hj => by
    obtain rfl : j = 0 := by omega
    match i, hi with
    | 0, _ => rfl
    | 1, _ => rfl
end Go.Proofs.Ytoeklllahpegfaa
/-
  Words for the reference's labels.
-/
namespace Go.Proofs.Ytoeklllahpegfaa
set_option linter.unusedVariables false
set_option linter.unusedSimpArgs false
open Go.RowKit
attribute [local irreducible] World.setCell World.cell?

theorem mk_i6 (n : Nat) (hn : n ≤ 512) : ∀ W : World, (Instr.makeSlice 22 (.int .i64 (n : Int)) (.int .i64 (n : Int))).run Try.prog W = .ok (.slice (some ⟨W.heap.size, 0, none⟩) n n) (W.alloc (.cells (madeCells #[.int .i64 0] n) 2)) := by
  obtain ⟨i0, hi, hz0, hz1, hz2⟩ := info_parts infoI6
  intro W
  have h := run_make_n (P := Try.prog) Try.underlying22 hi hz0 hz1 hz2 n (by omega) (by omega) W
  rw [Nat.mul_one] at h
  exact h
theorem own_i6 (w : World) (base n : Nat) (hn : n ≤ 512) (hb : base ≤ w.heap.size) : Own (w.alloc (.cells (madeCells #[.int .i64 0] n) 2)) base 2 1 (some ⟨w.heap.size, 0, none⟩) n n (nv fun _ => 0) := by
  have h := Own.made (z := #[.int .i64 0]) (q := 1) (V := nv fun _ => 0) w 2 n rfl (by omega) (by omega) hb fun i j hi hj => by
    obtain rfl : j = 0 := by omega
    rfl
  rw [Nat.mul_one] at h
  exact h
theorem two_i6 (w : World) (n : Nat) (hn : n ≤ 512) :
    Own ((w.alloc (.cells (madeCells #[.int .i64 0] n) 2)).alloc (.cells (madeCells #[.int .i64 0] n) 2)) w.heap.size 2 1 (some ⟨w.heap.size, 0, none⟩) n n (nv fun _ => 0) ∧
    Own ((w.alloc (.cells (madeCells #[.int .i64 0] n) 2)).alloc (.cells (madeCells #[.int .i64 0] n) 2)) w.heap.size 2 1 (some ⟨w.heap.size + 1, 0, none⟩) n n (nv fun _ => 0) := by
  refine ⟨(own_i6 w w.heap.size n hn (Nat.le_refl _)).alloc _, ?_⟩
  have h := own_i6 (w.alloc (.cells (madeCells #[.int .i64 0] n) 2)) w.heap.size n hn (by simp)
  have e : (w.alloc (.cells (madeCells #[.int .i64 0] n) 2)).heap.size = w.heap.size + 1 := by simp
  rw [e] at h
  exact h
theorem Own.up1 {w : World} {b g n c : Nat} {e : TypeId} {R : Nat → Int} (h : Own w b e 1 (some ⟨g, 0, none⟩) n c (nv R)) {i : Nat} (hi : i < n) (u : Int) : Own (w.setCell ⟨g, i, none⟩ (.int .i64 u)) b e 1 (some ⟨g, 0, none⟩) n c (nv (Ce.up R i u)) :=
  h.set1 hi u (Ce.up_at _ _ _) (fun i' _ h => Ce.up_ne h)
namespace Ce
def Stab (E : Tab) (C D : Nat → Int) (i : Nat) : Prop := C (fr E i) ≠ 4611686018427387904 → ¬ lt2 (C (fr E i) + E i 2) (D (fr E i) + 1) (C (to E i)) (D (to E i))
end Ce
end Go.Proofs.Ytoeklllahpegfaa
/-
  A block of many cells read whole: one law for the walk instead of one load for each cell.
-/
namespace Go.Proofs.Ytoeklllahpegfaa
set_option linter.unusedVariables false
set_option linter.unusedSimpArgs false
open Go.RowKit
theorem Blk.part {P : Program} {w : World} {g : Nat} {t : TypeId} {cs : Array Value} (h : Blk w g t cs) (o n : Nat) (l : List Value) (hl : l.length = n) (hv : ∀ j v, l[j]? = some v → cs[o + j]? = some v) :
    (loadCellsFrom ⟨g, o, none⟩ 0 n #[]).run P w = .ok l.toArray w := by
  subst hl
  have := run_loadCells_list (P := P) w ⟨g, o, none⟩ l (fun j v hj => by
    have hadd : (⟨g, o, none⟩ : Addr).add j = ⟨g, o + j, none⟩ := by unfold Addr.add; split <;> simp_all
    rw [hadd, h.cell]
    exact hv j v hj)
  simpa [loadCells] using this
theorem Blk.whole {P : Program} {w : World} {g : Nat} {t : TypeId} {l : List Value} (h : Blk w g t l.toArray) : (loadCellsFrom ⟨g, 0, none⟩ 0 l.length #[]).run P w = .ok l.toArray w :=
  h.part 0 l.length l rfl fun j v hj => by simpa using hj
theorem Blk.whole24 {P : Program} {w : World} {g : Nat} {t : TypeId} {a0 a1 a2 a3 a4 a5 a6 a7 a8 a9 a10 a11 a12 a13 a14 a15 a16 a17 a18 a19 a20 a21 a22 a23 : Value} (h : Blk w g t #[a0, a1, a2, a3, a4, a5, a6, a7, a8, a9, a10, a11, a12, a13, a14, a15, a16, a17, a18, a19, a20, a21, a22, a23]) :
    (loadCellsFrom ⟨g, 0, none⟩ 0 24 #[]).run P w = .ok #[a0, a1, a2, a3, a4, a5, a6, a7, a8, a9, a10, a11, a12, a13, a14, a15, a16, a17, a18, a19, a20, a21, a22, a23] w :=
  h.whole
theorem rowB : (match Try.prog.underlying 27 with | some d => TypeDesc.isRow d | none => false) = true ∧ (Try.prog.info? 27).map (·.size) = some 24 := ⟨by kernel_rfl, by kernel_rfl⟩
theorem run_B {w : World} {g : Nat} {t : TypeId} {a0 a1 a2 a3 a4 a5 a6 a7 a8 a9 a10 a11 a12 a13 a14 a15 a16 a17 a18 a19 a20 a21 a22 a23 : Value} (h : Blk w g t #[a0, a1, a2, a3, a4, a5, a6, a7, a8, a9, a10, a11, a12, a13, a14, a15, a16, a17, a18, a19, a20, a21, a22, a23]) : (Instr.loadAt 27 (.pointer (some ⟨g, 0, none⟩))).run Try.prog w = .ok (.agg #[a0, a1, a2, a3, a4, a5, a6, a7, a8, a9, a10, a11, a12, a13, a14, a15, a16, a17, a18, a19, a20, a21, a22, a23]) w := by
  obtain ⟨h1, h2⟩ := rowB
  split at h1
  · rename_i d hd
    refine run_loadAt_mid w g 0 27 [a0, a1, a2, a3, a4, a5, a6, a7, a8, a9, a10, a11, a12, a13, a14, a15, a16, a17, a18, a19, a20, a21, a22, a23] d ?_ hd h1 (by rw [h2]; rfl)
    intro j v hv
    rw [h.cell]
    rw [Nat.zero_add]
    simpa using hv
  · cases h1
/-- The load of a whole problem, at the list of a region's operations. -/
theorem wpList_B {ops : Array Oper} {rest : List Oper} {op : Oper} {a : Act} {w : World} {Q : Exit → Act → World → Prop} (x : Operand) (hw : Region.wanted op (yielded ops a.tmps) = true) (ho : op.op = .load 27 x) {g : Nat} {t : TypeId} {a0 a1 a2 a3 a4 a5 a6 a7 a8 a9 a10 a11 a12 a13 a14 a15 a16 a17 a18 a19 a20 a21 a22 a23 : Value}
    (hx : a.eval x = .pointer (some ⟨g, 0, none⟩)) (G : Blk w g t #[a0, a1, a2, a3, a4, a5, a6, a7, a8, a9, a10, a11, a12, a13, a14, a15, a16, a17, a18, a19, a20, a21, a22, a23]) (h : wpList Try.prog ops Q rest (a.put op.dst (.agg #[a0, a1, a2, a3, a4, a5, a6, a7, a8, a9, a10, a11, a12, a13, a14, a15, a16, a17, a18, a19, a20, a21, a22, a23])) w) : wpList Try.prog ops Q (op :: rest) a w :=
  wpList_step fun _ hK => by
    rw [if_pos hw]
    unfold Oper.wp execOp
    simp only [ho, hx, run_B G, Sem.run_bind, Sem.run_pure, Result.andThen_ok]
    exact hK _ _ h
/-- A problem's block: its numbers, its lists. -/
theorem Blk.ow24 {w : World} {g : Nat} {t : TypeId} {a0 a1 a2 a3 a4 a5 a6 a7 a8 a9 a10 a11 a12 a13 a14 a15 a16 a17 a18 a19 a20 a21 a22 a23 : Value} (h : Blk w g t #[a0, a1, a2, a3, a4, a5, a6, a7, a8, a9, a10, a11, a12, a13, a14, a15, a16, a17, a18, a19, a20, a21, a22, a23]) :
    w.cell? ⟨g, 0, none⟩ = some a0 ∧ w.cell? ⟨g, 1, none⟩ = some a1 ∧ w.cell? ⟨g, 2, none⟩ = some a2 ∧ w.cell? ⟨g, 20, none⟩ = some a20 ∧ w.cell? ⟨g, 21, none⟩ = some a21 ∧ w.cell? ⟨g, 22, none⟩ = some a22 ∧ w.cell? ⟨g, 23, none⟩ = some a23 ∧ (∀ o, w.frozen? ⟨g, o, none⟩ = false) ∧ g < w.heap.size :=
  ⟨h.cell 0, h.cell 1, h.cell 2, h.cell 20, h.cell 21, h.cell 22, h.cell 23, h.frozen, h.lt⟩
end Go.Proofs.Ytoeklllahpegfaa
/-
  Words for the loops that build the graph: the two lists that grow; a region that makes a row, appends it and stores the slice.
-/
namespace Go.Proofs.Ytoeklllahpegfaa
set_option linter.unusedVariables false
set_option linter.unusedSimpArgs false
open Go.RowKit
attribute [local irreducible] World.setCell World.cell?

theorem infoC : (Try.prog.info? 35).map (fun i => (i.zero, i.size, i.bytes)) = some (some (.agg #[.int .i64 0, .int .i64 0]), 2, 16) := by kernel_rfl
def oa : Nat → Option Addr
  | 0 => none
  | g + 1 => some ⟨g, 0, none⟩
theorem oa_form {w : World} {b : Nat} {e : TypeId} {q : Nat} {A : Option Addr} {n c : Nat} {V : Nat → Nat → Value} (h : Own w b e q A n c V) : ∃ u, oa u = A := by
  obtain ⟨_, _, ⟨rfl, _⟩ | ⟨g, rfl, _⟩⟩ := h.form
  · exact ⟨0, rfl⟩
  · exact ⟨g + 1, rfl⟩
def Dj (A A' : Option Addr) : Prop := ob A = none ∨ ob A' = none ∨ ob A ≠ ob A'
theorem Dj.symm {A A' : Option Addr} (h : Dj A A') : Dj A' A := by
  rcases h with h | h | h
  · exact .inr (.inl h)
  · exact .inl h
  · exact .inr (.inr (Ne.symm h))
theorem Dj.kept {A A' : Option Addr} (h : Dj A A') : ob A' = none ∨ ob A' ≠ ob A := by
  rcases h with h | h | h
  · cases e : ob A'
    · exact .inl rfl
    · right; rw [h]; simp
  · exact .inl h
  · exact .inr (Ne.symm h)
theorem Dj.grow {A A2 A' : Option Addr} {H : Nat} (h : Dj A A2) (hob : ob A' = ob A ∨ ob A' = some H) (h2 : ∀ g, ob A2 = some g → g < H) : Dj A' A2 := by
  rcases hob with e | e
  · unfold Dj; rw [e]; exact h
  · cases e2 : ob A2 with
    | none => exact .inr (.inl e2)
    | some g => right; right; rw [e, e2]; intro q; injection q with q; have := h2 g e2; omega
/-! One more edge -/
namespace Oz
theorem gd_lt {L : List Ed} {x : Ed} {i : Nat} (h : i < L.length) : (L ++ [x]).getD i default = L.getD i default := by simp [List.getD_eq_getElem?_getD, List.getElem?_append_left h]
theorem gd_at (L : List Ed) (x : Ed) : (L ++ [x]).getD L.length default = x := by simp [List.getD_eq_getElem?_getD]
def row3 (a b c : Int) : Nat → Nat → Int := fun _ j => match j with
  | 0 => a
  | 1 => b
  | _ => c
def row2 (a b : Int) : Nat → Nat → Int := fun _ j => match j with
  | 0 => a
  | _ => b
end Oz
open Oz
theorem rd_row3 (w : World) (t : TypeId) (a b c : Int) : Rd (w.alloc (.cells #[.int .i64 a, .int .i64 b, .int .i64 c] t)) 3 (some ⟨w.heap.size, 0, none⟩) 1 1 (iv (row3 a b c)) :=
  Rd.of_blk (Blk.new w t _) (Nat.le_refl _) (by omega) fun i j hi hj => by
    match i, j, hi, hj with
    | 0, 0, _, _ => rfl
    | 0, 1, _, _ => rfl
    | 0, 2, _, _ => rfl
theorem rd_row2 (w : World) (t : TypeId) (a b : Int) {H : Nat} (hH : w.heap.size = H) : Rd (w.alloc (.cells #[.int .i64 a, .int .i64 b] t)) 2 (some ⟨H, 0, none⟩) 1 1 (iv (row2 a b)) := by
  subst hH
  exact Rd.of_blk (Blk.new w t _) (Nat.le_refl _) (by omega) fun i j hi hj => by
    match i, j, hi, hj with
    | 0, 0, _, _ => rfl
    | 0, 1, _, _ => rfl
theorem own_e {w : World} {b : Nat} {t : TypeId} {A : Option Addr} {c : Nat} {L : List Ed} {x : Ed} {y : Int} (h : Own w b t 3 A (L.length + 1) c (app L.length (iv (eN L)) (iv (row3 (x.f : Int) (x.t : Int) y)))) (hy : y = x.c) : Own w b t 3 A (L ++ [x]).length c (iv (eN (L ++ [x]))) := by
  rw [List.length_append]
  show Own w b t 3 A (L.length + 1) c _
  refine h.congr fun i f hi hf => ?_
  rw [app_int]
  unfold iv
  by_cases q : i < L.length
  · unfold eN
    simp only [if_pos q, gd_lt q]
  · obtain rfl : i = L.length := by omega
    simp only [if_neg q, Nat.sub_self]
    unfold eN
    simp only [gd_at]
    subst hy
    match f, hf with
    | 0, _ => rfl
    | 1, _ => rfl
    | 2, _ => rfl
theorem own_c {w : World} {b : Nat} {t : TypeId} {A : Option Addr} {c : Nat} {L : List Ed} {x : Ed} (h : Own w b t 2 A (L.length + 1) c (app L.length (iv (cN L)) (iv (row2 x.l x.s)))) : Own w b t 2 A (L ++ [x]).length c (iv (cN (L ++ [x]))) := by
  rw [List.length_append]
  show Own w b t 2 A (L.length + 1) c _
  refine h.congr fun i f hi hf => ?_
  rw [app_int]
  unfold iv
  by_cases q : i < L.length
  · unfold cN
    simp only [if_pos q, gd_lt q]
  · obtain rfl : i = L.length := by omega
    simp only [if_neg q, Nat.sub_self]
    unfold cN
    simp only [gd_at]
    match f, hf with
    | 0, _ => rfl
    | 1, _ => rfl
theorem own_r {w : World} {b : Nat} {t : TypeId} {A : Option Addr} {c : Nat} {L : List Ed} {x : Ed} {y z : Int} (h : Own w b t 2 A (L.length + 1) c (app L.length (iv (cR L)) (iv (row2 y z)))) (hy : y = if x.l < 0 then 0 else x.l) (hz : z = if x.s < 0 then 0 else x.s) : Own w b t 2 A (L ++ [x]).length c (iv (cR (L ++ [x]))) := by
  rw [List.length_append]
  show Own w b t 2 A (L.length + 1) c _
  refine h.congr fun i f hi hf => ?_
  rw [app_int]
  unfold iv
  by_cases q : i < L.length
  · unfold cR cN
    simp only [if_pos q, gd_lt q]
  · obtain rfl : i = L.length := by omega
    simp only [if_neg q, Nat.sub_self]
    unfold cR cN
    simp only [gd_at]
    subst hy hz
    match f, hf with
    | 0, _ => rfl
    | 1, _ => rfl
/-- The two lists that grow, the graph's variable (block g) and the problem's (block p). -/
structure GS (w wr : World) (Z : ZD) (Y : ZA) (g : Nat) (A AC : Option Addr) (c cC : Nat) (L : List Ed) (V : List Ed → Nat → Nat → Int) : Prop where
  e : Own wr (g + 1) 75 3 A L.length c (iv (eN L))
  q : Own wr (g + 1) 35 2 AC L.length cC (iv (V L))
  d : Dj A AC
  gb : Blk wr g 41 #[.int .i64 (gN Z : Int), .slice A L.length c]
  r : Blk wr (w.heap.size + 1) 41 #[.int .i64 0, .slice none 0 0]
  p : Blk wr w.heap.size 27 #[.slice Y.ds Z.nd Y.dsc, .slice Y.lv Z.nl Y.lvc, .slice Y.sp Z.ns Y.spc, .slice Y.tl Z.nt Y.tlc, .slice Y.ms Z.nm Y.msc, .string Z.P.nm, .int .i64 Z.P.em, .int .i64 Z.P.fu, .slice Y.Q.al Z.P.na Y.Q.alc, .slice Y.Q.ma Z.P.nM Y.Q.mac, .slice Y.Q.tC Z.P.nC Y.Q.tCc, .slice Y.Q.tF Z.P.nF Y.Q.tFc, .slice Y.Q.tR Z.P.nR Y.Q.tRc, .slice Y.Q.dD Z.P.nD Y.Q.dDc, .slice Y.Q.dI Z.P.nI Y.Q.dIc, .slice Y.Q.dX Z.P.nX Y.Q.dXc, .slice Y.Q.dN Z.P.nN Y.Q.dNc, .int .i64 Z.P.rf, .int .i64 Z.P.xt, .int .i64 Z.P.ce, .int .i64 Z.ix, .int .i64 Z.cc, .int .i64 Z.fi, .int .i64 Z.la]
  b : Below w.heap.size w wr
  l : w.heap.size + 1 < g
section
variable {w wr wx : World} {Z : ZD} {Y : ZA} {g : Nat} {A AC : Option Addr} {c cC : Nat} {L : List Ed} {V : List Ed → Nat → Nat → Int}
theorem GS.keep (h : GS w wr Z Y g A AC c cC L V) (hb : Below wr.heap.size wr wx) : GS w wx Z Y g A AC c cC L V :=
  ⟨h.e.keep hb, h.q.keep hb, h.d, h.gb.keep hb, h.r.keep hb, h.p.keep hb, bt h.b hb, h.l⟩
theorem GS.alloc (h : GS w wr Z Y g A AC c cC L V) (o : Obj) : GS w (wr.alloc o) Z Y g A AC c cC L V := h.keep (ba wr o)
theorem GS.drewN (h : GS w wr Z Y g A AC c cC L V) (n : Nat) : GS w (wr.drewN n) Z Y g A AC c cC L V := h.keep (bdn wr n)
theorem GS.drew (h : GS w wr Z Y g A AC c cC L V) : GS w wr.drew Z Y g A AC c cC L V := h.keep (bdr (Below.refl _ _))
theorem GS.lt (h : GS w wr Z Y g A AC c cC L V) : g < wr.heap.size := h.gb.lt
end
/-! A region that makes a row, appends it to a slice and stores the slice -/
/-- Behind the append. -/
structure Apn (W : World) (row : Array Value) (g : Nat) (A : Option Addr) (m c : Nat) (V V2 : Nat → Nat → Value) (A' : Option Addr) (c' : Nat) (wy : World) : Prop where
  o : Own wy (g + 1) 75 3 A' (m + 1) c' (app m V V2)
  gr : (W.alloc (.cells row 75)).grownBy wy (ob A)
  ob : ob A' = ob A ∨ ob A' = some (W.heap.size + 1)
structure Apd (P1 P2 P3 : Prop) (W : World) (row : Array Value) (g : Nat) (A : Option Addr) (m c : Nat) (V V2 : Nat → Nat → Value) (A' : Option Addr) (c' : Nat) (wx : World) : Prop where
  s0 : ¬ P1 → wx = W
  s1 : P1 → ¬ P2 → wx = W.alloc (.cells row 75)
  s2 : P2 → ¬ P3 → Apn W row g A m c V V2 A' c' wx
  s3 : P3 → ∃ wy, Apn W row g A m c V V2 A' c' wy ∧ wx = wy.setCell ⟨g, 1, none⟩ (.slice A' (m + 1) c')
  k2 : P2 → P1
  k3 : P3 → P2
section
variable {P1 P2 P3 Q1 Q2 Q3 : Prop} {W wx : World} {row : Array Value} {g : Nat} {A : Option Addr} {m c : Nat} {V V2 : Nat → Nat → Value} {A' : Option Addr} {c' : Nat}
theorem orI {a b : Nat} {p : Prop} (h : ¬ a = b) : (a = b ∨ p) ↔ p := ⟨fun q => q.resolve_left h, .inr⟩
theorem Apd.iff (h : Apd P1 P2 P3 W row g A m c V V2 A' c' wx) (h1 : Q1 ↔ P1) (h2 : Q2 ↔ P2) (h3 : Q3 ↔ P3) : Apd Q1 Q2 Q3 W row g A m c V V2 A' c' wx := by
  rw [propext h1, propext h2, propext h3]; exact h
theorem Apd.start (W : World) (row : Array Value) (g : Nat) (A : Option Addr) (m c : Nat) (V V2 : Nat → Nat → Value) (A' : Option Addr) (c' : Nat) : Apd False False False W row g A m c V V2 A' c' W :=
  ⟨fun _ => rfl, fun q => q.elim, fun q => q.elim, fun q => q.elim, fun q => q.elim, fun q => q.elim⟩
/-- A block that is neither the slice's nor the variable's. -/
theorem Apd.blk (h : Apd P1 P2 P3 W row g A m c V V2 A' c' wx) {b : Nat} {t : TypeId} {cs : Array Value} (B : Blk W b t cs) (h1 : ob A ≠ some b) (h2 : b ≠ g) : Blk wx b t cs := by
  by_cases q3 : P3
  · obtain ⟨wy, hy, rfl⟩ := h.s3 q3
    exact ((B.alloc _).grown hy.gr h1).far h2 _
  · by_cases q2 : P2
    · exact (B.alloc _).grown (h.s2 q2 q3).gr h1
    · by_cases q1 : P1
      · rw [h.s1 q1 q2]; exact B.alloc _
      · rw [h.s0 q1]; exact B
/-- The variable ahead of the store. -/
theorem Apd.var (h : Apd P1 P2 P3 W row g A m c V V2 A' c' wx) {t : TypeId} {cs : Array Value} (B : Blk W g t cs) (h1 : ob A ≠ some g) (q3 : ¬ P3) : Blk wx g t cs := by
  by_cases q2 : P2
  · exact (B.alloc _).grown (h.s2 q2 q3).gr h1
  · by_cases q1 : P1
    · rw [h.s1 q1 q2]; exact B.alloc _
    · rw [h.s0 q1]; exact B
theorem Apd.made (h : Apd P1 P2 P3 W row g A m c V V2 A' c' wx) (n1 : ¬ P1) (h1 : Q1) (h2 : ¬ Q2) (h3 : ¬ Q3) : Apd Q1 Q2 Q3 W row g A m c V V2 A' c' (wx.alloc (.cells row 75)) :=
  ⟨fun q => absurd h1 q, fun _ _ => by rw [h.s0 n1], fun q => absurd q h2, fun q => absurd q h3, fun q => absurd q h2, fun q => absurd q h3⟩
theorem Apd.ap {A2 : Option Addr} {c2 : Nat} {wy : World} (hy : Apn W row g A m c V V2 A2 c2 wy) (h1 : Q1) (h2 : Q2) (h3 : ¬ Q3) : Apd Q1 Q2 Q3 W row g A m c V V2 A2 c2 wy :=
  ⟨fun q => absurd h1 q, fun _ q => absurd h2 q, fun _ _ => hy, fun q => absurd q h3, fun _ => h1, fun q => absurd q h3⟩
theorem Apd.st (h : Apd P1 P2 P3 W row g A m c V V2 A' c' wx) (p2 : P2) (p3 : ¬ P3) (h1 : Q1) (h2 : Q2) (h3 : Q3) : Apd Q1 Q2 Q3 W row g A m c V V2 A' c' (wx.setCell ⟨g, 1, none⟩ (.slice A' (m + 1) c')) :=
  ⟨fun q => absurd h1 q, fun _ q => absurd h2 q, fun _ q => absurd h3 q, fun _ => ⟨wx, h.s2 p2 p3, rfl⟩, fun _ => h1, fun _ => h2⟩
end
/-- The region's end: one more edge lies in the graph's variable. -/
theorem Apd.done {P1 P2 P3 : Prop} {w W wx : World} {Z : ZD} {Y : ZA} {g c cC c' : Nat} {A AC A' : Option Addr} {L : List Ed} {U : List Ed → Nat → Nat → Int} {x : Ed} {y : Int} {row : Array Value} (hS : GS w W Z Y g A AC c cC L U)
    {xf xt : Int} (h : Apd P1 P2 P3 W row g A L.length c (iv (eN L)) (iv (row3 xf xt y)) A' c' wx) (p3 : P3) (hf : xf = (x.f : Int)) (ht : xt = (x.t : Int)) (hy : y = x.c) :
    Own wx (g + 1) 75 3 A' (L ++ [x]).length c' (iv (eN (L ++ [x]))) ∧ Own wx (g + 1) 35 2 AC L.length cC (iv (U L)) ∧ Dj A' AC ∧ Blk wx g 41 #[.int .i64 (gN Z : Int), .slice A' (L ++ [x]).length c'] ∧
      Blk wx (w.heap.size + 1) 41 #[.int .i64 0, .slice none 0 0] ∧ Blk wx w.heap.size 27 #[.slice Y.ds Z.nd Y.dsc, .slice Y.lv Z.nl Y.lvc, .slice Y.sp Z.ns Y.spc, .slice Y.tl Z.nt Y.tlc, .slice Y.ms Z.nm Y.msc, .string Z.P.nm, .int .i64 Z.P.em, .int .i64 Z.P.fu, .slice Y.Q.al Z.P.na Y.Q.alc, .slice Y.Q.ma Z.P.nM Y.Q.mac, .slice Y.Q.tC Z.P.nC Y.Q.tCc, .slice Y.Q.tF Z.P.nF Y.Q.tFc, .slice Y.Q.tR Z.P.nR Y.Q.tRc, .slice Y.Q.dD Z.P.nD Y.Q.dDc, .slice Y.Q.dI Z.P.nI Y.Q.dIc, .slice Y.Q.dX Z.P.nX Y.Q.dXc, .slice Y.Q.dN Z.P.nN Y.Q.dNc, .int .i64 Z.P.rf, .int .i64 Z.P.xt, .int .i64 Z.P.ce, .int .i64 Z.ix, .int .i64 Z.cc, .int .i64 Z.fi, .int .i64 Z.la] ∧ Below w.heap.size w wx ∧ (∀ b t cs, b < W.heap.size → Blk W b t cs → ob A ≠ some b → b ≠ g → Blk wx b t cs) := by
  subst hf ht
  have hl := hS.l
  have hA : ∀ b, b ≤ g → ob A ≠ some b := fun b hb q => by have := hS.e.base q; omega
  have far := fun b t cs (_ : b < W.heap.size) (B : Blk W b t cs) (h1 : ob A ≠ some b) (h2 : b ≠ g) => h.blk B h1 h2
  obtain ⟨wy, hN, rfl⟩ := h.s3 p3
  have gn : ∀ b, ob A' = some b → g < b := fun b q => by
    rcases hN.ob with e | e
    · rw [e] at q; have := hS.e.base q; omega
    · rw [e] at q; injection q with q; have := hS.lt; omega
  have hg : Blk wy g 41 #[.int .i64 (gN Z : Int), .slice A L.length c] := (hS.gb.alloc _).grown hN.gr (hA g (Nat.le_refl _))
  refine ⟨?_, ?_, hS.d.grow hN.ob (fun b q => by have := hS.q.top q; omega), ?_, far _ _ _ hS.r.lt hS.r (hA _ (by omega)) (by omega), far _ _ _ hS.p.lt hS.p (hA _ (by omega)) (by omega), ?_, far⟩
  · refine own_e (hN.o.far ?_ _) hy
    right
    intro q
    have := gn _ q
    simp at this
  · refine ((hS.q.alloc _).kept hN.gr hS.d.kept).far ?_ _
    right
    intro q
    have := hS.q.base q
    simp at this
    omega
  · have := hg.set_ 1 (.slice A' (L.length + 1) c')
    rw [List.length_append]
    simpa using this
  · refine bst ?_ (p := ⟨g, 1, none⟩) (by show _ ≤ g; omega) _
    refine (bal hS.b _).trans (below_grown hN.gr (fun b q => ?_) (bal hS.b _).size)
    have := hS.e.base q
    omega
/-- Nothing more. -/
theorem GS.na {w wr : World} {Z : ZD} {Y : ZA} {g : Nat} {A AC : Option Addr} {c cC : Nat} {L : List Ed} {V : List Ed → Nat → Nat → Int} (h : GS w wr Z Y g A AC c cC L V) {b : Nat} (hb : b ≤ g) : ob A ≠ some b := fun q => by have := h.e.base q; omega
theorem GS.cast {w wr : World} {Z : ZD} {Y : ZA} {g : Nat} {A AC : Option Addr} {c cC : Nat} {L L2 : List Ed} {V : List Ed → Nat → Nat → Int} (h : GS w wr Z Y g A AC c cC L V) (e : L2 = L) : GS w wr Z Y g A AC c cC L2 V := by rw [e]; exact h
/-- The choice behind the edge. -/
theorem GS.next {w wx w7 : World} {Z : ZD} {Y : ZA} {g c' cC c7 : Nat} {A' AC A7 : Option Addr} {L : List Ed} {V : List Ed → Nat → Nat → Int} {x : Ed} {row : Array Value} (oe : Own wx (g + 1) 75 3 A' (L ++ [x]).length c' (iv (eN (L ++ [x]))))
    (oq : Own wx (g + 1) 35 2 AC L.length cC (iv (V L))) (dj : Dj A' AC) (gb : Blk wx g 41 #[.int .i64 (gN Z : Int), .slice A' (L ++ [x]).length c']) (rb : Blk wx (w.heap.size + 1) 41 #[.int .i64 0, .slice none 0 0]) (pb : Blk wx w.heap.size 27 #[.slice Y.ds Z.nd Y.dsc, .slice Y.lv Z.nl Y.lvc, .slice Y.sp Z.ns Y.spc, .slice Y.tl Z.nt Y.tlc, .slice Y.ms Z.nm Y.msc, .string Z.P.nm, .int .i64 Z.P.em, .int .i64 Z.P.fu, .slice Y.Q.al Z.P.na Y.Q.alc, .slice Y.Q.ma Z.P.nM Y.Q.mac, .slice Y.Q.tC Z.P.nC Y.Q.tCc, .slice Y.Q.tF Z.P.nF Y.Q.tFc, .slice Y.Q.tR Z.P.nR Y.Q.tRc, .slice Y.Q.dD Z.P.nD Y.Q.dDc, .slice Y.Q.dI Z.P.nI Y.Q.dIc, .slice Y.Q.dX Z.P.nX Y.Q.dXc, .slice Y.Q.dN Z.P.nN Y.Q.dNc, .int .i64 Z.P.rf, .int .i64 Z.P.xt, .int .i64 Z.P.ce, .int .i64 Z.ix, .int .i64 Z.cc, .int .i64 Z.fi, .int .i64 Z.la])
    (bb : Below w.heap.size w wx) (hl : w.heap.size + 1 < g) (o7 : Own w7 (g + 1) 35 2 A7 (L ++ [x]).length c7 (iv (V (L ++ [x])))) (hgr : (wx.alloc (.cells row 35)).grownBy w7 (ob AC)) (hob : ob A7 = ob AC ∨ ob A7 = some (wx.alloc (.cells row 35)).heap.size) :
    GS w w7 Z Y g A' A7 c' c7 (L ++ [x]) V := by
  have hA : ∀ b, b ≤ g → ob AC ≠ some b := fun b hb q => by have := oq.base q; omega
  refine ⟨(oe.alloc _).kept hgr dj.symm.kept, o7, (dj.symm.grow hob fun b q => ?_).symm, (gb.alloc _).grown hgr (hA _ (Nat.le_refl _)), (rb.alloc _).grown hgr (hA _ (by omega)), (pb.alloc _).grown hgr (hA _ (by omega)), ?_, hl⟩
  · have := oe.top q; simp; omega
  · refine (bal bb _).trans (below_grown hgr (fun b q => ?_) (bal bb _).size)
    have := oq.base q
    omega
namespace Oz
theorem nod_pos (Z : ZD) {k i : Nat} (h : k ≠ 0) : nod Z k i = 1 + (k - 1) * Z.nl + i := by
  obtain ⟨d, rfl⟩ : ∃ d, k = d + 1 := ⟨k - 1, by omega⟩
  rfl
theorem nl_bd {Z : ZD} (O : ZOk Z) {k : Nat} (hk : k ≤ Z.nd) : 0 ≤ (k : Int) * (Z.nl : Int) ∧ (k : Int) * (Z.nl : Int) ≤ 192 := by
  have h1 := Nat.mul_le_mul (Nat.le_trans hk O.nd2) O.nl2
  rw [← Int.natCast_mul]
  omega
theorem pre_len {Z : ZD} (O : ZOk Z) {k i j s : Nat} (hk : k ≤ Z.nd) (hi : i ≤ 9) (hs : s ≤ Z.ns) : (eK Z k ++ eI Z k i ++ eJ Z k i j ++ eS Z k i j s).length ≤ 4000 := by
  have h1 := len_eK O.ns2 O.nl2 k
  have h2 := len_eI O.ns2 k i
  have h3 := len_eJ O.ns2 k i j
  have h4 := len_eS (Z := Z) k i j s
  have := O.nd2
  have := O.ns2
  simp only [List.length_append]
  omega
theorem fin_len {Z : ZD} (O : ZOk Z) {i : Nat} (hi : i ≤ 9) : (eK Z Z.nd ++ eF Z i).length ≤ 4000 := by
  have h1 := len_eK O.ns2 O.nl2 Z.nd
  have h2 := len_eF (Z := Z) i
  have := O.nd2
  simp only [List.length_append]
  omega
theorem eS_t {Z : ZD} {k i j s : Nat} (h : okc Z k j s = true) : eS Z k i j (s + 1) = eS Z k i j s ++ [ed Z k i j s] := by rw [eS, if_pos h]
theorem eS_f {Z : ZD} {k i j s : Nat} (h : okc Z k j s = false) : eS Z k i j (s + 1) = eS Z k i j s := by rw [eS, if_neg (by rw [h]; simp), List.append_nil]
theorem eJ_t {Z : ZD} {k i j : Nat} (h1 : i - 1 ≤ j) (h2 : j ≤ i + 1) : eJ Z k i (j + 1) = eJ Z k i j ++ eS Z k i j Z.ns := by rw [eJ, if_pos (dfW_le (by omega) (by omega))]
theorem eI_t {Z : ZD} {k i : Nat} (h : ¬ (k = 0 ∧ (i : Int) ≠ Z.fi)) : eI Z k (i + 1) = eI Z k i ++ eJ Z k i Z.nl := by rw [eI, if_neg h]
theorem eI_f {Z : ZD} {k i : Nat} (h : k = 0 ∧ (i : Int) ≠ Z.fi) : eI Z k (i + 1) = eI Z k i := by rw [eI, if_pos h, List.append_nil]
theorem eJ_out {Z : ZD} {k i j : Nat} (hj : j ≤ Z.nl) (hi : i < Z.nl) (h : ¬ (j ≤ i + 1 ∧ j < Z.nl)) (h2 : j ≤ i + 2) : eJ Z k i Z.nl = eJ Z k i j := by
  by_cases e : j = Z.nl
  · rw [e]
  · exact eJ_end (by omega) hj
theorem eF_t {Z : ZD} {i : Nat} (h1 : Z.la - 1 ≤ (i : Int)) (h2 : (i : Int) ≤ Z.la + 1) : eF Z (i + 1) = eF Z i ++ [fed Z i] := by rw [eF, if_pos (dfW_le (i := (i : Int)) (j := Z.la) (by omega) (by omega))]
theorem eF_low0 {Z : ZD} {i : Nat} (h : (i : Int) ≤ Z.la - 1 ∨ i = 0) : eF Z i = [] := by
  rcases h with h | rfl
  · exact eF_low h
  · rfl
theorem eF_out {Z : ZD} {i : Nat} (hi : i ≤ Z.nl) (h : ¬ ((i : Int) ≤ Z.la + 1 ∧ i < Z.nl)) : eF Z Z.nl = eF Z i := by
  by_cases e : i = Z.nl
  · rw [e]
  · exact eF_end (by omega) hi
theorem eI_mid {Z : ZD} {k lo hi : Nat} (hn : 1 ≤ Z.nl) (h : (k = 0 ∧ (lo : Int) = Z.fi ∧ hi = lo ∧ lo < Z.nl) ∨ (k ≠ 0 ∧ lo = 0 ∧ hi = Z.nl - 1)) :
    lo ≤ hi ∧ hi < Z.nl ∧ eI Z k lo = [] ∧ eI Z k (hi + 1) = eI Z k Z.nl ∧ ∀ i : Nat, lo ≤ i → i ≤ hi → ¬ (k = 0 ∧ (i : Int) ≠ Z.fi) := by
  rcases h with ⟨rfl, h1, rfl, h2⟩ | ⟨h0, rfl, rfl⟩
  · exact ⟨Nat.le_refl _, h2, eI_low (by omega), (eI_end (a := hi + 1) (by omega) (by omega)).symm, fun i a b => by omega⟩
  · exact ⟨by omega, by omega, rfl, by rw [Nat.sub_add_cancel hn], fun i a b q => h0 q.1⟩
end Oz
end Go.Proofs.Ytoeklllahpegfaa
/-
  Regions that draw their order, by an invariant, with the frame kept out of sight: each operation is proved for any frame that holds the slots' values.
-/
namespace Go.Proofs.Ytoeklllahpegfaa
set_option linter.unusedVariables false
set_option linter.unusedSimpArgs false
open Go.RowKit
section
variable {P : Program} {ops : Array Oper} {Q : Exit → Act → World → Prop} {J : (Nat → Prop) → (Nat → Value) → (Nat → Nat) → World → Prop} {ds : List Nat} {a0 : Act}
/-- One slot more. -/
def upx (x : Nat → Value) (d : Option Nat) (v : Value) : Nat → Value := fun t => if d = some t then v else x t
/-- The values of slots: operation, slot, value. -/
def Vs (L : Nat → Prop) (x : Nat → Value) (vs : List (Nat × Nat × Value)) : Prop := ∀ p ∈ vs, L p.1 → x p.2.1 = p.2.2
theorem Vs.get {L : Nat → Prop} {x : Nat → Value} {vs : List (Nat × Nat × Value)} (h : Vs L x vs) (k : Nat) {i d : Nat} {v : Value} (hk : vs[k]? = some (i, d, v)) (hL : L i) : x d = v :=
  h _ (List.mem_of_getElem? hk) hL
theorem Vs.start (x : Nat → Value) (vs : List (Nat × Nat × Value)) : Vs (fun _ => False) x vs := fun _ _ h => h.elim
def ids (vs : List (Nat × Nat × Value)) : List (Nat × Nat) := vs.map fun p => (p.1, p.2.1)
/-- Operation i lays v into slot d, that no other operation of the list writes. -/
theorem Vs.put {L : Nat → Prop} {x : Nat → Value} {vs : List (Nat × Nat × Value)} (h : Vs L x vs) {i d : Nat} {v : Value} (hi : (ids vs).all (fun p => (p.1 == i) == (p.2 == d)) = true) (hv : ∀ p ∈ vs, p.1 = i → p.2.2 = v) :
    Vs (fun j => j = i ∨ L j) (upx x (some d) v) vs := by
  intro p hp hL
  have hc := List.all_eq_true.1 hi (p.1, p.2.1) (List.mem_map.2 ⟨p, hp, rfl⟩)
  unfold upx
  by_cases e : p.1 = i
  · have : p.2.1 = d := by simpa [e] using hc
    rw [this, if_pos rfl, hv p hp e]
  · have hd : ¬ d = p.2.1 := by
      intro q
      apply e
      simpa [q] using hc
    rw [if_neg (by intro q; injection q with q; exact hd q)]
    exact h p hp (hL.resolve_left e)
theorem Vs.put0 {L : Nat → Prop} {x : Nat → Value} {vs : List (Nat × Nat × Value)} (h : Vs L x vs) {i : Nat} {v : Value} (hi : (ids vs).all (fun p => !(p.1 == i)) = true) : Vs (fun j => j = i ∨ L j) (upx x none v) vs := by
  intro p hp hL
  have hc := List.all_eq_true.1 hi (p.1, p.2.1) (List.mem_map.2 ⟨p, hp, rfl⟩)
  exact h p hp (hL.resolve_left (by simpa using hc))
/-- An operation and a slot that the list does not know. -/
theorem Vs.skip {L : Nat → Prop} {x : Nat → Value} {vs : List (Nat × Nat × Value)} (h : Vs L x vs) {i d : Nat} {v : Value} (hi : (ids vs).all (fun p => !(p.1 == i) && !(p.2 == d)) = true) : Vs (fun j => j = i ∨ L j) (upx x (some d) v) vs := by
  intro p hp hL
  have hc := List.all_eq_true.1 hi (p.1, p.2.1) (List.mem_map.2 ⟨p, hp, rfl⟩)
  rw [Bool.and_eq_true] at hc
  unfold upx
  rw [if_neg (by intro q; injection q with q; simp [q] at hc)]
  exact h p hp (hL.resolve_left (by simpa using hc.1))
theorem Vs.congr {L : Nat → Prop} {x y : Nat → Value} {ds : List Nat} {vs : List (Nat × Nat × Value)} (h : Vs L x vs) (hs : (ids vs).all (fun p => decide (p.2 ∈ ds)) = true) (hxy : ∀ t ∈ ds, x t = y t) : Vs L y vs := fun p hp hL =>
  (hxy _ (of_decide_eq_true (List.all_eq_true.1 hs (p.1, p.2.1) (List.mem_map.2 ⟨p, hp, rfl⟩)))).symm.trans (h p hp hL)
theorem upx_at (x : Nat → Value) (d : Nat) (v : Value) : upx x (some d) v d = v := if_pos rfl
theorem upx_ne {x : Nat → Value} {d : Option Nat} {v : Value} {t : Nat} (h : (d == some t) = false) : upx x d v t = x t := if_neg (by simpa using h)
/-- The values that the list holds for operation i. -/
theorem vs_one {vs : List (Nat × Nat × Value)} {k i d : Nat} {v : Value} (hk : vs[k]? = some (i, d, v)) (hu : (ids vs).length = vs.length ∧ ((List.range vs.length).all fun j => j == k || !(((ids vs)[j]?.map (·.1)) == some i)) = true) : ∀ p ∈ vs, p.1 = i → p.2.2 = v := by
  intro p hp e
  obtain ⟨j, hj, rfl⟩ := List.mem_iff_getElem.1 hp
  have h1 := List.all_eq_true.1 hu.2 j (List.mem_range.2 hj)
  by_cases q : j = k
  · subst q
    rw [List.getElem?_eq_getElem hj] at hk
    injection hk with hk
    rw [hk]
  · exfalso
    have h2 : (ids vs)[j]?.map (·.1) = some i := by
      unfold ids
      rw [List.getElem?_map, List.getElem?_eq_getElem hj]
      simpa using e
    simp [q, h2] at h1
theorem StepsOk.consV {i : Nat} {o : Oper} {os : List Oper} (hg : o.guard = none) (hd : (match o.dst with | some d => decide (d ∈ ds) | none => true) = true) (hs : ds.all (fun t => decide (t < a0.tmps.size)) = true)
    (hJc : ∀ (L : Nat → Prop) (x y : Nat → Value) (G : Nat → Nat) (w : World), (∀ t ∈ ds, x t = y t) → J L x G w → J L y G w)
    (h : ∀ (L : Nat → Prop) (x : Nat → Value) (G : Nat → Nat) (w : World) (a : Act) (K : Act → World → Prop) (Q : Exit → Act → World → Prop), (∀ t ∈ ds, a.tmps.getD t undef = x t) → (∀ t, t ∉ ds → a.tmps.getD t undef = a0.tmps.getD t undef) → ¬ L i → (∀ e ∈ o.after, Region.binds .any e = true → L e.on) → J L x G w →
      (∀ v G' w', J (fun j => j = i ∨ L j) (upx x o.dst v) G' w' → K (a.put o.dst v) w') → Oper.wp P o a w K Q)
    (t : StepsOk P ops Q J ds a0 (i + 1) os) : StepsOk P ops Q J ds a0 i (o :: os) := by
  refine StepsOk.cons hg (fun L x G w K Q hn hp hJ hK => ?_) t
  obtain ⟨p1, p2, p3⟩ := putAll_tmps x ds a0
  have hsz : ∀ t ∈ ds, t < a0.tmps.size := fun t ht => of_decide_eq_true (List.all_eq_true.1 hs t ht)
  have hgd : ∀ (b : Act) (t : Nat), b.tmps.getD t undef = (b.tmps[t]?).getD undef := fun b t => by simp
  refine h L x G w (putAll x ds a0) K Q (fun t ht => ?_) (fun t ht => ?_) hn hp hJ (fun v G' w' hJ' => ?_)
  · rw [hgd, p3, if_pos ⟨ht, hsz t ht⟩]; rfl
  · rw [hgd, hgd, p3, if_neg (fun q => ht q.1)]
  · have hsize : ((putAll x ds a0).put o.dst v).tmps.size = a0.tmps.size := by
      rw [← p2]
      cases o.dst <;> simp [Act.put]
    have hput : ∀ t, ((putAll x ds a0).put o.dst v).tmps[t]? = if o.dst = some t ∧ t < a0.tmps.size then some v else (putAll x ds a0).tmps[t]? := by
      intro t
      cases e : o.dst with
      | none => simp [Act.put]
      | some d =>
        simp only [Act.put, Option.some.injEq]
        by_cases q : d = t
        · subst q
          by_cases hs : d < a0.tmps.size
          · rw [if_pos ⟨rfl, hs⟩]; simp [p2, hs]
          · rw [if_neg (fun z => hs z.2)]; simp [p2, hs]
        · rw [if_neg (fun z => q z.1), Array.getElem?_setIfInBounds_ne q]
    refine hK _ G' w' ?_ (hJc _ _ _ _ _ (fun t ht => ?_) hJ')
    · obtain ⟨q1, q2, q3⟩ := putAll_tmps (fun t => ((putAll x ds a0).put o.dst v).tmps.getD t undef) ds a0
      have e1 : (putAll (fun t => ((putAll x ds a0).put o.dst v).tmps.getD t undef) ds a0).tmps = ((putAll x ds a0).put o.dst v).tmps := by
        apply Array.ext_getElem?
        intro t
        rw [q3]
        by_cases ht : t ∈ ds
        · rw [if_pos ⟨ht, hsz t ht⟩, hgd]
          have hlt : t < ((putAll x ds a0).put o.dst v).tmps.size := by rw [hsize]; exact hsz t ht
          simp [hlt]
        · rw [if_neg (fun q => ht q.1), hput, p3, if_neg (c := t ∈ ds ∧ _) (fun q => ht q.1), if_neg]
          rintro ⟨q, _⟩
          rw [q] at hd
          exact ht (of_decide_eq_true hd)
      rw [q1, e1]
      cases hdst : o.dst with
      | none => simp only [Act.put]; rw [p1]
      | some d => simp only [Act.put]; rw [p1]
    · unfold upx
      rw [hgd, hput]
      by_cases q : o.dst = some t
      · rw [if_pos q, if_pos ⟨q, hsz t ht⟩]; rfl
      · rw [if_neg q, if_neg (fun z => q z.1), p3, if_pos ⟨ht, hsz t ht⟩]; rfl
end
end Go.Proofs.Ytoeklllahpegfaa
/-
  Contract: Cost.
-/
namespace Go.Proofs.Ytoeklllahpegfaa
set_option linter.unusedVariables false
set_option linter.unusedSimpArgs false
open Go.RowKit
attribute [local irreducible] World.setCell World.cell?

set_option maxRecDepth 100000 in
set_option maxHeartbeats 4000000 in
theorem cost_c (A : Option Addr) (n : Int) (m c : Nat) (E : Ce.Tab) (w : World) (T : Rd w 3 A m c (iv E)) (n1 : -9223372036854775808 ≤ n) (n2 : n ≤ 9223372036854775807) (a b : Int) (B : Option Addr) (l d : Nat) (R : Nat → Int) (U : Rd w 1 B l d (nv R)) : Calls Try.prog 27 #[.agg #[.int .i64 n, .slice A m c], .int .i64 a, .int .i64 b, .slice B l d] w fun e w' => e = .returned (.tuple #[.int .i64 (Ce.cst n m E a b l R), .int .i64 (Ce.cer n m E a b l R)]) ∧ Below w.heap.size w w' := by
  have r1 := T.le
  have r2 := T.mx
  have s1 := U.le
  have s2 := U.mx
  by_cases h : Ce.en n m E a b = 0
  rotate_left
  · have h1 : (Ce.en n m E a b != 0) = true := by simpa using h
    have HE := Lib.hid (Ce.cer_en (l := l) (R := R) h)
    have HS := Lib.hid (Ce.cst_no (n := n) (m := m) (E := E) (a := a) (b := b) (l := l) (R := R) (by rw [HE.out]; exact h))
    clear h
    go_enter Try.func27, Try.ntmps27
    have Gb := Blk.new w 41 #[.int .i64 (n), .slice A m c]
    have hB := ba w (.cells #[.int .i64 (n), .slice A m c] 41)
    obtain ⟨c00, c01, c02, c03⟩ := Gb.open2
    go_wp2_with fail
    refine (ends_c _ _ _ _ _ _ (T.keep hB) n1 n2 _ _).mono ?_
    rintro e w1 ⟨rfl, hb⟩
    clear c00 c01 c02 c03
    replace Gb := Gb.keep hb
    replace hB := bt hB hb
    clear hb
    go_wp2_with fail
    go_returns
    exact ⟨ret_ints HS.out.symm HE.out.symm, hB⟩
  by_cases h8 : 8192 < l
  · have h9 : (8192 : Int) < (l : Int) := by omega
    have HE := Lib.hid (Ce.cer_3 (R := R) h h8)
    have HS := Lib.hid (Ce.cst_no (n := n) (m := m) (E := E) (a := a) (b := b) (l := l) (R := R) (by rw [HE.out]; decide))
    have H := Lib.hid h
    clear h
    go_enter Try.func27, Try.ntmps27
    have Gb := Blk.new w 41 #[.int .i64 (n), .slice A m c]
    have hB := ba w (.cells #[.int .i64 (n), .slice A m c] 41)
    obtain ⟨c00, c01, c02, c03⟩ := Gb.open2
    go_wp2_with fail
    refine (ends_c _ _ _ _ _ _ (T.keep hB) n1 n2 _ _).mono ?_
    rw [H.out]
    rintro e w1 ⟨rfl, hb⟩
    clear c00 c01 c02 c03
    replace Gb := Gb.keep hb
    replace hB := bt hB hb
    clear hb
    go_wp2_with fail
    go_returns
    exact ⟨ret_ints HS.out.symm HE.out.symm, hB⟩
  have h9 : ¬ (8192 : Int) < (l : Int) := by omega
  have N := Ce.en_ok.1 h
  have O := N.ok
  have H := Lib.hid h
  clear h
  go_enter Try.func27, Try.ntmps27
  have Gb := Blk.new w 41 #[.int .i64 (n), .slice A m c]
  have hB := ba w (.cells #[.int .i64 (n), .slice A m c] 41)
  obtain ⟨c00, c01, c02, c03⟩ := Gb.open2
  go_wp2_with fail
  refine (ends_c _ _ _ _ _ _ (T.keep hB) n1 n2 _ _).mono ?_
  rw [H.out]
  rintro e w1 ⟨rfl, hb⟩
  clear c00 c01 c02 c03
  replace Gb := Gb.keep hb
  replace hB := bt hB hb
  clear hb
  go_wp2_with fail
  go_loopw [30] (fun i wr => ∃ k : Nat, k ≤ l ∧ i = .int .i64 k ∧ Hid (Ce.okI m R k = true) ∧ Blk wr w.heap.size 41 #[.int .i64 (n), .slice A m c] ∧ Below w.heap.size w wr) (fun i _ => l - (intOf i).toNat)
  case atStart => exact ⟨0, Nat.zero_le _, rfl, rfl, Gb, hB⟩
  case round =>
    clear Gb hB
    rename_i wr
    obtain ⟨k, hk, rfl, hok, Gb, hB⟩ := hrel
    obtain ⟨y0, y1, y2, y3⟩ := Gb.open2
    by_cases hlt : k < l
    · obtain ⟨bb, off, eA, hbl, u0⟩ := (U.keep hB).at1 hlt
      have HA := Lib.hid eA
      rw [HA.out]
      clear eA
      by_cases k0 : R k < 0
      · have HE := Lib.hid (Ce.cer_6 (R := R) H.out h8 hlt (by omega))
        have HS := Lib.hid (Ce.cst_no (n := n) (m := m) (E := E) (a := a) (b := b) (l := l) (R := R) (by rw [HE.out]; decide))
        go_wp2_with fail
        go_returns
        exact ⟨ret_ints HS.out.symm HE.out.symm, hB⟩
      by_cases k1 : R k < (m : Int)
      rotate_left
      · have k2 : (m : Int) ≤ R k := by omega
        have HE := Lib.hid (Ce.cer_6 (R := R) H.out h8 hlt (by omega))
        have HS := Lib.hid (Ce.cst_no (n := n) (m := m) (E := E) (a := a) (b := b) (l := l) (R := R) (by rw [HE.out]; decide))
        go_wp2_with fail
        go_returns
        exact ⟨ret_ints HS.out.symm HE.out.symm, hB⟩
      have d1 : decide ((m : Int) ≤ R k) = false := decide_eq_false (by omega)
      have HO := Lib.hid (show Ce.okI m R (k + 1) = true by rw [Ce.okI, hok.out, decide_eq_true (by omega)]; rfl)
      go_wp2_with fail
      go_roundw
      case rel => exact ⟨k + 1, by omega, by go_num, HO, Gb, hB⟩
      case measure => simp [intOf]; omega
    · obtain rfl : k = l := by omega
      clear y0 y1 y2 y3
      have hI := (Ce.okI_iff m R k).1 hok.out
      have HI := Lib.hid hI
      clear hI
      go_wp2_with fail
      go_loopw [13, 14, 47] (fun s t i wr => ∃ j : Nat, j ≤ k ∧ i = .int .i64 j ∧ s = .int .i64 (Ce.ps E R a j) ∧ t = .int .i64 (Ce.csum E R j) ∧ Hid (Ce.okP E R a j = true) ∧ Blk wr w.heap.size 41 #[.int .i64 (n), .slice A m c] ∧ Below w.heap.size w wr) (fun _ _ i _ => k - (intOf i).toNat)
      case atStart => exact ⟨0, Nat.zero_le _, rfl, rfl, rfl, rfl, Gb, hB⟩
      case round =>
        clear Gb hB
        rename_i wr
        obtain ⟨j, hj, rfl, rfl, rfl, hop, Gb, hB⟩ := hrel
        by_cases hlt : j < k
        · obtain ⟨bb, off, eA, hbl, u0⟩ := (U.keep hB).at1 hlt
          have hr := HI.out j hlt
          obtain ⟨r, er⟩ : ∃ r : Nat, R j = (r : Int) := ⟨(R j).toNat, by omega⟩
          have hrm : r < m := by omega
          obtain ⟨b3, off3, eB, hbl3, v0, v1, v2⟩ := (T.keep hB).at3 hrm
          have HA := Lib.hid eA
          have HB := Lib.hid eB
          rw [HA.out]
          rw [HB.out] at Gb ⊢
          clear eA eB
          rw [er] at u0
          obtain ⟨y0, y1, y2, y3⟩ := Gb.open2
          have i1 : (0 : Int) ≤ (r : Int) := by omega
          have i2 : (r : Int) < (m : Int) := by omega
          have ER := Lib.hid (show (R j).toNat = r by omega)
          have cb := Ce.csum_bd O (R := R) (l := j) (fun q hq => HI.out q (by omega))
          have ec0 := (O.e r hrm).c0
          have ec1 := (O.e r hrm).c1
          clear er hr
          by_cases hx : E r 0 = Ce.ps E R a j
          rotate_left
          · have h1 : (E r 0 != Ce.ps E R a j) = true := by simpa using hx
            have HE := Lib.hid (Ce.cer_9 (R := R) H.out h8 hok.out hlt (by rw [ER.out]; exact hx))
            have HS := Lib.hid (Ce.cst_no (n := n) (m := m) (E := E) (a := a) (b := b) (l := k) (R := R) (by rw [HE.out]; decide))
            clear hx
            go_wp2_with fail
            go_returns
            exact ⟨ret_ints HS.out.symm HE.out.symm, bal hB _⟩
          have h1 : (E r 0 != Ce.ps E R a j) = false := by simpa using hx
          have HO := Lib.hid (show Ce.okP E R a (j + 1) = true by rw [Ce.okP, hop.out, ER.out, decide_eq_true hx]; rfl)
          have EP := Lib.hid (show Ce.ps E R a (j + 1) = E r 1 by rw [Ce.ps, ER.out])
          have EC := Lib.hid (show Ce.csum E R (j + 1) = Ce.csum E R j + E r 2 by unfold Ce.csum; rw [Ce.sm, ER.out])
          clear hx
          go_wp2_with fail
          go_quiet (fail)
          go_wp2_with fail
          go_roundw
          case rel => exact ⟨j + 1, by omega, by go_num, by rw [EP.out], by rw [EC.out], HO, (Gb.alloc _).drewN _, bdnl (bal hB _) _⟩
          case measure => simp [intOf]; omega
        · obtain rfl : j = k := by omega
          by_cases hx : Ce.ps E R a j = b
          rotate_left
          · have h1 : (Ce.ps E R a j != b) = true := by simpa using hx
            have HE := Lib.hid (Ce.cer_9e (R := R) H.out h8 hok.out hx)
            have HS := Lib.hid (Ce.cst_no (n := n) (m := m) (E := E) (a := a) (b := b) (l := j) (R := R) (by rw [HE.out]; decide))
            clear hx
            go_wp2_with fail
            go_returns
            exact ⟨ret_ints HS.out.symm HE.out.symm, hB⟩
          have h1 : (Ce.ps E R a j != b) = false := by simpa using hx
          have HE := Lib.hid (Ce.cer_0 (R := R) H.out h8 hok.out hop.out hx)
          have HS := Lib.hid (Ce.cst_yes HE.out)
          clear hx
          go_wp2_with fail
          go_returns
          exact ⟨ret_ints HS.out.symm HE.out.symm, hB⟩
end Go.Proofs.Ytoeklllahpegfaa
/-
  Contract: slices.Reverse.
-/
namespace Go.Proofs.Ytoeklllahpegfaa
set_option linter.unusedVariables false
set_option linter.unusedSimpArgs false
open Go.RowKit
attribute [local irreducible] World.setCell World.cell?

def rvk (l k : Nat) (R : Nat → Int) : Nat → Int := fun x => if x < k ∨ l - 1 - k < x then R (l - 1 - x) else R x
theorem rvk_0 (l : Nat) (R : Nat → Int) {x : Nat} (hx : x < l) : rvk l 0 R x = R x := by unfold rvk; rw [if_neg (by omega)]
theorem rvk_step {l k : Nat} (R : Nat → Int) (hk : k + k + 1 < l) (x : Nat) : Ce.up (Ce.up (rvk l k R) k (R (l - 1 - k))) (l - 1 - k) (R k) x = rvk l (k + 1) R x := by
  unfold Ce.up rvk
  by_cases e : x = l - 1 - k
  · subst e; rw [if_pos rfl, if_pos (by omega)]; congr 1; omega
  · rw [if_neg e]
    by_cases e2 : x = k
    · subst e2; rw [if_pos rfl, if_pos (by omega)]
    · rw [if_neg e2]
      by_cases q : x < k ∨ l - 1 - k < x
      · rw [if_pos q, if_pos (by omega)]
      · rw [if_neg q, if_neg (by omega)]
theorem rvk_mid {l k : Nat} (R : Nat → Int) {x : Nat} (h1 : k ≤ x) (h2 : x ≤ l - 1 - k) : rvk l k R x = R x := by unfold rvk; rw [if_neg (by omega)]
theorem rvk_end {l k : Nat} (R : Nat → Int) (hk : l ≤ k + k + 1) {x : Nat} (hx : x < l) : rvk l k R x = R (l - 1 - x) := by
  unfold rvk
  by_cases q : x < k ∨ l - 1 - k < x
  · rw [if_pos q]
  · rw [if_neg q]; congr 1; omega
theorem Rd.e3 {w : World} {b off m c : Nat} {E : Nat → Nat → Int} (h : Rd w 3 (some ⟨b, off, none⟩) m c (iv E)) {k : Nat} (hk : k < m) :
    w.cell? ⟨b, off + k * 3, none⟩ = some (.int .i64 (E k 0)) ∧ w.cell? ⟨b, off + k * 3 + 1, none⟩ = some (.int .i64 (E k 1)) ∧ w.cell? ⟨b, off + k * 3 + 2, none⟩ = some (.int .i64 (E k 2)) ∧ b < w.heap.size := by
  obtain ⟨b', off', e, hl, h0, h1, h2⟩ := h.at3 hk
  injection e with e
  injection e with e1 e2
  subst e1 e2
  exact ⟨h0, h1, h2, hl⟩
theorem Own.num {w : World} {b g n c : Nat} {e : TypeId} {R : Nat → Int} (h : Own w b e 1 (some ⟨g, 0, none⟩) n c (nv R)) {i : Nat} (hi : i < n) {x : Int} (hx : R i = x) : w.cell? ⟨g, i, none⟩ = some (.int .i64 x) := by rw [h.cell1 hi, hx]
set_option maxRecDepth 100000 in
set_option maxHeartbeats 4000000 in
theorem reverse_c (A : Option Addr) (l c b : Nat) (R : Nat → Int) (w : World) (own : Own w b 3 1 A l c (nv R)) : Calls Try.prog 56 #[.slice A l c] w fun e w' => e = .returned (.tuple #[]) ∧ Own w' b 3 1 A l c (nv fun x => R (l - 1 - x)) ∧ w.grownBy w' (ob A) := by
  obtain ⟨fn, fc, ff⟩ := own.form
  have own := own.congr (V' := nv (rvk l 0 R)) fun i j hi _ => by unfold nv; rw [rvk_0 l R hi]
  have h0 := World.grownBy.refl w (ob A)
  go_enter Try.func56, Try.ntmps56
  go_wp2_with fail
  go_loopw [2, 3] (fun i_ j_ wr => ∃ k : Nat, k ≤ l ∧ i_ = .int .i64 k ∧ j_ = .int .i64 ((l : Int) - 1 - k) ∧ Own wr b 3 1 A l c (nv (rvk l k R)) ∧ w.grownBy wr (ob A)) (fun i_ _ _ => l - (intOf i_).toNat)
  case atStart => exact ⟨0, Nat.zero_le _, rfl, by simp, own, h0⟩
  case round =>
    clear own h0
    obtain ⟨k, hk, rfl, rfl, own, hg⟩ := hrel
    by_cases hlt : (k : Int) < (l : Int) - 1 - k
    · have hl0 : 0 < l := by omega
      obtain ⟨g, rfl, hg1, hg2⟩ := own.pos hl0
      obtain ⟨r, hr⟩ : ∃ r : Nat, l - 1 - k = r := ⟨_, rfl⟩
      have er : (l : Int) - 1 - k = (r : Int) := by omega
      have hkl : k < l := by omega
      have hrl : r < l := by omega
      have y0 := own.num hkl (x := R k) (rvk_mid R (by omega) (by omega))
      have y1 := own.num hrl (x := R r) (rvk_mid R (by omega) (by omega))
      have y2 := own.frozen
      have y3 := own.lt1
      have i1 : (0 : Int) ≤ (r : Int) := by omega
      have i2 : (r : Int) < (l : Int) := by omega
      have i3 : (k : Int) < (l : Int) := by omega
      have i4 : (k : Int) < (r : Int) := by omega
      have i5 : (0 : Int) ≤ (k : Int) := by omega
      have i6 : k ≠ r := by omega
      have own2 := Lib.hid (((own.set1 hkl (R r) (N' := Ce.up (rvk l k R) k (R r)) (Ce.up_at _ _ _) (fun i' _ h => Ce.up_ne h)).set1 hrl (R k) (N' := Ce.up (Ce.up (rvk l k R) k (R r)) r (R k)) (Ce.up_at _ _ _) (fun i' _ h => Ce.up_ne h)).congr (V' := nv (rvk l (k + 1) R)) (fun i j hi _ => by unfold nv; rw [← rvk_step R (by omega) i, hr]))
      have hg2_ := Lib.hid (hg.trans ((grown_set wr ⟨g, k, none⟩ (.int .i64 (R r))).trans (grown_set (wr.setCell ⟨g, k, none⟩ (.int .i64 (R r))) ⟨g, r, none⟩ (.int .i64 (R k)))))
      have ER := Lib.hid er
      have HR := Lib.hid hr
      clear hr
      simp only [ER.out] at *
      go_wp2_with fail
      go_region
      go_wp2_with fail
      go_roundw
      case rel => exact ⟨k + 1, by omega, by go_num, by have := HR.out; simp; omega, own2.out.drew, ⟨hg2_.out.os, hg2_.out.tape, hg2_.out.output, hg2_.out.size, hg2_.out.block⟩⟩
      case measure => simp [intOf]; omega
    · have ownE := own.congr (V' := nv fun x => R (l - 1 - x)) fun i j hi _ => by unfold nv; rw [rvk_end R (by omega) hi]
      go_wp2_with fail
      go_returns
      exact ⟨rfl, ownE, hg⟩
end Go.Proofs.Ytoeklllahpegfaa
/-
  Contract: the closure of Solve.
-/
namespace Go.Proofs.Ytoeklllahpegfaa
set_option linter.unusedVariables false
set_option linter.unusedSimpArgs false
open Go.RowKit
attribute [local irreducible] World.setCell World.cell?

set_option maxRecDepth 100000 in
set_option maxHeartbeats 4000000 in
theorem sol_c (x y z v : Int) (E : Ce.Tab) (i : Nat) (n : Nat) (C D : Nat → Int) (F : Nat → Bool) (w : World) (gL ga gv : Nat) (R : Rd w 3 (some ⟨gL, 0, none⟩) n n (lv C D F)) (Ga : Blk w ga 80 #[.slice (some ⟨gL, 0, none⟩) n n]) (Gv : Blk w gv 3 #[.int .i64 v])
    (hx : E i 0 = x) (hy : E i 1 = y) (hz : E i 2 = z) (x0 : 0 ≤ x) (x1 : x < n) (z0 : 0 ≤ z) (z1 : z ≤ 1099511627776) (v0 : 0 ≤ v) (v1 : v < n) (hn : n ≤ 512)
    (hC : ∀ u, u < n → C u ≤ 562949953421312 ∧ (0 ≤ C u → 0 ≤ D u ∧ D u ≤ 512)) :
    Calls Try.prog 55 #[.agg #[.int .i64 x, .int .i64 y, .int .i64 z], .pointer (some ⟨ga, 0, none⟩), .pointer (some ⟨gv, 0, none⟩)] w fun e w' => e = .returned (.bool (Ce.lastB E C D v i)) ∧ Below w.heap.size w w' := by
  obtain ⟨xn, rfl⟩ : ∃ q : Nat, x = (q : Int) := ⟨x.toNat, by omega⟩
  obtain ⟨vn, rfl⟩ : ∃ q : Nat, v = (q : Int) := ⟨v.toNat, by omega⟩
  have hxn : xn < n := by omega
  have hvn : vn < n := by omega
  obtain ⟨b1, b2⟩ := hC xn hxn
  have HV := Lib.hid (show Ce.lastB E C D vn i = decide (y = (vn : Int) ∧ 0 ≤ C xn ∧ C xn + z = C vn ∧ D xn + 1 = D vn) by unfold Ce.lastB Ce.fr; rw [hx, hy, hz, Int.toNat_natCast, Int.toNat_natCast])
  rw [HV.out]
  clear hC hx hy hz
  have la := Ga.lt
  have lb := Gv.lt
  by_cases q1 : y = (vn : Int)
  rotate_left
  · have HE := Lib.hid (show decide (y = (vn : Int) ∧ 0 ≤ C xn ∧ C xn + z = C vn ∧ D xn + 1 = D vn) = false from decide_eq_false (by omega))
    rw [HE.out]
    have h1 : (y == (vn : Int)) = false := by simpa using q1
    go_enter Try.func55, Try.ntmps55
    try simp only [List.append_eq, List.cons_append, List.nil_append]
    obtain ⟨a0, a1, a2⟩ := Ga.open1
    obtain ⟨d0, d1, d2⟩ := Gv.open1
    obtain ⟨y0, y1, y2, y3⟩ := R.lab hxn
    obtain ⟨z0_, z1_, z2_, z3_⟩ := R.lab hvn
    have hB := bal (ba w (.cells #[.int .i64 xn, .int .i64 y, .int .i64 z] 75)) (.cells #[.int .i64 (C xn), .int .i64 (D xn), .bool (F xn)] 83)
    go_wp2_with fail
    go_quiet (fail)
    go_wp2_with fail
    go_returns
    exact ⟨rfl, bdnl hB _⟩
  have h1 : (y == (vn : Int)) = true := by simpa using q1
  by_cases q2 : C xn < 0
  · have HE := Lib.hid (show decide (y = (vn : Int) ∧ 0 ≤ C xn ∧ C xn + z = C vn ∧ D xn + 1 = D vn) = false from decide_eq_false (by omega))
    rw [HE.out]
    have h2 : decide (0 ≤ C xn) = false := decide_eq_false (by omega)
    clear q1
    go_enter Try.func55, Try.ntmps55
    try simp only [List.append_eq, List.cons_append, List.nil_append]
    obtain ⟨a0, a1, a2⟩ := Ga.open1
    obtain ⟨d0, d1, d2⟩ := Gv.open1
    obtain ⟨y0, y1, y2, y3⟩ := R.lab hxn
    obtain ⟨z0_, z1_, z2_, z3_⟩ := R.lab hvn
    have hB := bal (ba w (.cells #[.int .i64 xn, .int .i64 y, .int .i64 z] 75)) (.cells #[.int .i64 (C xn), .int .i64 (D xn), .bool (F xn)] 83)
    go_wp2_with fail
    go_quiet (fail)
    go_wp2_with fail
    go_returns
    exact ⟨rfl, bdnl hB _⟩
  have h2 : 0 ≤ C xn := by omega
  obtain ⟨b3, b4⟩ := b2 h2
  clear b2
  by_cases q3 : C xn + z = C vn
  rotate_left
  · have HE := Lib.hid (show decide (y = (vn : Int) ∧ 0 ≤ C xn ∧ C xn + z = C vn ∧ D xn + 1 = D vn) = false from decide_eq_false (by omega))
    rw [HE.out]
    have h3 : (C xn + z == C vn) = false := by simpa using q3
    clear q1 q3
    go_enter Try.func55, Try.ntmps55
    try simp only [List.append_eq, List.cons_append, List.nil_append]
    obtain ⟨a0, a1, a2⟩ := Ga.open1
    obtain ⟨d0, d1, d2⟩ := Gv.open1
    obtain ⟨y0, y1, y2, y3⟩ := R.lab hxn
    obtain ⟨z0_, z1_, z2_, z3_⟩ := R.lab hvn
    have hB := bal (ba w (.cells #[.int .i64 xn, .int .i64 y, .int .i64 z] 75)) (.cells #[.int .i64 (C xn), .int .i64 (D xn), .bool (F xn)] 83)
    go_wp2_with fail
    go_quiet (fail)
    go_wp2_with fail
    go_returns
    exact ⟨rfl, bdnl hB _⟩
  have h3 : (C xn + z == C vn) = true := by simpa using q3
  by_cases q4 : D xn + 1 = D vn
  rotate_left
  · have HE := Lib.hid (show decide (y = (vn : Int) ∧ 0 ≤ C xn ∧ C xn + z = C vn ∧ D xn + 1 = D vn) = false from decide_eq_false (by omega))
    rw [HE.out]
    have h4 : (D xn + 1 == D vn) = false := by simpa using q4
    clear q1 q3 q4
    go_enter Try.func55, Try.ntmps55
    try simp only [List.append_eq, List.cons_append, List.nil_append]
    obtain ⟨a0, a1, a2⟩ := Ga.open1
    obtain ⟨d0, d1, d2⟩ := Gv.open1
    obtain ⟨y0, y1, y2, y3⟩ := R.lab hxn
    obtain ⟨z0_, z1_, z2_, z3_⟩ := R.lab hvn
    have hB := bal (ba w (.cells #[.int .i64 xn, .int .i64 y, .int .i64 z] 75)) (.cells #[.int .i64 (C xn), .int .i64 (D xn), .bool (F xn)] 83)
    go_wp2_with fail
    go_quiet (fail)
    go_wp2_with fail
    go_returns
    exact ⟨rfl, bdnl hB _⟩
  · have HE := Lib.hid (show decide (y = (vn : Int) ∧ 0 ≤ C xn ∧ C xn + z = C vn ∧ D xn + 1 = D vn) = true from decide_eq_true (by omega))
    rw [HE.out]
    have h4 : (D xn + 1 == D vn) = true := by simpa using q4
    clear q1 q3 q4
    go_enter Try.func55, Try.ntmps55
    try simp only [List.append_eq, List.cons_append, List.nil_append]
    obtain ⟨a0, a1, a2⟩ := Ga.open1
    obtain ⟨d0, d1, d2⟩ := Gv.open1
    obtain ⟨y0, y1, y2, y3⟩ := R.lab hxn
    obtain ⟨z0_, z1_, z2_, z3_⟩ := R.lab hvn
    have hB := bal (ba w (.cells #[.int .i64 xn, .int .i64 y, .int .i64 z] 75)) (.cells #[.int .i64 (C xn), .int .i64 (D xn), .bool (F xn)] 83)
    go_wp2_with fail
    go_quiet (fail)
    go_wp2_with fail
    go_returns
    exact ⟨rfl, bdnl hB _⟩
end Go.Proofs.Ytoeklllahpegfaa
/-
  Contracts: the closure of Violated, slices.IndexFunc.
-/
namespace Go.Proofs.Ytoeklllahpegfaa
set_option linter.unusedVariables false
set_option linter.unusedSimpArgs false
open Go.RowKit
attribute [local irreducible] World.setCell World.cell?

set_option maxRecDepth 100000 in
set_option maxHeartbeats 4000000 in
theorem vio_c (x y z : Int) (E : Ce.Tab) (i : Nat) (w : World) (g : Nat) (B : Option Addr) (l d : Nat) (P : Nat → Int) (U : Rd w 1 B l d (nv P)) (Gp : Blk w g 22 #[.slice B l d]) (hx : E i 0 = x) (hy : E i 1 = y) (hz : E i 2 = z)
    (x0 : 0 ≤ x) (x1 : x < l) (y0 : 0 ≤ y) (y1 : y < l) (hb : ∀ k, k < l → -1152921504606846976 ≤ P k ∧ P k ≤ 1152921504606846976) (z0 : 0 ≤ z) (z1 : z ≤ 1099511627776) :
    Calls Try.prog 82 #[.agg #[.int .i64 x, .int .i64 y, .int .i64 z], .pointer (some ⟨g, 0, none⟩)] w fun e w' => e = .returned (.bool (Ce.vp E P i)) ∧ Below w.heap.size w w' := by
  have r1 := U.le
  have r2 := U.mx
  obtain ⟨xn, rfl⟩ : ∃ q : Nat, x = (q : Int) := ⟨x.toNat, by omega⟩
  obtain ⟨yn, rfl⟩ : ∃ q : Nat, y = (q : Int) := ⟨y.toNat, by omega⟩
  have p1 := hb xn (by omega)
  have p2 := hb yn (by omega)
  obtain ⟨bb, off, eA, hbl, u0⟩ := U.at1 (k := xn) (by omega)
  obtain ⟨bb', off', eA', hbl', u1⟩ := U.at1 (k := yn) (by omega)
  rw [eA] at eA'
  injection eA' with eA'
  injection eA' with eA1 eA2 eA3
  subst eA1 eA2
  have HV := Lib.hid (show Ce.vp E P i = decide (z < P yn - P xn) by unfold Ce.vp; rw [hx, hy, hz, Int.toNat_natCast, Int.toNat_natCast])
  rw [HV.out]
  have HA := Lib.hid eA
  rw [HA.out] at Gp
  clear eA hb hx hy hz U
  have l0 := Gp.lt
  go_enter Try.func82, Try.ntmps82
  have Gb := Blk.new w 75 #[.int .i64 xn, .int .i64 yn, .int .i64 z]
  replace Gp := Gp.alloc (.cells #[.int .i64 xn, .int .i64 yn, .int .i64 z] 75)
  have hB := ba w (.cells #[.int .i64 xn, .int .i64 yn, .int .i64 z] 75)
  obtain ⟨c0, c1, c2⟩ := Gp.open1
  obtain ⟨d0, d1, d2, d3, d4⟩ := Gb.open3
  go_wp2_with fail
  go_quiet (fail)
  go_wp2_with fail
  go_returns
  exact ⟨rfl, bdnl hB _⟩
set_option maxRecDepth 100000 in
set_option maxHeartbeats 4000000 in
theorem index_c (p : Nat → Bool) (fn : Nat) (eg : ∀ args w, (callFunc fn args).run Try.prog w = .ok (.enter fn args) w) (lb : Array Value) (A : Option Addr) (m c : Nat) (E : Ce.Tab) (w : World) (T : Rd w 3 A m c (iv E))
    (hp : ∀ (W : World) (i : Nat), i < m → Below w.heap.size w W → Calls Try.prog fn (#[.agg #[.int .i64 (E i 0), .int .i64 (E i 1), .int .i64 (E i 2)]] ++ lb) W fun e w' => e = .returned (.bool (p i)) ∧ Below W.heap.size W w') :
    Calls Try.prog 54 #[.slice A m c, .func (.func fn) #[] lb] w fun e w' => e = .returned (.int .i64 (Ce.fi p m)) ∧ Below w.heap.size w w' := by
  have r1 := T.le
  have r2 := T.mx
  go_enter Try.func54, Try.ntmps54
  have hB := Below.refl w.heap.size w
  go_wp2_with fail
  go_loopw [5, 8] (fun _ i wr => ∃ k : Nat, k ≤ m ∧ i = .int .i64 k ∧ Hid (∀ j, j < k → p j = false) ∧ Below w.heap.size w wr) (fun _ i _ => m - (intOf i).toNat)
  case atStart => exact ⟨0, Nat.zero_le _, rfl, (fun j hj => absurd hj (Nat.not_lt_zero _)), hB⟩
  case round =>
    clear hB
    rename_i wr
    obtain ⟨k, hk, rfl, hno, hB⟩ := hrel
    by_cases hlt : k < m
    · obtain ⟨bb, off, eA, hbl, u0, u1, u2⟩ := (T.keep hB).at3 hlt
      have HA := Lib.hid eA
      rw [HA.out]
      clear eA
      have hcall := hp wr k hlt hB
      clear hp T
      cases hq : p k with
      | true =>
        have HI := Lib.hid (Ce.fi_hit hno.out hq m hlt)
        rw [hq] at hcall
        clear hq
        go_wp2_with (refine hcall.mono ?_; rintro e w' ⟨rfl, hb⟩)
        go_returns
        exact ⟨ret_int HI.out.symm, bt hB hb⟩
      | false =>
        have HN := Lib.hid (show ∀ j, j < k + 1 → p j = false from fun j hj => by
          by_cases e : j = k
          · rw [e]; exact hq
          · exact hno.out j (by omega))
        rw [hq] at hcall
        clear hq
        go_wp2_with (refine hcall.mono ?_; rintro e w' ⟨rfl, hb⟩)
        go_roundw
        case rel => exact ⟨k + 1, by omega, by go_num, HN, bt hB hb⟩
        case measure => simp [intOf]; omega
    · obtain rfl : k = m := by omega
      have HI := Lib.hid ((Ce.fi_no p k).2 hno.out)
      clear hp
      go_wp2_with fail
      go_returns
      exact ⟨ret_int HI.out.symm, hB⟩
end Go.Proofs.Ytoeklllahpegfaa
/-
  Contracts: Solve.
-/
namespace Go.Proofs.Ytoeklllahpegfaa
set_option linter.unusedVariables false
set_option linter.unusedSimpArgs false
open Go.RowKit
attribute [local irreducible] World.setCell World.cell?

set_option maxRecDepth 100000 in
set_option maxHeartbeats 4000000 in
theorem solve_no (A : Option Addr) (n : Int) (m c : Nat) (E : Ce.Tab) (w : World) (T : Rd w 3 A m c (iv E)) (n1 : -9223372036854775808 ≤ n) (n2 : n ≤ 9223372036854775807) (a b : Int) (h : Ce.en n m E a b ≠ 0) : Calls Try.prog 30 #[.agg #[.int .i64 n, .slice A m c], .int .i64 a, .int .i64 b] w fun e w' => e = .returned (.tuple #[.slice none 0 0, .slice none 0 0, .int .i64 (Ce.en n m E a b)]) ∧ Below w.heap.size w w' := by
  have h1 : (Ce.en n m E a b != 0) = true := by simpa using h
  clear h
  go_enter Try.func30, Try.ntmps30
  have Gb := Blk.new w 41 #[.int .i64 (n), .slice A m c]
  have hB := ba w (.cells #[.int .i64 (n), .slice A m c] 41)
  obtain ⟨c00, c01, c02, c03⟩ := Gb.open2
  go_wp2_with fail
  refine (ends_c _ _ _ _ _ _ (T.keep hB) n1 n2 _ _).mono ?_
  rintro e w1 ⟨rfl, hb⟩
  clear c00 c01 c02 c03
  replace Gb := Gb.keep hb
  replace hB := bt hB hb
  clear hb
  go_wp2_with fail
  go_returns
  exact ⟨rfl, hB⟩
set_option maxRecDepth 100000 in
set_option maxHeartbeats 4000000 in
theorem solve_f (A : Option Addr) (n m c : Nat) (E : Ce.Tab) (s : Nat) (w : World) (T : Rd w 3 A m c (iv E)) (O : Ce.Ok (n : Int) m E) (hs : s < n) (b : Nat) (hb : b < n) : Calls Try.prog 30 #[.agg #[.int .i64 (n : Int), .slice A m c], .int .i64 (s : Int), .int .i64 (b : Int)] w fun e w' => ∃ (C D : Nat → Int), Hid (Ce.Lab n m E s C D) ∧ Below w.heap.size w w' ∧ ((C b < 0 ∧ e = .returned (.tuple #[.slice none 0 0, .slice none 0 0, .int .i64 6])) ∨ (0 ≤ C b ∧ ∃ (A1 : Option Addr) (c1 : Nat) (A2 : Option Addr) (c2 : Nat), e = .returned (.tuple #[.slice A1 (D b).toNat c1, .slice A2 n c2, .int .i64 0]) ∧ Rd w' 1 A1 (D b).toNat c1 (nv (Ce.rt m E C D b)) ∧ Rd w' 1 A2 n c2 (nv (Ce.pot n C)) ∧ ∀ g, ob A2 = some g → w.heap.size ≤ g)) := by
  have o1 := O.n1
  have o2 := O.n2
  have hn2 : n ≤ 512 := by omega
  have HEN := Lib.hid (Ce.en_ok.2 (⟨O, by omega, by omega, by omega, by omega⟩ : Ce.En (n : Int) m E (s : Int) (b : Int)))
  obtain ⟨i0, hi, hz0, hz1, hz2⟩ := info_parts infoI6
  have HI := Lib.hid hi
  have HZ0 := Lib.hid hz0
  have HZ1 := Lib.hid hz1
  have HZ2 := Lib.hid hz2
  clear hi hz0 hz1 hz2
  obtain ⟨i1, hi, hz0, hz1, hz2⟩ := info_parts infoI
  have HJ := Lib.hid hi
  have HY0 := Lib.hid hz0
  have HY1 := Lib.hid hz1
  have HY2 := Lib.hid hz2
  clear hi hz0 hz1 hz2
  have b1 : (0 : Int) ≤ (b : Int) := by omega
  have b2 : (b : Int) < (n : Int) := by omega
  go_enter Try.func30, Try.ntmps30
  have Gb := Blk.new w 41 #[.int .i64 (n), .slice A m c]
  have hB := ba w (.cells #[.int .i64 (n), .slice A m c] 41)
  obtain ⟨c00, c01, c02, c03⟩ := Gb.open2
  go_wp2_with fail
  refine (ends_c _ _ _ _ _ _ (T.keep hB) (by omega) (by omega) _ _).mono ?_
  rw [HEN.out]
  rintro e w1 ⟨rfl, hb⟩
  clear c00 c01 c02 c03
  replace Gb := Gb.keep hb
  replace hB := bt hB hb
  clear hb
  obtain ⟨c00, c01, c02, c03⟩ := Gb.open2
  go_wp2_with fail
  refine (labels_c _ n m c E s _ (T.keep hB) O hs).mono ?_
  rintro e w2 ⟨C, D, F, HL, rfl, R, hb⟩
  replace hB := bt hB hb
  replace Gb := Gb.keep hb
  clear hb c00 c01 c02 c03
  generalize w1.heap.size + 1 = gL at R ⊢
  obtain ⟨l0, l1, l2, l3⟩ := R.lab hb
  have L0 := HL.out
  have bC := L0.cb O hb
  have Ga := Blk.new w2 80 #[.slice (some ⟨gL, 0, none⟩) n n]
  replace Gb := Gb.alloc (.cells #[.slice (some ⟨gL, 0, none⟩) n n] 80)
  replace R := R.alloc (.cells #[.slice (some ⟨gL, 0, none⟩) n n] 80)
  replace hB := bal hB (.cells #[.slice (some ⟨gL, 0, none⟩) n n] 80)
  have lga := Ga.lt
  by_cases hC : C b < 0
  · go_wp2_with fail
    go_returns
    exact ⟨C, D, HL, hB, .inl ⟨hC, rfl⟩⟩
  have bD := bC.2.2 (by omega)
  go_wp2_with fail
  clear l0 l1 l2 l3 L0
  generalize World.alloc w2 _ = wA at Ga Gb R hB lga ⊢
  generalize w2.heap.size = ga at Ga lga ⊢
  go_loopw [11, 36] (fun mo i wr => ∃ v : Nat, v ≤ n ∧ i = .int .i64 v ∧ mo = .int .i64 (Ce.mst C v) ∧ Below wA.heap.size wA wr) (fun _ i _ => n - (intOf i).toNat)
  case atStart => exact ⟨0, Nat.zero_le _, rfl, rfl, Below.refl _ _⟩
  case round =>
    obtain ⟨v, hv, rfl, rfl, hW⟩ := hrel
    by_cases hlt : v < n
    · skip
      obtain ⟨y0, y1, y2, y3⟩ := (R.keep hW).lab hlt
      replace hW := bal hW (.cells #[.int .i64 (C v), .int .i64 (D v), .bool (F v)] 83)
      have X := Blk.new wr 83 #[.int .i64 (C v), .int .i64 (D v), .bool (F v)]
      obtain ⟨x0, x1, x2, x3, x4⟩ := X.open3
      by_cases hm : Ce.mst C v < C v
      · have HM := Lib.hid (show Ce.mst C (v + 1) = C v by rw [Ce.mst, if_pos hm])
        go_wp2_with fail
        go_roundw
        case rel => exact ⟨v + 1, by omega, by go_num, by rw [HM.out], hW⟩
        case measure => simp [intOf]; omega
      · have HM := Lib.hid (show Ce.mst C (v + 1) = Ce.mst C v by rw [Ce.mst, if_neg hm])
        go_wp2_with fail
        go_roundw
        case rel => exact ⟨v + 1, by omega, by go_num, by rw [HM.out], hW⟩
        case measure => simp [intOf]; omega
    · obtain rfl : v = n := by omega
      obtain ⟨a0, a1, a2⟩ := (Ga.keep hW).open1
      go_wp2_with fail
      clear a0 a1 a2
      go_loopw [7, 47] (fun s_ i wr => ∃ (q : Nat) (A' : Option Addr) (c' : Nat), q ≤ v ∧ i = .int .i64 q ∧ s_ = .slice A' q c' ∧ Own wr wA.heap.size 2 1 A' q c' (nv (Ce.pot v C)) ∧ Below wA.heap.size wA wr) (fun _ i _ => v - (intOf i).toNat)
      case atStart => exact ⟨0, none, 0, Nat.zero_le _, rfl, rfl, Own.nil _ _ _ _ _, hW⟩
      case round =>
        clear hW
        obtain ⟨q, A', c', hq, rfl, rfl, own, hW⟩ := hrel
        by_cases hlt : q < v
        · have hsz := hW.size
          have hW0 := hW
          obtain ⟨y0, y1, y2, y3⟩ := (R.keep hW).lab hlt
          replace hW := bal hW (.cells #[.int .i64 (C q), .int .i64 (D q), .bool (F q)] 83)
          have X := Blk.new wr 83 #[.int .i64 (C q), .int .i64 (D q), .bool (F q)]
          obtain ⟨x0, x1, x2, x3, x4⟩ := X.open3
          by_cases hc : C q < 0
          · have HP := Lib.hid (show Ce.pot v C q = Ce.mst C v from if_pos hc)
            have nX : ob A' = none ∨ ob A' ≠ some wr.heap.size := .inr fun z => by have := own.top z; omega
            go_wp2_with (at_builtin; refine wpList_append_Rd _ rfl _ _ 22 rfl wA.heap.size 2 i0 _ 1 8 Try.underlying22 HI.out HZ0.out HZ1.out HZ2.out rfl (by decide) rfl ((own.alloc _).alloc _) rfl (rd_num _ _ _ (by simp)) (one_nv _) (by omega) (by omega) (by simp; omega) ?_; intro A2 c2 w3 own' hgr hob)
            have own2 := own_num own' HP.out
            have hW2 : Below wA.heap.size wA w3 := (bal (bal hW0 _) _).trans (below_grown hgr (fun g hg => by have := own.base hg; omega) (by simp; omega))
            clear own own' hgr hob hW y0 y1 y2 y3 x0 x1 x2 x3 x4 X
            go_wp2_with fail
            go_roundw
            case rel => exact ⟨q + 1, A2, c2, by omega, by go_num, rfl, own2, hW2⟩
            case measure => simp [intOf]; omega
          have HP := Lib.hid (show Ce.pot v C q = C q from if_neg hc)
          go_wp2_with (at_builtin; refine wpList_append_Rd _ rfl _ _ 22 rfl wA.heap.size 2 i0 _ 1 8 Try.underlying22 HI.out HZ0.out HZ1.out HZ2.out rfl (by decide) rfl ((own.alloc _).alloc _) rfl (rd_num _ _ _ (by simp)) (one_nv _) (by omega) (by omega) (by simp; omega) ?_; intro A2 c2 w3 own' hgr hob)
          have own2 := own_num own' HP.out
          have hW2 : Below wA.heap.size wA w3 := (bal hW _).trans (below_grown hgr (fun g hg => by have := own.base hg; omega) (by simp; omega))
          clear own own' hgr hob hW y0 y1 y2 y3 x0 x1 x2 x3 x4 X
          go_wp2_with fail
          go_roundw
          case rel => exact ⟨q + 1, A2, c2, by omega, by go_num, rfl, own2, hW2⟩
          case measure => simp [intOf]; omega
        · obtain rfl : q = v := by omega
          replace R := R.keep hW
          replace Ga := Ga.keep hW
          replace Gb := Gb.keep hW
          have P := own.rd
          have PF := Lib.hid (fun (g : Nat) (hg : ob A' = some g) => Nat.le_trans hB.size (own.base hg))
          replace hB := bt hB hW
          clear own hlt hq hv
          have LL := HL.out
          obtain ⟨L, eL⟩ : ∃ L : Nat, D b = (L : Int) := ⟨(D b).toNat, by omega⟩
          have eLL : (D b).toNat = L := by omega
          have hLn : L < q := by omega
          have ELL := Lib.hid eLL
          have EL := Lib.hid eL
          have BK := Lib.hid (fun (j : Nat) (hj : j ≤ L) => Ce.bk_ok O LL (b := (b : Int)) b1 b2 (by rw [Int.toNat_natCast]; omega) j (by rw [Int.toNat_natCast, eL]; omega))
          have BL := Lib.hid (fun (j : Nat) (hj : j < L) => Ce.bk_lt O LL (b := (b : Int)) b1 b2 (by rw [Int.toNat_natCast]; omega) j (by rw [Int.toNat_natCast, eL]; omega))
          have CB := Lib.hid (fun (u : Nat) (hu : u < q) => LL.cb O hu)
          clear LL eLL eL bC bD
          generalize wr = wB at R Ga Gb P hB ⊢
          have hW0 := ba wB (.cells #[.int .i64 (b : Int)] 3)
          have Gv := Blk.new wB 3 #[.int .i64 (b : Int)]
          go_wp2_with fail
          go_loopg [6, 16] L (fun gg r_ at_ wr => ∃ (k : Nat) (A1 : Option Addr) (c1 gv : Nat), k ≤ L ∧ L - k ≤ gg ∧ r_ = .slice A1 k c1 ∧ at_ = .pointer (some ⟨gv, 0, none⟩) ∧ Blk wr gv 3 #[.int .i64 (Ce.bk m E C D (b : Int) k)] ∧ wB.heap.size ≤ gv ∧ Own wr wB.heap.size 3 1 A1 k c1 (nv (Ce.rb m E C D (b : Int))) ∧ ob A1 ≠ some gv ∧ Below wB.heap.size wB wr)
          case atStart => exact ⟨0, none, 0, wB.heap.size, Nat.zero_le _, Nat.le_refl _, rfl, rfl, Gv, Nat.le_refl _, Own.nil _ _ _ _ _, by simp [ob], hW0⟩
          case round =>
            clear Gv hW0
            obtain ⟨k, A1, c1, gv, hk, hgk, rfl, rfl, Gv, hgv, own, hap, hW⟩ := hrel
            obtain ⟨k0, k1, k2, k3⟩ := BK.out k hk
            obtain ⟨x, ex⟩ : ∃ x : Nat, Ce.bk m E C D (b : Int) k = (x : Int) := ⟨(Ce.bk m E C D (b : Int) k).toNat, by omega⟩
            have EX := Lib.hid ex
            rw [ex] at Gv k0 k1 k2 k3
            rw [Int.toNat_natCast, Int.toNat_natCast, EL.out] at k3
            rw [Int.toNat_natCast] at k2
            clear ex
            have hxq : x < q := by omega
            obtain ⟨y0, y1, y2, y3⟩ := (R.keep hW).lab hxq
            obtain ⟨a0, a1, a2⟩ := (Ga.keep hW).open1
            obtain ⟨d0, d1, d2⟩ := Gv.open1
            obtain ⟨c0, c1_, c2, c3⟩ := (Gb.keep hW).open2
            by_cases hlt : k < L
            · have hdp : 0 < D x := by omega
              obtain ⟨r0, r1, r2, r3, r4, r5⟩ := BL.out k hlt
              obtain ⟨r, er⟩ : ∃ r : Nat, Ce.rb m E C D (b : Int) k = (r : Int) := ⟨(Ce.rb m E C D (b : Int) k).toNat, by omega⟩
              rw [er] at r0 r1 r2 r3 r5
              rw [Int.toNat_natCast] at r2 r3 r5
              have hrm : r < m := by omega
              have HR := Lib.hid (show Ce.fi (Ce.lastB E C D (x : Int)) m = (r : Int) by rw [← er]; unfold Ce.rb Ce.pk; rw [EX.out])
              have ER := Lib.hid er
              have R3 := Lib.hid r3
              clear r2 r3 r4 r5 er
              have hv : ∀ (W : World) (i : Nat), i < m → Below wr.heap.size wr W → Calls Try.prog 55 (#[.agg #[.int .i64 (E i 0), .int .i64 (E i 1), .int .i64 (E i 2)]] ++ #[.pointer (some ⟨ga, 0, none⟩), .pointer (some ⟨gv, 0, none⟩)]) W fun e w' => e = .returned (.bool (Ce.lastB E C D (x : Int) i)) ∧ Below W.heap.size W w' := fun W i hi hb => by
                have he := O.e i hi
                exact sol_c _ _ _ _ E i q C D F W gL ga gv (R.keep (bt hW hb)) (Ga.keep (bt hW hb)) (Gv.keep hb) rfl rfl rfl he.f0 he.f1 he.c0 he.c1 k0 k1 hn2 (fun u hu => by have := CB.out u hu; exact ⟨this.2.1, fun h => by have := this.2.2 h; omega⟩)
              go_wp2_with fail
              refine (index_c (Ce.lastB E C D (x : Int)) 55 (enters_of Try.func55 (by kernel_rfl) rfl) #[.pointer (some ⟨ga, 0, none⟩), .pointer (some ⟨gv, 0, none⟩)] _ _ _ _ _ (T.keep (bt hB hW)) hv).mono ?_
              rw [HR.out]
              rintro e w9 ⟨rfl, hb⟩
              have hgl := Gv.lt
              replace Gv := Gv.keep hb
              replace own := own.keep hb
              replace hW := bt hW hb
              clear hb hv y0 y1 y2 y3 a0 a1 a2 d0 d1 d2 c0 c1_ c2 c3
              obtain ⟨b3, off3, eB, hbl3, v0, v1, v2⟩ := (T.keep (bt hB hW)).at3 hrm
              clear v0 v1 v2
              have HB := Lib.hid eB
              rw [HB.out] at Gb ⊢
              clear eB
              have hsz := hW.size
              have l9 := Gv.lt
              have i3 : (0 : Int) ≤ (r : Int) := by omega
              have i4 : (r : Int) < (m : Int) := by omega
              have nA : ∀ g, ob A1 = some g → g < w9.heap.size := fun g z => own.top z
              go_wp2_with (at_builtin; refine wpList_append_Rd _ rfl _ _ 38 rfl wB.heap.size 3 i1 _ 1 8 Try.underlying38 HJ.out HY0.out HY1.out HY2.out rfl (by decide) rfl (own.alloc _) rfl (rd_num _ _ _ (by simp)) (one_nv _) (by omega) (by omega) (by simp; omega) ?_; intro A2 c2 w3 own' hgr hob; have hW3 : Below wB.heap.size wB w3 := (bal hW _).trans (below_grown hgr (fun g hg => own.base hg) (by simp; omega)); have Gv3 := (Gv.alloc _).grown hgr hap; have T3 := T.keep (bt hB hW3); rw [HB.out] at T3; obtain ⟨v0, v1, v2, v3⟩ := T3.e3 hrm; obtain ⟨c0, c1_, c2_, c3⟩ := (Gb.keep hW3).open2; obtain ⟨d0, d1, d2⟩ := Gv3.open1)
              have hap2 : ob A2 ≠ some gv := by
                rcases hob with z | z
                · rw [z]; exact hap
                · rw [z]; simp; omega
              have own2 := own_num own' ER.out
              have hgw : wB.heap.size ≤ gv := hgv
              have hgn : gv ≠ w3.heap.size := by omega
              have own3 := Lib.hid ((own2.far (p := ⟨gv, 0, none⟩) (.inr hap2) (.int .i64 (E r 0))).alloc (.cells #[.int .i64 (E r 0)] 3))
              have hW4 := Lib.hid (bal (bst hW3 (p := ⟨gv, 0, none⟩) hgv (.int .i64 (E r 0))) (.cells #[.int .i64 (E r 0)] 3))
              have Gn := Lib.hid (Blk.new (w3.setCell ⟨gv, 0, none⟩ (.int .i64 (E r 0))) 3 #[.int .i64 (E r 0)])
              have nA2 : ob A2 ≠ some w3.heap.size := fun z => by have := own2.top z; omega
              rw [← HB.out] at Gb ⊢
              go_roundg (L - (k + 1))
              case measure => omega
              case rel => exact ⟨k + 1, A2, c2, w3.heap.size, by omega, Nat.le_refl _, rfl, rfl, by have := Gn.out; rw [R3.out] at this; simpa [R3.out] using this, by have := hW3.size; omega, by simpa [R3.out] using own3.out, nA2, by simpa [R3.out] using hW4.out⟩
            · obtain rfl : k = L := by omega
              have hd0 : ¬ 0 < D x := by omega
              go_wp2_with fail
              refine (reverse_c _ _ _ _ _ _ own).mono ?_
              rintro e w9 ⟨rfl, own9, hg9⟩
              have hW9 : Below wB.heap.size wB w9 := hW.trans (below_grown hg9 (fun g hg => own.base hg) hW.size)
              have RT := own9.rd.congr (V' := nv (Ce.rt m E C D (b : Int))) fun i j hi _ => by unfold nv Ce.rt; rw [Int.toNat_natCast, ELL.out]
              go_wp2_with fail
              go_returns
              exact ⟨C, D, HL, bt hB hW9, .inr ⟨by omega, A1, c1, A', c', by rw [ELL.out]; rfl, by rw [ELL.out]; exact RT, P.keep hW9, PF.out⟩⟩
theorem solve_c (A : Option Addr) (n m c : Nat) (E : Ce.Tab) (s : Nat) (w : World) (T : Rd w 3 A m c (iv E)) (O : Ce.Ok (n : Int) m E) (hs : s < n) (b : Nat) (hb : b < n) : Calls Try.prog 30 #[.agg #[.int .i64 (n : Int), .slice A m c], .int .i64 (s : Int), .int .i64 (b : Int)] w fun e w' => ∃ (C D : Nat → Int), Hid (Ce.Lab n m E s C D) ∧ Below w.heap.size w w' ∧ ((C b < 0 ∧ e = .returned (.tuple #[.slice none 0 0, .slice none 0 0, .int .i64 6])) ∨ (0 ≤ C b ∧ ∃ (A1 : Option Addr) (c1 : Nat) (A2 : Option Addr) (c2 : Nat), e = .returned (.tuple #[.slice A1 (D b).toNat c1, .slice A2 n c2, .int .i64 0]) ∧ Rd w' 1 A1 (D b).toNat c1 (nv (Ce.rt m E C D b)) ∧ Rd w' 1 A2 n c2 (nv (Ce.pot n C)))) := by
  refine (solve_f A n m c E s w T O hs b hb).mono ?_
  rintro e w' ⟨C, D, HL, h1, h2 | ⟨h2, A1, c1, A2, c2, h3, h4, h5, _⟩⟩
  · exact ⟨C, D, HL, h1, .inl h2⟩
  · exact ⟨C, D, HL, h1, .inr ⟨h2, A1, c1, A2, c2, h3, h4, h5⟩⟩
end Go.Proofs.Ytoeklllahpegfaa
