/-
  Contract: Check.
-/
import Derived.Test.YtbmfkncfenkjoaaW1
import Derived.Test.YtbmfkncfenkjoaaRd
namespace Go.Proofs.Ytbmfkncfenkjoaa
set_option linter.unusedVariables false
set_option linter.unusedSimpArgs false
open Go.RowKit
attribute [local irreducible] World.setCell World.cell?

set_option maxRecDepth 100000 in
set_option maxHeartbeats 4000000 in
theorem check_c (A : Option Addr) (n : Int) (m c : Nat) (E : Ce.Tab) (w : World) (T : Rd w 3 A m c (iv E)) (n1 : -9223372036854775808 ≤ n) (n2 : n ≤ 9223372036854775807) : Calls Try.prog 12 #[.agg #[.int .i64 n, .slice A m c]] w fun e w' => e = .returned (.int .i64 (Ce.ck n m E)) ∧ Below w.heap.size w w' := by
  have r1 := T.le
  have r2 := T.mx
  by_cases c1 : n < 1
  · have HE := Lib.hid (Ce.ck_3 (n := n) (m := m) (E := E) (by omega))
    skip
    go_enter Try.func12, Try.ntmps12
    have Gb := Blk.new w 24 #[.int .i64 (n), .slice A m c]
    have hB := ba w (.cells #[.int .i64 (n), .slice A m c] 24)
    obtain ⟨c00, c01, c02, c03⟩ := Gb.open2
    go_wp2_with fail
    go_returns
    exact ⟨ret_int HE.out.symm, hB⟩
  by_cases c2 : 512 < n
  · have HE := Lib.hid (Ce.ck_3 (n := n) (m := m) (E := E) (by omega))
    skip
    go_enter Try.func12, Try.ntmps12
    have Gb := Blk.new w 24 #[.int .i64 (n), .slice A m c]
    have hB := ba w (.cells #[.int .i64 (n), .slice A m c] 24)
    obtain ⟨c00, c01, c02, c03⟩ := Gb.open2
    go_wp2_with fail
    go_returns
    exact ⟨ret_int HE.out.symm, hB⟩
  by_cases c3 : 8192 < m
  · have HE := Lib.hid (Ce.ck_3 (n := n) (m := m) (E := E) (by omega))
    have c4 : (8192 : Int) < (m : Int) := by omega
    go_enter Try.func12, Try.ntmps12
    have Gb := Blk.new w 24 #[.int .i64 (n), .slice A m c]
    have hB := ba w (.cells #[.int .i64 (n), .slice A m c] 24)
    obtain ⟨c00, c01, c02, c03⟩ := Gb.open2
    go_wp2_with fail
    go_returns
    exact ⟨ret_int HE.out.symm, hB⟩
  have c4 : ¬ (8192 : Int) < (m : Int) := by omega
  have c0 : ¬ (n < 1 ∨ 512 < n ∨ 8192 < m) := by omega
  have C0 := Lib.hid c0
  clear c0
  go_enter Try.func12, Try.ntmps12
  have Gb := Blk.new w 24 #[.int .i64 (n), .slice A m c]
  have hB := ba w (.cells #[.int .i64 (n), .slice A m c] 24)
  obtain ⟨c00, c01, c02, c03⟩ := Gb.open2
  go_wp2_with fail
  clear c00 c01 c02 c03
  go_loopw [22] (fun i wr => ∃ k : Nat, k ≤ m ∧ i = .int .i64 k ∧ Hid (Ce.ckE n E k = 0) ∧ Blk wr w.heap.size 24 #[.int .i64 (n), .slice A m c] ∧ Below w.heap.size w wr) (fun i _ => m - (intOf i).toNat)
  case atStart => exact ⟨0, Nat.zero_le _, rfl, rfl, Gb, hB⟩
  case round =>
    clear Gb hB
    rename_i wr
    obtain ⟨k, hk, rfl, hok, Gb, hB⟩ := hrel
    by_cases hlt : k < m
    · obtain ⟨bb, off, eA, hbl, u0, u1, u2⟩ := (T.keep hB).at3 hlt
      have HA := Lib.hid eA
      clear eA
      replace Gb := Gb.alloc (.cells #[.int .i64 (E k 0), .int .i64 (E k 1), .int .i64 (E k 2)] 59)
      replace hB := bal hB (.cells #[.int .i64 (E k 0), .int .i64 (E k 1), .int .i64 (E k 2)] 59)
      have X := Blk.new wr 59 #[.int .i64 (E k 0), .int .i64 (E k 1), .int .i64 (E k 2)]
      have lG := Gb.lt
      cases q0 : Ce.nd n (E k 0)
      · have Q0 := Lib.hid q0
        have HE := Lib.hid ((Ce.ck_stop C0.out hlt hok.out (by rw [Ce.erow_1 (by rw [Q0.out]; rfl)]; decide)).trans (Ce.erow_1 (by rw [Q0.out]; rfl)))
        rw [HA.out] at Gb ⊢
        clear q0
        obtain ⟨c00, c01, c02, c03⟩ := Gb.open2
        obtain ⟨c10, c11, c12, c13, c14⟩ := X.open3
        go_wp2_with fail
        refine (node_c _ _ _ _ _ _).mono ?_
        rw [Q0.out]
        rintro e w6 ⟨rfl, hb⟩
        clear c00 c01 c02 c03 c10 c11 c12 c13 c14
        replace Gb := Gb.keep hb
        replace X := X.keep hb
        replace hB := bt hB hb
        clear hb
        go_wp2_with fail
        go_returns
        exact ⟨ret_int HE.out.symm, hB⟩
      cases q1 : Ce.nd n (E k 1)
      · have Q0 := Lib.hid q0
        have Q1 := Lib.hid q1
        have HE := Lib.hid ((Ce.ck_stop C0.out hlt hok.out (by rw [Ce.erow_1 (by rw [Q0.out, Q1.out]; rfl)]; decide)).trans (Ce.erow_1 (by rw [Q0.out, Q1.out]; rfl)))
        rw [HA.out] at Gb ⊢
        clear q0 q1
        obtain ⟨c00, c01, c02, c03⟩ := Gb.open2
        obtain ⟨c10, c11, c12, c13, c14⟩ := X.open3
        go_wp2_with fail
        refine (node_c _ _ _ _ _ _).mono ?_
        rw [Q0.out]
        rintro e w6 ⟨rfl, hb⟩
        clear c00 c01 c02 c03 c10 c11 c12 c13 c14
        replace Gb := Gb.keep hb
        replace X := X.keep hb
        replace hB := bt hB hb
        clear hb
        obtain ⟨c00, c01, c02, c03⟩ := Gb.open2
        obtain ⟨c10, c11, c12, c13, c14⟩ := X.open3
        go_wp2_with fail
        refine (node_c _ _ _ _ _ _).mono ?_
        rw [Q1.out]
        rintro e w7 ⟨rfl, hb⟩
        clear c00 c01 c02 c03 c10 c11 c12 c13 c14
        replace Gb := Gb.keep hb
        replace X := X.keep hb
        replace hB := bt hB hb
        clear hb
        go_wp2_with fail
        go_returns
        exact ⟨ret_int HE.out.symm, hB⟩
      by_cases k0 : E k 2 < 0
      · have Q0 := Lib.hid q0
        have Q1 := Lib.hid q1
        have HE := Lib.hid ((Ce.ck_stop C0.out hlt hok.out (by rw [Ce.erow_2 (by rw [Q0.out, Q1.out]; rfl) (decide_eq_false (by omega))]; decide)).trans (Ce.erow_2 (by rw [Q0.out, Q1.out]; rfl) (decide_eq_false (by omega))))
        rw [HA.out] at Gb ⊢
        clear q0 q1
        obtain ⟨c00, c01, c02, c03⟩ := Gb.open2
        obtain ⟨c10, c11, c12, c13, c14⟩ := X.open3
        go_wp2_with fail
        refine (node_c _ _ _ _ _ _).mono ?_
        rw [Q0.out]
        rintro e w6 ⟨rfl, hb⟩
        clear c00 c01 c02 c03 c10 c11 c12 c13 c14
        replace Gb := Gb.keep hb
        replace X := X.keep hb
        replace hB := bt hB hb
        clear hb
        obtain ⟨c00, c01, c02, c03⟩ := Gb.open2
        obtain ⟨c10, c11, c12, c13, c14⟩ := X.open3
        go_wp2_with fail
        refine (node_c _ _ _ _ _ _).mono ?_
        rw [Q1.out]
        rintro e w7 ⟨rfl, hb⟩
        clear c00 c01 c02 c03 c10 c11 c12 c13 c14
        replace Gb := Gb.keep hb
        replace X := X.keep hb
        replace hB := bt hB hb
        clear hb
        obtain ⟨c00, c01, c02, c03, c04⟩ := X.open3
        go_wp2_with fail
        go_returns
        exact ⟨ret_int HE.out.symm, hB⟩
      by_cases k1 : 1099511627776 < E k 2
      · have Q0 := Lib.hid q0
        have Q1 := Lib.hid q1
        have HE := Lib.hid ((Ce.ck_stop C0.out hlt hok.out (by rw [Ce.erow_2 (by rw [Q0.out, Q1.out]; rfl) (decide_eq_false (by omega))]; decide)).trans (Ce.erow_2 (by rw [Q0.out, Q1.out]; rfl) (decide_eq_false (by omega))))
        rw [HA.out] at Gb ⊢
        clear q0 q1
        obtain ⟨c00, c01, c02, c03⟩ := Gb.open2
        obtain ⟨c10, c11, c12, c13, c14⟩ := X.open3
        go_wp2_with fail
        refine (node_c _ _ _ _ _ _).mono ?_
        rw [Q0.out]
        rintro e w6 ⟨rfl, hb⟩
        clear c00 c01 c02 c03 c10 c11 c12 c13 c14
        replace Gb := Gb.keep hb
        replace X := X.keep hb
        replace hB := bt hB hb
        clear hb
        obtain ⟨c00, c01, c02, c03⟩ := Gb.open2
        obtain ⟨c10, c11, c12, c13, c14⟩ := X.open3
        go_wp2_with fail
        refine (node_c _ _ _ _ _ _).mono ?_
        rw [Q1.out]
        rintro e w7 ⟨rfl, hb⟩
        clear c00 c01 c02 c03 c10 c11 c12 c13 c14
        replace Gb := Gb.keep hb
        replace X := X.keep hb
        replace hB := bt hB hb
        clear hb
        obtain ⟨c00, c01, c02, c03, c04⟩ := X.open3
        go_wp2_with fail
        go_returns
        exact ⟨ret_int HE.out.symm, hB⟩
      · have Q0 := Lib.hid q0
        have Q1 := Lib.hid q1
        have HE := Lib.hid (Ce.ckE_next hok.out (Ce.erow_0.2 ⟨(Ce.nd_iff.1 Q0.out).1, (Ce.nd_iff.1 Q0.out).2, (Ce.nd_iff.1 Q1.out).1, (Ce.nd_iff.1 Q1.out).2, by omega, by omega⟩))
        rw [HA.out] at Gb ⊢
        clear q0 q1
        obtain ⟨c00, c01, c02, c03⟩ := Gb.open2
        obtain ⟨c10, c11, c12, c13, c14⟩ := X.open3
        go_wp2_with fail
        refine (node_c _ _ _ _ _ _).mono ?_
        rw [Q0.out]
        rintro e w6 ⟨rfl, hb⟩
        clear c00 c01 c02 c03 c10 c11 c12 c13 c14
        replace Gb := Gb.keep hb
        replace X := X.keep hb
        replace hB := bt hB hb
        clear hb
        obtain ⟨c00, c01, c02, c03⟩ := Gb.open2
        obtain ⟨c10, c11, c12, c13, c14⟩ := X.open3
        go_wp2_with fail
        refine (node_c _ _ _ _ _ _).mono ?_
        rw [Q1.out]
        rintro e w7 ⟨rfl, hb⟩
        clear c00 c01 c02 c03 c10 c11 c12 c13 c14
        replace Gb := Gb.keep hb
        replace X := X.keep hb
        replace hB := bt hB hb
        clear hb
        obtain ⟨c00, c01, c02, c03, c04⟩ := X.open3
        go_wp2_with fail
        go_roundw
        case rel => exact ⟨k + 1, by omega, by go_num, HE, Gb, hB⟩
        case measure => simp [intOf]; omega
    · obtain rfl : k = m := by omega
      have HE := Lib.hid (Ce.ck_end C0.out hok.out)
      go_wp2_with fail
      go_returns
      exact ⟨ret_int HE.out.symm, hB⟩
set_option maxRecDepth 100000 in
set_option maxHeartbeats 4000000 in
theorem rcheck_c (A : Option Addr) (n : Int) (m c : Nat) (E : Ce.Tab) (w : World) (T : Rd w 3 A m c (iv E)) (n1 : -9223372036854775808 ≤ n) (n2 : n ≤ 9223372036854775807) : Calls Try.prog 13 #[.agg #[.int .i64 n, .slice A m c]] w fun e w' => e = .returned (.int .i64 (Ce.ck n m E)) ∧ Below w.heap.size w w' := by
  have r1 := T.le
  have r2 := T.mx
  by_cases c1 : n < 1
  · have HE := Lib.hid (Ce.ck_3 (n := n) (m := m) (E := E) (by omega))
    skip
    go_enter Try.func13, Try.ntmps13
    have Gb := Blk.new w 24 #[.int .i64 (n), .slice A m c]
    have hB := ba w (.cells #[.int .i64 (n), .slice A m c] 24)
    obtain ⟨c00, c01, c02, c03⟩ := Gb.open2
    go_wp2_with fail
    go_returns
    exact ⟨ret_int HE.out.symm, hB⟩
  by_cases c2 : 512 < n
  · have HE := Lib.hid (Ce.ck_3 (n := n) (m := m) (E := E) (by omega))
    skip
    go_enter Try.func13, Try.ntmps13
    have Gb := Blk.new w 24 #[.int .i64 (n), .slice A m c]
    have hB := ba w (.cells #[.int .i64 (n), .slice A m c] 24)
    obtain ⟨c00, c01, c02, c03⟩ := Gb.open2
    go_wp2_with fail
    go_returns
    exact ⟨ret_int HE.out.symm, hB⟩
  by_cases c3 : 8192 < m
  · have HE := Lib.hid (Ce.ck_3 (n := n) (m := m) (E := E) (by omega))
    have c4 : (8192 : Int) < (m : Int) := by omega
    go_enter Try.func13, Try.ntmps13
    have Gb := Blk.new w 24 #[.int .i64 (n), .slice A m c]
    have hB := ba w (.cells #[.int .i64 (n), .slice A m c] 24)
    obtain ⟨c00, c01, c02, c03⟩ := Gb.open2
    go_wp2_with fail
    go_returns
    exact ⟨ret_int HE.out.symm, hB⟩
  have c4 : ¬ (8192 : Int) < (m : Int) := by omega
  have c0 : ¬ (n < 1 ∨ 512 < n ∨ 8192 < m) := by omega
  have C0 := Lib.hid c0
  clear c0
  go_enter Try.func13, Try.ntmps13
  have Gb := Blk.new w 24 #[.int .i64 (n), .slice A m c]
  have hB := ba w (.cells #[.int .i64 (n), .slice A m c] 24)
  obtain ⟨c00, c01, c02, c03⟩ := Gb.open2
  go_wp2_with fail
  clear c00 c01 c02 c03
  go_loopw [22] (fun i wr => ∃ k : Nat, k ≤ m ∧ i = .int .i64 k ∧ Hid (Ce.ckE n E k = 0) ∧ Blk wr w.heap.size 24 #[.int .i64 (n), .slice A m c] ∧ Below w.heap.size w wr) (fun i _ => m - (intOf i).toNat)
  case atStart => exact ⟨0, Nat.zero_le _, rfl, rfl, Gb, hB⟩
  case round =>
    clear Gb hB
    rename_i wr
    obtain ⟨k, hk, rfl, hok, Gb, hB⟩ := hrel
    by_cases hlt : k < m
    · obtain ⟨bb, off, eA, hbl, u0, u1, u2⟩ := (T.keep hB).at3 hlt
      have HA := Lib.hid eA
      clear eA
      replace Gb := Gb.alloc (.cells #[.int .i64 (E k 0), .int .i64 (E k 1), .int .i64 (E k 2)] 59)
      replace hB := bal hB (.cells #[.int .i64 (E k 0), .int .i64 (E k 1), .int .i64 (E k 2)] 59)
      have X := Blk.new wr 59 #[.int .i64 (E k 0), .int .i64 (E k 1), .int .i64 (E k 2)]
      have lG := Gb.lt
      cases q0 : Ce.nd n (E k 0)
      · have Q0 := Lib.hid q0
        have HE := Lib.hid ((Ce.ck_stop C0.out hlt hok.out (by rw [Ce.erow_1 (by rw [Q0.out]; rfl)]; decide)).trans (Ce.erow_1 (by rw [Q0.out]; rfl)))
        rw [HA.out] at Gb ⊢
        clear q0
        obtain ⟨c00, c01, c02, c03⟩ := Gb.open2
        obtain ⟨c10, c11, c12, c13, c14⟩ := X.open3
        go_wp2_with fail
        refine (rnode_c _ _ _ _ _ _).mono ?_
        rw [Q0.out]
        rintro e w6 ⟨rfl, hb⟩
        clear c00 c01 c02 c03 c10 c11 c12 c13 c14
        replace Gb := Gb.keep hb
        replace X := X.keep hb
        replace hB := bt hB hb
        clear hb
        go_wp2_with fail
        go_returns
        exact ⟨ret_int HE.out.symm, hB⟩
      cases q1 : Ce.nd n (E k 1)
      · have Q0 := Lib.hid q0
        have Q1 := Lib.hid q1
        have HE := Lib.hid ((Ce.ck_stop C0.out hlt hok.out (by rw [Ce.erow_1 (by rw [Q0.out, Q1.out]; rfl)]; decide)).trans (Ce.erow_1 (by rw [Q0.out, Q1.out]; rfl)))
        rw [HA.out] at Gb ⊢
        clear q0 q1
        obtain ⟨c00, c01, c02, c03⟩ := Gb.open2
        obtain ⟨c10, c11, c12, c13, c14⟩ := X.open3
        go_wp2_with fail
        refine (rnode_c _ _ _ _ _ _).mono ?_
        rw [Q0.out]
        rintro e w6 ⟨rfl, hb⟩
        clear c00 c01 c02 c03 c10 c11 c12 c13 c14
        replace Gb := Gb.keep hb
        replace X := X.keep hb
        replace hB := bt hB hb
        clear hb
        obtain ⟨c00, c01, c02, c03⟩ := Gb.open2
        obtain ⟨c10, c11, c12, c13, c14⟩ := X.open3
        go_wp2_with fail
        refine (rnode_c _ _ _ _ _ _).mono ?_
        rw [Q1.out]
        rintro e w7 ⟨rfl, hb⟩
        clear c00 c01 c02 c03 c10 c11 c12 c13 c14
        replace Gb := Gb.keep hb
        replace X := X.keep hb
        replace hB := bt hB hb
        clear hb
        go_wp2_with fail
        go_returns
        exact ⟨ret_int HE.out.symm, hB⟩
      by_cases k0 : E k 2 < 0
      · have Q0 := Lib.hid q0
        have Q1 := Lib.hid q1
        have HE := Lib.hid ((Ce.ck_stop C0.out hlt hok.out (by rw [Ce.erow_2 (by rw [Q0.out, Q1.out]; rfl) (decide_eq_false (by omega))]; decide)).trans (Ce.erow_2 (by rw [Q0.out, Q1.out]; rfl) (decide_eq_false (by omega))))
        rw [HA.out] at Gb ⊢
        clear q0 q1
        obtain ⟨c00, c01, c02, c03⟩ := Gb.open2
        obtain ⟨c10, c11, c12, c13, c14⟩ := X.open3
        go_wp2_with fail
        refine (rnode_c _ _ _ _ _ _).mono ?_
        rw [Q0.out]
        rintro e w6 ⟨rfl, hb⟩
        clear c00 c01 c02 c03 c10 c11 c12 c13 c14
        replace Gb := Gb.keep hb
        replace X := X.keep hb
        replace hB := bt hB hb
        clear hb
        obtain ⟨c00, c01, c02, c03⟩ := Gb.open2
        obtain ⟨c10, c11, c12, c13, c14⟩ := X.open3
        go_wp2_with fail
        refine (rnode_c _ _ _ _ _ _).mono ?_
        rw [Q1.out]
        rintro e w7 ⟨rfl, hb⟩
        clear c00 c01 c02 c03 c10 c11 c12 c13 c14
        replace Gb := Gb.keep hb
        replace X := X.keep hb
        replace hB := bt hB hb
        clear hb
        obtain ⟨c00, c01, c02, c03, c04⟩ := X.open3
        go_wp2_with fail
        go_returns
        exact ⟨ret_int HE.out.symm, hB⟩
      by_cases k1 : 1099511627776 < E k 2
      · have Q0 := Lib.hid q0
        have Q1 := Lib.hid q1
        have HE := Lib.hid ((Ce.ck_stop C0.out hlt hok.out (by rw [Ce.erow_2 (by rw [Q0.out, Q1.out]; rfl) (decide_eq_false (by omega))]; decide)).trans (Ce.erow_2 (by rw [Q0.out, Q1.out]; rfl) (decide_eq_false (by omega))))
        rw [HA.out] at Gb ⊢
        clear q0 q1
        obtain ⟨c00, c01, c02, c03⟩ := Gb.open2
        obtain ⟨c10, c11, c12, c13, c14⟩ := X.open3
        go_wp2_with fail
        refine (rnode_c _ _ _ _ _ _).mono ?_
        rw [Q0.out]
        rintro e w6 ⟨rfl, hb⟩
        clear c00 c01 c02 c03 c10 c11 c12 c13 c14
        replace Gb := Gb.keep hb
        replace X := X.keep hb
        replace hB := bt hB hb
        clear hb
        obtain ⟨c00, c01, c02, c03⟩ := Gb.open2
        obtain ⟨c10, c11, c12, c13, c14⟩ := X.open3
        go_wp2_with fail
        refine (rnode_c _ _ _ _ _ _).mono ?_
        rw [Q1.out]
        rintro e w7 ⟨rfl, hb⟩
        clear c00 c01 c02 c03 c10 c11 c12 c13 c14
        replace Gb := Gb.keep hb
        replace X := X.keep hb
        replace hB := bt hB hb
        clear hb
        obtain ⟨c00, c01, c02, c03, c04⟩ := X.open3
        go_wp2_with fail
        go_returns
        exact ⟨ret_int HE.out.symm, hB⟩
      · have Q0 := Lib.hid q0
        have Q1 := Lib.hid q1
        have HE := Lib.hid (Ce.ckE_next hok.out (Ce.erow_0.2 ⟨(Ce.nd_iff.1 Q0.out).1, (Ce.nd_iff.1 Q0.out).2, (Ce.nd_iff.1 Q1.out).1, (Ce.nd_iff.1 Q1.out).2, by omega, by omega⟩))
        rw [HA.out] at Gb ⊢
        clear q0 q1
        obtain ⟨c00, c01, c02, c03⟩ := Gb.open2
        obtain ⟨c10, c11, c12, c13, c14⟩ := X.open3
        go_wp2_with fail
        refine (rnode_c _ _ _ _ _ _).mono ?_
        rw [Q0.out]
        rintro e w6 ⟨rfl, hb⟩
        clear c00 c01 c02 c03 c10 c11 c12 c13 c14
        replace Gb := Gb.keep hb
        replace X := X.keep hb
        replace hB := bt hB hb
        clear hb
        obtain ⟨c00, c01, c02, c03⟩ := Gb.open2
        obtain ⟨c10, c11, c12, c13, c14⟩ := X.open3
        go_wp2_with fail
        refine (rnode_c _ _ _ _ _ _).mono ?_
        rw [Q1.out]
        rintro e w7 ⟨rfl, hb⟩
        clear c00 c01 c02 c03 c10 c11 c12 c13 c14
        replace Gb := Gb.keep hb
        replace X := X.keep hb
        replace hB := bt hB hb
        clear hb
        obtain ⟨c00, c01, c02, c03, c04⟩ := X.open3
        go_wp2_with fail
        go_roundw
        case rel => exact ⟨k + 1, by omega, by go_num, HE, Gb, hB⟩
        case measure => simp [intOf]; omega
    · obtain rfl : k = m := by omega
      have HE := Lib.hid (Ce.ck_end C0.out hok.out)
      go_wp2_with fail
      go_returns
      exact ⟨ret_int HE.out.symm, hB⟩
end Go.Proofs.Ytbmfkncfenkjoaa
