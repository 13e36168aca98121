/-
  Contract: ends.
-/
import Derived.Test.YtbmfkncfenkjoaaW2
namespace Go.Proofs.Ytbmfkncfenkjoaa
set_option linter.unusedVariables false
set_option linter.unusedSimpArgs false
open Go.RowKit
attribute [local irreducible] World.setCell World.cell?

set_option maxRecDepth 100000 in
set_option maxHeartbeats 4000000 in
theorem ends_c (A : Option Addr) (n : Int) (m c : Nat) (E : Ce.Tab) (w : World) (T : Rd w 3 A m c (iv E)) (n1 : -9223372036854775808 ≤ n) (n2 : n ≤ 9223372036854775807) (a b : Int) : Calls Try.prog 32 #[.agg #[.int .i64 n, .slice A m c], .int .i64 a, .int .i64 b] w fun e w' => e = .returned (.int .i64 (Ce.en n m E a b)) ∧ Below w.heap.size w w' := by
  by_cases h : Ce.ck n m E = 0
  rotate_left
  · have h1 : (Ce.ck n m E != 0) = true := by simpa using h
    have HE := Lib.hid (Ce.en_ck (a := a) (b := b) h)
    clear h
    go_enter Try.func32, Try.ntmps32
    have Gb := Blk.new w 24 #[.int .i64 (n), .slice A m c]
    have hB := ba w (.cells #[.int .i64 (n), .slice A m c] 24)
    obtain ⟨c00, c01, c02, c03⟩ := Gb.open2
    go_wp2_with fail
    refine (check_c _ _ _ _ _ _ (T.keep hB) n1 n2).mono ?_
    rintro e w1 ⟨rfl, hb⟩
    clear c00 c01 c02 c03
    replace Gb := Gb.keep hb
    replace hB := bt hB hb
    clear hb
    go_wp2_with fail
    go_returns
    exact ⟨ret_int HE.out.symm, hB⟩
  cases q0 : Ce.nd n a
  · have HE := Lib.hid (Ce.en_1 h (a := a) (b := b) (by rw [q0]; rfl))
    have H := Lib.hid h
    have Q0 := Lib.hid q0
    clear h q0
    go_enter Try.func32, Try.ntmps32
    have Gb := Blk.new w 24 #[.int .i64 (n), .slice A m c]
    have hB := ba w (.cells #[.int .i64 (n), .slice A m c] 24)
    obtain ⟨c00, c01, c02, c03⟩ := Gb.open2
    go_wp2_with fail
    refine (check_c _ _ _ _ _ _ (T.keep hB) n1 n2).mono ?_
    rw [H.out]
    rintro e w1 ⟨rfl, hb⟩
    clear c00 c01 c02 c03
    replace Gb := Gb.keep hb
    replace hB := bt hB hb
    clear hb
    obtain ⟨c00, c01, c02, c03⟩ := Gb.open2
    go_wp2_with fail
    refine (node_c _ _ _ _ _ _).mono ?_
    rw [Q0.out]
    rintro e w2 ⟨rfl, hb⟩
    clear c00 c01 c02 c03
    replace Gb := Gb.keep hb
    replace hB := bt hB hb
    clear hb
    go_wp2_with fail
    go_returns
    exact ⟨ret_int HE.out.symm, hB⟩
  cases q1 : Ce.nd n b
  · have HE := Lib.hid (Ce.en_1 h (a := a) (b := b) (by rw [q0, q1]; rfl))
    have H := Lib.hid h
    have Q0 := Lib.hid q0
    have Q1 := Lib.hid q1
    clear h q0 q1
    go_enter Try.func32, Try.ntmps32
    have Gb := Blk.new w 24 #[.int .i64 (n), .slice A m c]
    have hB := ba w (.cells #[.int .i64 (n), .slice A m c] 24)
    obtain ⟨c00, c01, c02, c03⟩ := Gb.open2
    go_wp2_with fail
    refine (check_c _ _ _ _ _ _ (T.keep hB) n1 n2).mono ?_
    rw [H.out]
    rintro e w1 ⟨rfl, hb⟩
    clear c00 c01 c02 c03
    replace Gb := Gb.keep hb
    replace hB := bt hB hb
    clear hb
    obtain ⟨c00, c01, c02, c03⟩ := Gb.open2
    go_wp2_with fail
    refine (node_c _ _ _ _ _ _).mono ?_
    rw [Q0.out]
    rintro e w2 ⟨rfl, hb⟩
    clear c00 c01 c02 c03
    replace Gb := Gb.keep hb
    replace hB := bt hB hb
    clear hb
    obtain ⟨c00, c01, c02, c03⟩ := Gb.open2
    go_wp2_with fail
    refine (node_c _ _ _ _ _ _).mono ?_
    rw [Q1.out]
    rintro e w3 ⟨rfl, hb⟩
    clear c00 c01 c02 c03
    replace Gb := Gb.keep hb
    replace hB := bt hB hb
    clear hb
    go_wp2_with fail
    go_returns
    exact ⟨ret_int HE.out.symm, hB⟩
  · have HE := Lib.hid (Ce.en_0 h (a := a) (b := b) (by rw [q0, q1]; rfl))
    have H := Lib.hid h
    have Q0 := Lib.hid q0
    have Q1 := Lib.hid q1
    clear h q0 q1
    go_enter Try.func32, Try.ntmps32
    have Gb := Blk.new w 24 #[.int .i64 (n), .slice A m c]
    have hB := ba w (.cells #[.int .i64 (n), .slice A m c] 24)
    obtain ⟨c00, c01, c02, c03⟩ := Gb.open2
    go_wp2_with fail
    refine (check_c _ _ _ _ _ _ (T.keep hB) n1 n2).mono ?_
    rw [H.out]
    rintro e w1 ⟨rfl, hb⟩
    clear c00 c01 c02 c03
    replace Gb := Gb.keep hb
    replace hB := bt hB hb
    clear hb
    obtain ⟨c00, c01, c02, c03⟩ := Gb.open2
    go_wp2_with fail
    refine (node_c _ _ _ _ _ _).mono ?_
    rw [Q0.out]
    rintro e w2 ⟨rfl, hb⟩
    clear c00 c01 c02 c03
    replace Gb := Gb.keep hb
    replace hB := bt hB hb
    clear hb
    obtain ⟨c00, c01, c02, c03⟩ := Gb.open2
    go_wp2_with fail
    refine (node_c _ _ _ _ _ _).mono ?_
    rw [Q1.out]
    rintro e w3 ⟨rfl, hb⟩
    clear c00 c01 c02 c03
    replace Gb := Gb.keep hb
    replace hB := bt hB hb
    clear hb
    go_wp2_with fail
    go_returns
    exact ⟨ret_int HE.out.symm, hB⟩
end Go.Proofs.Ytbmfkncfenkjoaa
