/-
  Contracts: Accept, of both.
-/
import Derived.Test.YtbmfkncfenkjoaaW4
import Derived.Test.YtbmfkncfenkjoaaW5
import Derived.Test.YtbmfkncfenkjoaaW8
namespace Go.Proofs.Ytbmfkncfenkjoaa
set_option linter.unusedVariables false
set_option linter.unusedSimpArgs false
open Go.RowKit
attribute [local irreducible] World.setCell World.cell?

set_option maxRecDepth 100000 in
set_option maxHeartbeats 4000000 in
theorem accept_c (A : Option Addr) (n : Int) (m c : Nat) (E : Ce.Tab) (w : World) (T : Rd w 3 A m c (iv E)) (n1 : -9223372036854775808 ≤ n) (n2 : n ≤ 9223372036854775807) (a b : Int) (B : Option Addr) (l d : Nat) (P : Nat → Int) (U : Rd w 1 B l d (nv P)) (S : Option Addr) (r s : Nat) (R : Nat → Int) (V : Rd w 1 S r s (nv R)) : Calls Try.prog 20 #[.agg #[.int .i64 n, .slice A m c], .int .i64 a, .int .i64 b, .slice B l d, .slice S r s] w fun e w' => e = .returned (.int .i64 (Ce.acc n m E a b l P r R)) ∧ Below w.heap.size w w' := by
  have r1 := T.le
  have r2 := T.mx
  by_cases h : Ce.cer n m E a b r R = 0
  rotate_left
  · have h1 : (Ce.cer n m E a b r R != 0) = true := by simpa using h
    have HE := Lib.hid (show Ce.acc n m E a b l P r R = Ce.cer n m E a b r R from if_pos h)
    clear h
    go_enter Try.func20, Try.ntmps20
    have Gb := Blk.new w 24 #[.int .i64 (n), .slice A m c]
    have hB := ba w (.cells #[.int .i64 (n), .slice A m c] 24)
    obtain ⟨c00, c01, c02, c03⟩ := Gb.open2
    go_wp2_with fail
    refine (cost_c _ _ _ _ _ _ (T.keep hB) n1 n2 _ _ _ _ _ _ (V.keep hB)).mono ?_
    rintro e w1 ⟨rfl, hb⟩
    clear c00 c01 c02 c03
    replace Gb := Gb.keep hb
    replace hB := bt hB hb
    clear hb
    go_wp2_with fail
    go_returns
    exact ⟨ret_int HE.out.symm, hB⟩
  have hd : ¬ Ce.cer n m E a b r R ≠ 0 := by omega
  have H := Lib.hid h
  clear h
  by_cases hv : Ce.ber n m E a b l P = 0
  rotate_left
  · have h1 : (Ce.ber n m E a b l P != 0) = true := by simpa using hv
    have HE := Lib.hid (show Ce.acc n m E a b l P r R = Ce.ber n m E a b l P by unfold Ce.acc; rw [if_neg hd, if_pos hv])
    clear hv hd
    go_enter Try.func20, Try.ntmps20
    have Gb := Blk.new w 24 #[.int .i64 (n), .slice A m c]
    have hB := ba w (.cells #[.int .i64 (n), .slice A m c] 24)
    obtain ⟨c00, c01, c02, c03⟩ := Gb.open2
    go_wp2_with fail
    refine (cost_c _ _ _ _ _ _ (T.keep hB) n1 n2 _ _ _ _ _ _ (V.keep hB)).mono ?_
    rw [H.out]
    rintro e w1 ⟨rfl, hb⟩
    clear c00 c01 c02 c03
    replace Gb := Gb.keep hb
    replace hB := bt hB hb
    clear hb
    obtain ⟨c00, c01, c02, c03⟩ := Gb.open2
    go_wp2_with fail
    refine (bound_c _ _ _ _ _ _ (T.keep hB) n1 n2 _ _ _ _ _ _ (U.keep hB)).mono ?_
    rintro e w2 ⟨rfl, hb⟩
    clear c00 c01 c02 c03
    replace Gb := Gb.keep hb
    replace hB := bt hB hb
    clear hb
    go_wp2_with fail
    go_returns
    exact ⟨ret_int HE.out.symm, hB⟩
  have hd2 : ¬ Ce.ber n m E a b l P ≠ 0 := by omega
  have HV := Lib.hid hv
  clear hv
  by_cases hc : Ce.bnd n m E a b l P < Ce.cst n m E a b r R
  · have HE := Lib.hid (show Ce.acc n m E a b l P r R = 11 by unfold Ce.acc; rw [if_neg hd, if_neg hd2, if_pos (by omega)])
    clear hd hd2
    go_enter Try.func20, Try.ntmps20
    have Gb := Blk.new w 24 #[.int .i64 (n), .slice A m c]
    have hB := ba w (.cells #[.int .i64 (n), .slice A m c] 24)
    obtain ⟨c00, c01, c02, c03⟩ := Gb.open2
    go_wp2_with fail
    refine (cost_c _ _ _ _ _ _ (T.keep hB) n1 n2 _ _ _ _ _ _ (V.keep hB)).mono ?_
    rw [H.out]
    rintro e w1 ⟨rfl, hb⟩
    clear c00 c01 c02 c03
    replace Gb := Gb.keep hb
    replace hB := bt hB hb
    clear hb
    obtain ⟨c00, c01, c02, c03⟩ := Gb.open2
    go_wp2_with fail
    refine (bound_c _ _ _ _ _ _ (T.keep hB) n1 n2 _ _ _ _ _ _ (U.keep hB)).mono ?_
    rw [HV.out]
    rintro e w2 ⟨rfl, hb⟩
    clear c00 c01 c02 c03
    replace Gb := Gb.keep hb
    replace hB := bt hB hb
    clear hb
    go_wp2_with fail
    go_returns
    exact ⟨ret_int HE.out.symm, hB⟩
  · have HE := Lib.hid (show Ce.acc n m E a b l P r R = 0 by unfold Ce.acc; rw [if_neg hd, if_neg hd2, if_neg (by omega)])
    clear hd hd2
    go_enter Try.func20, Try.ntmps20
    have Gb := Blk.new w 24 #[.int .i64 (n), .slice A m c]
    have hB := ba w (.cells #[.int .i64 (n), .slice A m c] 24)
    obtain ⟨c00, c01, c02, c03⟩ := Gb.open2
    go_wp2_with fail
    refine (cost_c _ _ _ _ _ _ (T.keep hB) n1 n2 _ _ _ _ _ _ (V.keep hB)).mono ?_
    rw [H.out]
    rintro e w1 ⟨rfl, hb⟩
    clear c00 c01 c02 c03
    replace Gb := Gb.keep hb
    replace hB := bt hB hb
    clear hb
    obtain ⟨c00, c01, c02, c03⟩ := Gb.open2
    go_wp2_with fail
    refine (bound_c _ _ _ _ _ _ (T.keep hB) n1 n2 _ _ _ _ _ _ (U.keep hB)).mono ?_
    rw [HV.out]
    rintro e w2 ⟨rfl, hb⟩
    clear c00 c01 c02 c03
    replace Gb := Gb.keep hb
    replace hB := bt hB hb
    clear hb
    go_wp2_with fail
    go_returns
    exact ⟨ret_int HE.out.symm, hB⟩
set_option maxRecDepth 100000 in
set_option maxHeartbeats 4000000 in
theorem raccept_c (A : Option Addr) (n : Int) (m c : Nat) (E : Ce.Tab) (w : World) (T : Rd w 3 A m c (iv E)) (n1 : -9223372036854775808 ≤ n) (n2 : n ≤ 9223372036854775807) (a b : Int) (B : Option Addr) (l d : Nat) (P : Nat → Int) (U : Rd w 1 B l d (nv P)) (S : Option Addr) (r s : Nat) (R : Nat → Int) (V : Rd w 1 S r s (nv R)) : Calls Try.prog 21 #[.agg #[.int .i64 n, .slice A m c], .int .i64 a, .int .i64 b, .slice B l d, .slice S r s] w fun e w' => e = .returned (.int .i64 (Ce.acc n m E a b l P r R)) ∧ Below w.heap.size w w' := by
  have r1 := T.le
  have r2 := T.mx
  by_cases h : Ce.cer n m E a b r R = 0
  rotate_left
  · have h1 : (Ce.cer n m E a b r R != 0) = true := by simpa using h
    have HE := Lib.hid (show Ce.acc n m E a b l P r R = Ce.cer n m E a b r R from if_pos h)
    clear h
    go_enter Try.func21, Try.ntmps21
    have Gb := Blk.new w 24 #[.int .i64 (n), .slice A m c]
    have hB := ba w (.cells #[.int .i64 (n), .slice A m c] 24)
    obtain ⟨c00, c01, c02, c03⟩ := Gb.open2
    go_wp2_with fail
    refine (rcost_c _ _ _ _ _ _ (T.keep hB) n1 n2 _ _ _ _ _ _ (V.keep hB)).mono ?_
    rintro e w1 ⟨rfl, hb⟩
    clear c00 c01 c02 c03
    replace Gb := Gb.keep hb
    replace hB := bt hB hb
    clear hb
    go_wp2_with fail
    go_returns
    exact ⟨ret_int HE.out.symm, hB⟩
  have hd : ¬ Ce.cer n m E a b r R ≠ 0 := by omega
  have H := Lib.hid h
  clear h
  by_cases hv : Ce.ber n m E a b l P = 0
  rotate_left
  · have h1 : (Ce.ber n m E a b l P != 0) = true := by simpa using hv
    have HE := Lib.hid (show Ce.acc n m E a b l P r R = Ce.ber n m E a b l P by unfold Ce.acc; rw [if_neg hd, if_pos hv])
    clear hv hd
    go_enter Try.func21, Try.ntmps21
    have Gb := Blk.new w 24 #[.int .i64 (n), .slice A m c]
    have hB := ba w (.cells #[.int .i64 (n), .slice A m c] 24)
    obtain ⟨c00, c01, c02, c03⟩ := Gb.open2
    go_wp2_with fail
    refine (rcost_c _ _ _ _ _ _ (T.keep hB) n1 n2 _ _ _ _ _ _ (V.keep hB)).mono ?_
    rw [H.out]
    rintro e w1 ⟨rfl, hb⟩
    clear c00 c01 c02 c03
    replace Gb := Gb.keep hb
    replace hB := bt hB hb
    clear hb
    obtain ⟨c00, c01, c02, c03⟩ := Gb.open2
    go_wp2_with fail
    refine (rbound_c _ _ _ _ _ _ (T.keep hB) n1 n2 _ _ _ _ _ _ (U.keep hB)).mono ?_
    rintro e w2 ⟨rfl, hb⟩
    clear c00 c01 c02 c03
    replace Gb := Gb.keep hb
    replace hB := bt hB hb
    clear hb
    go_wp2_with fail
    go_returns
    exact ⟨ret_int HE.out.symm, hB⟩
  have hd2 : ¬ Ce.ber n m E a b l P ≠ 0 := by omega
  have HV := Lib.hid hv
  clear hv
  by_cases hc : Ce.bnd n m E a b l P < Ce.cst n m E a b r R
  · have HE := Lib.hid (show Ce.acc n m E a b l P r R = 11 by unfold Ce.acc; rw [if_neg hd, if_neg hd2, if_pos (by omega)])
    clear hd hd2
    go_enter Try.func21, Try.ntmps21
    have Gb := Blk.new w 24 #[.int .i64 (n), .slice A m c]
    have hB := ba w (.cells #[.int .i64 (n), .slice A m c] 24)
    obtain ⟨c00, c01, c02, c03⟩ := Gb.open2
    go_wp2_with fail
    refine (rcost_c _ _ _ _ _ _ (T.keep hB) n1 n2 _ _ _ _ _ _ (V.keep hB)).mono ?_
    rw [H.out]
    rintro e w1 ⟨rfl, hb⟩
    clear c00 c01 c02 c03
    replace Gb := Gb.keep hb
    replace hB := bt hB hb
    clear hb
    obtain ⟨c00, c01, c02, c03⟩ := Gb.open2
    go_wp2_with fail
    refine (rbound_c _ _ _ _ _ _ (T.keep hB) n1 n2 _ _ _ _ _ _ (U.keep hB)).mono ?_
    rw [HV.out]
    rintro e w2 ⟨rfl, hb⟩
    clear c00 c01 c02 c03
    replace Gb := Gb.keep hb
    replace hB := bt hB hb
    clear hb
    go_wp2_with fail
    go_returns
    exact ⟨ret_int HE.out.symm, hB⟩
  · have HE := Lib.hid (show Ce.acc n m E a b l P r R = 0 by unfold Ce.acc; rw [if_neg hd, if_neg hd2, if_neg (by omega)])
    clear hd hd2
    go_enter Try.func21, Try.ntmps21
    have Gb := Blk.new w 24 #[.int .i64 (n), .slice A m c]
    have hB := ba w (.cells #[.int .i64 (n), .slice A m c] 24)
    obtain ⟨c00, c01, c02, c03⟩ := Gb.open2
    go_wp2_with fail
    refine (rcost_c _ _ _ _ _ _ (T.keep hB) n1 n2 _ _ _ _ _ _ (V.keep hB)).mono ?_
    rw [H.out]
    rintro e w1 ⟨rfl, hb⟩
    clear c00 c01 c02 c03
    replace Gb := Gb.keep hb
    replace hB := bt hB hb
    clear hb
    obtain ⟨c00, c01, c02, c03⟩ := Gb.open2
    go_wp2_with fail
    refine (rbound_c _ _ _ _ _ _ (T.keep hB) n1 n2 _ _ _ _ _ _ (U.keep hB)).mono ?_
    rw [HV.out]
    rintro e w2 ⟨rfl, hb⟩
    clear c00 c01 c02 c03
    replace Gb := Gb.keep hb
    replace hB := bt hB hb
    clear hb
    go_wp2_with fail
    go_returns
    exact ⟨ret_int HE.out.symm, hB⟩
end Go.Proofs.Ytbmfkncfenkjoaa
