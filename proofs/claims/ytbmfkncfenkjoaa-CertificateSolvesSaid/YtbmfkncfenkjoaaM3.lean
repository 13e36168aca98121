/-
  The walk of CertificateSolves.
-/
import Derived.Test.YtbmfkncfenkjoaaL8
import Derived.Test.YtbmfkncfenkjoaaR3
import Derived.Test.YtbmfkncfenkjoaaPlain5
namespace Go.Proofs.Ytbmfkncfenkjoaa
set_option linter.unusedVariables false
set_option linter.unusedSimpArgs false
open Go.RowKit
attribute [local irreducible] World.setCell World.cell?

set_option maxRecDepth 100000 in
set_option maxHeartbeats 4000000 in
theorem law_solves (A : Option Addr) (n : Int) (m c : Nat) (E : Ce.Tab) (w : World) (T : Rd w 3 A m c (iv E)) (n1 : -9223372036854775808 ≤ n) (n2 : n ≤ 9223372036854775807) (a b : Int) (ha : -9223372036854775808 ≤ a ∧ a ≤ 9223372036854775807) (hb_ : -9223372036854775808 ≤ b ∧ b ≤ 9223372036854775807) : Calls Try.prog 6 #[.agg #[.int .i64 n, .slice A m c], .agg #[.int .i64 a, .int .i64 b]] w fun e w' => e = .returned (.bool true) ∧ Below w.heap.size w w' := by
  have r1 := T.le
  have r2 := T.mx
  have F0 := Lib.hid (show eqL 0 (fun _ => 0) 0 (fun _ => 0) = true from decide_eq_true ⟨rfl, fun _ h => absurd h (Nat.not_lt_zero _)⟩)
  by_cases h : Ce.en n m E a b = 0
  rotate_left
  · by_cases h2 : Ce.en n m E a a = 0
    rotate_left
    · have e1 : (Ce.en n m E a a != Ce.en n m E a a) = false := by simp
      have e2 : (Ce.en n m E a b == Ce.en n m E a b) = true := by simp
      have H := Lib.hid h
      have H2 := Lib.hid h2
      clear h h2
      go_enter Try.func6, Try.ntmps6
      try simp only [List.append_eq, List.cons_append, List.nil_append]
      have Gb := Blk.new w 24 #[.int .i64 (n), .slice A m c]
      have hB := ba w (.cells #[.int .i64 (n), .slice A m c] 24)
      have Xb := Blk.new1 w (.cells #[.int .i64 (n), .slice A m c] 24) 26 #[.int .i64 (a), .int .i64 (b)]
      replace Gb := Gb.alloc (.cells #[.int .i64 (a), .int .i64 (b)] 26)
      replace hB := bal hB (.cells #[.int .i64 (a), .int .i64 (b)] 26)
      go_wp2_with fail
      refine (awake_c _).mono ?_
      rintro e w1 ⟨rfl, hb⟩
      replace Gb := Gb.keep hb
      replace Xb := Xb.keep hb
      replace hB := bt hB hb
      clear hb
      obtain ⟨c00, c01, c02, c03⟩ := Gb.open2
      obtain ⟨c10, c11, c12, c13⟩ := Xb.open2
      go_wp2_with fail
      refine (pots_no _ _ _ _ _ _ (T.keep hB) n1 n2 _ H2.out).mono ?_
      rintro e w2 ⟨rfl, hb⟩
      clear c00 c01 c02 c03 c10 c11 c12 c13
      replace Gb := Gb.keep hb
      replace Xb := Xb.keep hb
      replace hB := bt hB hb
      clear hb
      obtain ⟨c00, c01, c02, c03⟩ := Gb.open2
      obtain ⟨c10, c11, c12, c13⟩ := Xb.open2
      go_wp2_with fail
      refine (rpots_no _ _ _ _ _ _ (T.keep hB) n1 n2 _ H2.out).mono ?_
      rintro e w3 ⟨rfl, hb⟩
      clear c00 c01 c02 c03 c10 c11 c12 c13
      replace Gb := Gb.keep hb
      replace Xb := Xb.keep hb
      replace hB := bt hB hb
      clear hb
      go_wp2_with fail
      refine (list_c _ _ _ (fun _ => 0) _ _ _ (fun _ => 0) _ (Rd.nil _ _ (nv fun _ => 0)) (Rd.nil _ _ (nv fun _ => 0))).mono ?_
      rw [F0.out]
      rintro e w4 ⟨rfl, hb⟩
      replace Gb := Gb.keep hb
      replace Xb := Xb.keep hb
      replace hB := bt hB hb
      clear hb
      obtain ⟨c00, c01, c02, c03⟩ := Gb.open2
      obtain ⟨c10, c11, c12, c13⟩ := Xb.open2
      go_wp2_with fail
      refine (solve_no _ _ _ _ _ _ (T.keep hB) n1 n2 _ _ H.out).mono ?_
      rintro e w5 ⟨rfl, hb⟩
      clear c00 c01 c02 c03 c10 c11 c12 c13
      replace Gb := Gb.keep hb
      replace Xb := Xb.keep hb
      replace hB := bt hB hb
      clear hb
      obtain ⟨c00, c01, c02, c03⟩ := Gb.open2
      obtain ⟨c10, c11, c12, c13⟩ := Xb.open2
      go_wp2_with fail
      refine (rsolve_no _ _ _ _ _ _ (T.keep hB) n1 n2 _ _ H.out).mono ?_
      rintro e w6 ⟨rfl, hb⟩
      clear c00 c01 c02 c03 c10 c11 c12 c13
      replace Gb := Gb.keep hb
      replace Xb := Xb.keep hb
      replace hB := bt hB hb
      clear hb
      go_wp2_with fail
      refine (routes_c _ _ _ (fun _ => 0) _ _ _ (fun _ => 0) _ (Rd.nil _ _ (nv fun _ => 0)) (Rd.nil _ _ (nv fun _ => 0))).mono ?_
      rw [F0.out]
      rintro e w7 ⟨rfl, hb⟩
      replace Gb := Gb.keep hb
      replace Xb := Xb.keep hb
      replace hB := bt hB hb
      clear hb
      go_wp2_with fail
      refine (list_c _ _ _ (fun _ => 0) _ _ _ (fun _ => 0) _ (Rd.nil _ _ (nv fun _ => 0)) (Rd.nil _ _ (nv fun _ => 0))).mono ?_
      rw [F0.out]
      rintro e w8 ⟨rfl, hb⟩
      replace Gb := Gb.keep hb
      replace Xb := Xb.keep hb
      replace hB := bt hB hb
      clear hb
      go_wp2_with fail
      go_returns
      exact ⟨rfl, hB⟩
    · have hN := Ce.en_ok.1 h2
      have H1 := Lib.hid (Ce.en_ab1 h2 h)
      have H := Lib.hid h
      clear h2 h
      obtain ⟨N, eN⟩ : ∃ N : Nat, n = (N : Int) := ⟨n.toNat, by have := hN.ok.n1; omega⟩
      obtain ⟨s, es⟩ : ∃ s : Nat, a = (s : Int) := ⟨a.toNat, by have := hN.a0; omega⟩
      subst eN es
      have O := hN.ok
      have hs : s < N := by have := hN.a1; omega
      go_enter Try.func6, Try.ntmps6
      try simp only [List.append_eq, List.cons_append, List.nil_append]
      have Gb := Blk.new w 24 #[.int .i64 (N), .slice A m c]
      have hB := ba w (.cells #[.int .i64 (N), .slice A m c] 24)
      have Xb := Blk.new1 w (.cells #[.int .i64 (N), .slice A m c] 24) 26 #[.int .i64 (s), .int .i64 (b)]
      replace Gb := Gb.alloc (.cells #[.int .i64 (s), .int .i64 (b)] 26)
      replace hB := bal hB (.cells #[.int .i64 (s), .int .i64 (b)] 26)
      go_wp2_with fail
      refine (awake_c _).mono ?_
      rintro e w1 ⟨rfl, hb⟩
      replace Gb := Gb.keep hb
      replace Xb := Xb.keep hb
      replace hB := bt hB hb
      clear hb
      obtain ⟨c00, c01, c02, c03⟩ := Gb.open2
      obtain ⟨c10, c11, c12, c13⟩ := Xb.open2
      go_wp2_with fail
      refine (pots_ok _ N m c E s _ (T.keep hB) O hs).mono ?_
      rintro e w2 ⟨A3, c3, C2, D2, HL2, rfl, Q, hb⟩
      clear c00 c01 c02 c03 c10 c11 c12 c13
      replace Gb := Gb.keep hb
      replace Xb := Xb.keep hb
      replace hB := bt hB hb
      clear hb
      obtain ⟨c00, c01, c02, c03⟩ := Gb.open2
      obtain ⟨c10, c11, c12, c13⟩ := Xb.open2
      go_wp2_with fail
      refine (rpots_ok _ N m c E s _ (T.keep hB) O hs).mono ?_
      rintro e w3 ⟨A4, c4, C3, D3, HL3, rfl, Q3, hb⟩
      clear c00 c01 c02 c03 c10 c11 c12 c13
      replace Gb := Gb.keep hb
      replace Xb := Xb.keep hb
      replace Q := Q.keep hb
      replace hB := bt hB hb
      clear hb
      have F1 := Lib.hid (show eqL N C2 N C3 = true from decide_eq_true ⟨rfl, fun i hi => (HL2.out.uniq O HL3.out hi).1⟩)
      go_wp2_with fail
      refine (list_c _ _ _ _ _ _ _ _ _ Q Q3).mono ?_
      rw [F1.out]
      rintro e w4 ⟨rfl, hb⟩
      replace Gb := Gb.keep hb
      replace Xb := Xb.keep hb
      replace Q := Q.keep hb
      replace Q3 := Q3.keep hb
      replace hB := bt hB hb
      clear hb
      obtain ⟨c00, c01, c02, c03⟩ := Gb.open2
      obtain ⟨c10, c11, c12, c13⟩ := Xb.open2
      go_wp2_with fail
      refine (solve_no _ _ _ _ _ _ (T.keep hB) n1 n2 _ _ H.out).mono ?_
      rw [H1.out]
      rintro e w5 ⟨rfl, hb⟩
      clear c00 c01 c02 c03 c10 c11 c12 c13
      replace Gb := Gb.keep hb
      replace Xb := Xb.keep hb
      replace Q := Q.keep hb
      replace Q3 := Q3.keep hb
      replace hB := bt hB hb
      clear hb
      obtain ⟨c00, c01, c02, c03⟩ := Gb.open2
      obtain ⟨c10, c11, c12, c13⟩ := Xb.open2
      go_wp2_with fail
      refine (rsolve_no _ _ _ _ _ _ (T.keep hB) n1 n2 _ _ H.out).mono ?_
      rw [H1.out]
      rintro e w6 ⟨rfl, hb⟩
      clear c00 c01 c02 c03 c10 c11 c12 c13
      replace Gb := Gb.keep hb
      replace Xb := Xb.keep hb
      replace Q := Q.keep hb
      replace Q3 := Q3.keep hb
      replace hB := bt hB hb
      clear hb
      go_wp2_with fail
      refine (routes_c _ _ _ (fun _ => 0) _ _ _ (fun _ => 0) _ (Rd.nil _ _ (nv fun _ => 0)) (Rd.nil _ _ (nv fun _ => 0))).mono ?_
      rw [F0.out]
      rintro e w7 ⟨rfl, hb⟩
      replace Gb := Gb.keep hb
      replace Xb := Xb.keep hb
      replace Q := Q.keep hb
      replace Q3 := Q3.keep hb
      replace hB := bt hB hb
      clear hb
      go_wp2_with fail
      refine (list_c _ _ _ (fun _ => 0) _ _ _ (fun _ => 0) _ (Rd.nil _ _ (nv fun _ => 0)) (Rd.nil _ _ (nv fun _ => 0))).mono ?_
      rw [F0.out]
      rintro e w8 ⟨rfl, hb⟩
      replace Gb := Gb.keep hb
      replace Xb := Xb.keep hb
      replace Q := Q.keep hb
      replace Q3 := Q3.keep hb
      replace hB := bt hB hb
      clear hb
      go_wp2_with fail
      go_returns
      exact ⟨rfl, hB⟩
  have hN := Ce.en_ok.1 h
  clear h
  obtain ⟨N, eN⟩ : ∃ N : Nat, n = (N : Int) := ⟨n.toNat, by have := hN.ok.n1; omega⟩
  obtain ⟨s, es⟩ : ∃ s : Nat, a = (s : Int) := ⟨a.toNat, by have := hN.a0; omega⟩
  obtain ⟨t, et⟩ : ∃ t : Nat, b = (t : Int) := ⟨b.toNat, by have := hN.b0; omega⟩
  subst eN es et
  have O := hN.ok
  have hs : s < N := by have := hN.a1; omega
  have ht : t < N := by have := hN.b1; omega
  have o1 := O.n1
  have o2 := O.n2
  go_enter Try.func6, Try.ntmps6
  try simp only [List.append_eq, List.cons_append, List.nil_append]
  have Gb := Blk.new w 24 #[.int .i64 (N), .slice A m c]
  have hB := ba w (.cells #[.int .i64 (N), .slice A m c] 24)
  have Xb := Blk.new1 w (.cells #[.int .i64 (N), .slice A m c] 24) 26 #[.int .i64 (s), .int .i64 (t)]
  replace Gb := Gb.alloc (.cells #[.int .i64 (s), .int .i64 (t)] 26)
  replace hB := bal hB (.cells #[.int .i64 (s), .int .i64 (t)] 26)
  go_wp2_with fail
  refine (awake_c _).mono ?_
  rintro e w1 ⟨rfl, hb⟩
  replace Gb := Gb.keep hb
  replace Xb := Xb.keep hb
  replace hB := bt hB hb
  clear hb
  obtain ⟨c00, c01, c02, c03⟩ := Gb.open2
  obtain ⟨c10, c11, c12, c13⟩ := Xb.open2
  go_wp2_with fail
  refine (pots_ok _ N m c E s _ (T.keep hB) O hs).mono ?_
  rintro e w2 ⟨A3, c3, C2, D2, HL2, rfl, Q, hb⟩
  clear c00 c01 c02 c03 c10 c11 c12 c13
  replace Gb := Gb.keep hb
  replace Xb := Xb.keep hb
  replace hB := bt hB hb
  clear hb
  obtain ⟨c00, c01, c02, c03⟩ := Gb.open2
  obtain ⟨c10, c11, c12, c13⟩ := Xb.open2
  go_wp2_with fail
  refine (rpots_ok _ N m c E s _ (T.keep hB) O hs).mono ?_
  rintro e w3 ⟨A4, c4, C3, D3, HL3, rfl, Q3, hb⟩
  clear c00 c01 c02 c03 c10 c11 c12 c13
  replace Gb := Gb.keep hb
  replace Xb := Xb.keep hb
  replace Q := Q.keep hb
  replace hB := bt hB hb
  clear hb
  have F1 := Lib.hid (show eqL N C2 N C3 = true from decide_eq_true ⟨rfl, fun i hi => (HL2.out.uniq O HL3.out hi).1⟩)
  go_wp2_with fail
  refine (list_c _ _ _ _ _ _ _ _ _ Q Q3).mono ?_
  rw [F1.out]
  rintro e w4 ⟨rfl, hb⟩
  replace Gb := Gb.keep hb
  replace Xb := Xb.keep hb
  replace Q := Q.keep hb
  replace Q3 := Q3.keep hb
  replace hB := bt hB hb
  clear hb
  obtain ⟨c00, c01, c02, c03⟩ := Gb.open2
  obtain ⟨c10, c11, c12, c13⟩ := Xb.open2
  go_wp2_with fail
  refine (solve_c _ N m c E s _ (T.keep hB) O hs t ht).mono ?_
  rintro e w5 ⟨C, D, HL, hb, hres⟩
  clear c00 c01 c02 c03 c10 c11 c12 c13
  replace Gb := Gb.keep hb
  replace Xb := Xb.keep hb
  replace Q := Q.keep hb
  replace Q3 := Q3.keep hb
  replace hB := bt hB hb
  clear hb
  rcases hres with ⟨hC, rfl⟩ | ⟨hC, A5, k5, A6, k6, rfl, R, P⟩
  · obtain ⟨c00, c01, c02, c03⟩ := Gb.open2
    obtain ⟨c10, c11, c12, c13⟩ := Xb.open2
    go_wp2_with fail
    refine (rsolve_c _ N m c E s _ (T.keep hB) O hs t ht).mono ?_
    rintro e w6 ⟨C', D', HL', hb, hres'⟩
    clear c00 c01 c02 c03 c10 c11 c12 c13
    replace Gb := Gb.keep hb
    replace Xb := Xb.keep hb
    replace Q := Q.keep hb
    replace Q3 := Q3.keep hb
    replace hB := bt hB hb
    clear hb
    have hq := (HL.out.uniq O HL'.out ht).1
    rcases hres' with ⟨hC', rfl⟩ | ⟨hC', _⟩
    rotate_left
    · exfalso; omega
    clear hq
    go_wp2_with fail
    refine (routes_c _ _ _ (fun _ => 0) _ _ _ (fun _ => 0) _ (Rd.nil _ _ (nv fun _ => 0)) (Rd.nil _ _ (nv fun _ => 0))).mono ?_
    rw [F0.out]
    rintro e w7 ⟨rfl, hb⟩
    replace Gb := Gb.keep hb
    replace Xb := Xb.keep hb
    replace Q := Q.keep hb
    replace Q3 := Q3.keep hb
    replace hB := bt hB hb
    clear hb
    go_wp2_with fail
    refine (list_c _ _ _ (fun _ => 0) _ _ _ (fun _ => 0) _ (Rd.nil _ _ (nv fun _ => 0)) (Rd.nil _ _ (nv fun _ => 0))).mono ?_
    rw [F0.out]
    rintro e w8 ⟨rfl, hb⟩
    replace Gb := Gb.keep hb
    replace Xb := Xb.keep hb
    replace Q := Q.keep hb
    replace Q3 := Q3.keep hb
    replace hB := bt hB hb
    clear hb
    go_wp2_with fail
    go_returns
    exact ⟨rfl, hB⟩
  · obtain ⟨c00, c01, c02, c03⟩ := Gb.open2
    obtain ⟨c10, c11, c12, c13⟩ := Xb.open2
    go_wp2_with fail
    refine (rsolve_c _ N m c E s _ (T.keep hB) O hs t ht).mono ?_
    rintro e w6 ⟨C', D', HL', hb, hres'⟩
    clear c00 c01 c02 c03 c10 c11 c12 c13
    replace Gb := Gb.keep hb
    replace Xb := Xb.keep hb
    replace R := R.keep hb
    replace P := P.keep hb
    replace hB := bt hB hb
    clear hb
    have hq := HL.out.uniq O HL'.out ht
    rcases hres' with ⟨hC', _⟩ | ⟨hC', A7, k7, A8, k8, rfl, R', P'⟩
    · exfalso; omega
    have hdd : (D' t).toNat = (D t).toNat := by rw [hq.2 hC]
    rw [hdd] at R'
    have F2 := Lib.hid (show eqL (D t).toNat (Ce.rt m E C D t) (D t).toNat (Ce.rt m E C' D' t) = true from decide_eq_true ⟨rfl, fun i hi => Ce.rt_congr O HL.out HL'.out (b := (t : Int)) (by omega) (by omega) (by simpa using hC) (by simpa using hi)⟩)
    have F3 := Lib.hid (show eqL N (Ce.pot N C) N (Ce.pot N C') = true from decide_eq_true ⟨rfl, fun i hi => Ce.pot_congr O HL.out HL'.out hi⟩)
    rw [hdd]
    clear hq hdd
    go_wp2_with fail
    refine (routes_c _ _ _ _ _ _ _ _ _ R R').mono ?_
    rw [F2.out]
    rintro e w7 ⟨rfl, hb⟩
    replace Gb := Gb.keep hb
    replace Xb := Xb.keep hb
    replace R := R.keep hb
    replace P := P.keep hb
    replace R' := R'.keep hb
    replace P' := P'.keep hb
    replace hB := bt hB hb
    clear hb
    go_wp2_with fail
    refine (list_c _ _ _ _ _ _ _ _ _ P P').mono ?_
    rw [F3.out]
    rintro e w8 ⟨rfl, hb⟩
    replace Gb := Gb.keep hb
    replace Xb := Xb.keep hb
    replace R := R.keep hb
    replace P := P.keep hb
    replace R' := R'.keep hb
    replace P' := P'.keep hb
    replace hB := bt hB hb
    clear hb
    go_wp2_with fail
    go_returns
    exact ⟨rfl, hB⟩
end Go.Proofs.Ytbmfkncfenkjoaa
