/-
  The walk of CertificateProves.
-/
import Derived.Test.YtbmfkncfenkjoaaL8
import Derived.Test.YtbmfkncfenkjoaaPlain5
namespace Go.Proofs.Ytbmfkncfenkjoaa
set_option linter.unusedVariables false
set_option linter.unusedSimpArgs false
open Go.RowKit
attribute [local irreducible] World.setCell World.cell?

set_option maxRecDepth 100000 in
set_option maxHeartbeats 4000000 in
theorem law_proves (A : Option Addr) (n : Int) (m c : Nat) (E : Ce.Tab) (w : World) (T : Rd w 3 A m c (iv E)) (n1 : -9223372036854775808 ≤ n) (n2 : n ≤ 9223372036854775807) (a b : Int) (ha : -9223372036854775808 ≤ a ∧ a ≤ 9223372036854775807) (hb_ : -9223372036854775808 ≤ b ∧ b ≤ 9223372036854775807) : Calls Try.prog 7 #[.agg #[.int .i64 n, .slice A m c], .agg #[.int .i64 a, .int .i64 b]] w fun e w' => e = .returned (.bool true) ∧ Below w.heap.size w w' := by
  have r1 := T.le
  have r2 := T.mx
  by_cases h : Ce.en n m E a b = 0
  rotate_left
  · have h1 : (Ce.en n m E a b != 0) = true := by simpa using h
    by_cases h2 : Ce.en n m E a a = 0
    rotate_left
    · have h3 : (Ce.en n m E a a != 0) = true := by simpa using h2
      have H := Lib.hid h
      have H2 := Lib.hid h2
      clear h h2
      go_enter Try.func7, Try.ntmps7
      try simp only [List.append_eq, List.cons_append, List.nil_append]
      have Gb := Blk.new w 24 #[.int .i64 (n), .slice A m c]
      have hB := ba w (.cells #[.int .i64 (n), .slice A m c] 24)
      have Xb := Blk.new1 w (.cells #[.int .i64 (n), .slice A m c] 24) 26 #[.int .i64 (a), .int .i64 (b)]
      replace Gb := Gb.alloc (.cells #[.int .i64 (a), .int .i64 (b)] 26)
      replace hB := bal hB (.cells #[.int .i64 (a), .int .i64 (b)] 26)
      go_wp2_with fail
      refine (awake_c _).mono ?_
      rintro e w1 ⟨rfl, hb⟩
      replace Gb := Gb.keep hb
      replace Xb := Xb.keep hb
      replace hB := bt hB hb
      clear hb
      obtain ⟨c00, c01, c02, c03⟩ := Gb.open2
      obtain ⟨c10, c11, c12, c13⟩ := Xb.open2
      go_wp2_with fail
      refine (solve_no _ _ _ _ _ _ (T.keep hB) n1 n2 _ _ H.out).mono ?_
      rintro e w2 ⟨rfl, hb⟩
      clear c00 c01 c02 c03 c10 c11 c12 c13
      replace Gb := Gb.keep hb
      replace Xb := Xb.keep hb
      replace hB := bt hB hb
      clear hb
      obtain ⟨c00, c01, c02, c03⟩ := Gb.open2
      obtain ⟨c10, c11, c12, c13⟩ := Xb.open2
      go_wp2_with fail
      refine (pots_no _ _ _ _ _ _ (T.keep hB) n1 n2 _ H2.out).mono ?_
      rintro e w3 ⟨rfl, hb⟩
      clear c00 c01 c02 c03 c10 c11 c12 c13
      replace Gb := Gb.keep hb
      replace Xb := Xb.keep hb
      replace hB := bt hB hb
      clear hb
      obtain ⟨c00, c01, c02, c03⟩ := Xb.open2
      go_wp2_with fail
      go_returns
      exact ⟨rfl, hB⟩
    · have hN := Ce.en_ok.1 h2
      have H1 := Lib.hid (Ce.en_ab1 h2 h)
      have H := Lib.hid h
      clear h2 h h1
      obtain ⟨N, eN⟩ : ∃ N : Nat, n = (N : Int) := ⟨n.toNat, by have := hN.ok.n1; omega⟩
      obtain ⟨s, es⟩ : ∃ s : Nat, a = (s : Int) := ⟨a.toNat, by have := hN.a0; omega⟩
      subst eN es
      have O := hN.ok
      have hs : s < N := by have := hN.a1; omega
      go_enter Try.func7, Try.ntmps7
      try simp only [List.append_eq, List.cons_append, List.nil_append]
      have Gb := Blk.new w 24 #[.int .i64 (N), .slice A m c]
      have hB := ba w (.cells #[.int .i64 (N), .slice A m c] 24)
      have Xb := Blk.new1 w (.cells #[.int .i64 (N), .slice A m c] 24) 26 #[.int .i64 (s), .int .i64 (b)]
      replace Gb := Gb.alloc (.cells #[.int .i64 (s), .int .i64 (b)] 26)
      replace hB := bal hB (.cells #[.int .i64 (s), .int .i64 (b)] 26)
      go_wp2_with fail
      refine (awake_c _).mono ?_
      rintro e w1 ⟨rfl, hb⟩
      replace Gb := Gb.keep hb
      replace Xb := Xb.keep hb
      replace hB := bt hB hb
      clear hb
      obtain ⟨c00, c01, c02, c03⟩ := Gb.open2
      obtain ⟨c10, c11, c12, c13⟩ := Xb.open2
      go_wp2_with fail
      refine (solve_no _ _ _ _ _ _ (T.keep hB) n1 n2 _ _ H.out).mono ?_
      rw [H1.out]
      rintro e w2 ⟨rfl, hb⟩
      clear c00 c01 c02 c03 c10 c11 c12 c13
      replace Gb := Gb.keep hb
      replace Xb := Xb.keep hb
      replace hB := bt hB hb
      clear hb
      obtain ⟨c00, c01, c02, c03⟩ := Gb.open2
      obtain ⟨c10, c11, c12, c13⟩ := Xb.open2
      go_wp2_with fail
      refine (pots_ok _ N m c E s _ (T.keep hB) O hs).mono ?_
      rintro e w3 ⟨A3, c3, C2, D2, HL2, rfl, Q, hb⟩
      clear c00 c01 c02 c03 c10 c11 c12 c13
      replace Gb := Gb.keep hb
      replace Xb := Xb.keep hb
      replace hB := bt hB hb
      clear hb
      obtain ⟨c00, c01, c02, c03⟩ := Xb.open2
      go_wp2_with fail
      go_returns
      exact ⟨rfl, hB⟩
  have hN := Ce.en_ok.1 h
  clear h
  obtain ⟨N, eN⟩ : ∃ N : Nat, n = (N : Int) := ⟨n.toNat, by have := hN.ok.n1; omega⟩
  obtain ⟨s, es⟩ : ∃ s : Nat, a = (s : Int) := ⟨a.toNat, by have := hN.a0; omega⟩
  obtain ⟨t, et⟩ : ∃ t : Nat, b = (t : Int) := ⟨b.toNat, by have := hN.b0; omega⟩
  subst eN es et
  have O := hN.ok
  have hs : s < N := by have := hN.a1; omega
  have ht : t < N := by have := hN.b1; omega
  have o1 := O.n1
  have o2 := O.n2
  go_enter Try.func7, Try.ntmps7
  try simp only [List.append_eq, List.cons_append, List.nil_append]
  have Gb := Blk.new w 24 #[.int .i64 (N), .slice A m c]
  have hB := ba w (.cells #[.int .i64 (N), .slice A m c] 24)
  have Xb := Blk.new1 w (.cells #[.int .i64 (N), .slice A m c] 24) 26 #[.int .i64 (s), .int .i64 (t)]
  replace Gb := Gb.alloc (.cells #[.int .i64 (s), .int .i64 (t)] 26)
  replace hB := bal hB (.cells #[.int .i64 (s), .int .i64 (t)] 26)
  go_wp2_with fail
  refine (awake_c _).mono ?_
  rintro e w1 ⟨rfl, hb⟩
  replace Gb := Gb.keep hb
  replace Xb := Xb.keep hb
  replace hB := bt hB hb
  clear hb
  obtain ⟨c00, c01, c02, c03⟩ := Gb.open2
  obtain ⟨c10, c11, c12, c13⟩ := Xb.open2
  go_wp2_with fail
  refine (solve_c _ N m c E s _ (T.keep hB) O hs t ht).mono ?_
  rintro e w2 ⟨C, D, HL, hb, hres⟩
  clear c00 c01 c02 c03 c10 c11 c12 c13
  replace Gb := Gb.keep hb
  replace Xb := Xb.keep hb
  replace hB := bt hB hb
  clear hb
  rcases hres with ⟨hC, rfl⟩ | ⟨hC, A1, k1, A2, k2, rfl, R, P⟩
  · obtain ⟨c00, c01, c02, c03⟩ := Gb.open2
    obtain ⟨c10, c11, c12, c13⟩ := Xb.open2
    go_wp2_with fail
    refine (pots_ok _ N m c E s _ (T.keep hB) O hs).mono ?_
    rintro e w3 ⟨A3, c3, C2, D2, HL2, rfl, Q, hb⟩
    clear c00 c01 c02 c03 c10 c11 c12 c13
    replace Gb := Gb.keep hb
    replace Xb := Xb.keep hb
    replace hB := bt hB hb
    clear hb
    have hq := (HL.out.uniq O HL2.out ht).1
    have hm : C2 t = -1 := by rcases HL.out.rng t ht with q | q <;> omega
    clear hq
    obtain ⟨bb, off, eA, hbl, u0⟩ := Q.at1 ht
    have HA := Lib.hid eA
    rw [hm] at u0
    rw [HA.out]
    clear eA
    have i1 : (0 : Int) ≤ (t : Int) := by omega
    have i2 : (t : Int) < (N : Int) := by omega
    clear hm
    obtain ⟨c00, c01, c02, c03⟩ := Xb.open2
    go_wp2_with fail
    go_returns
    exact ⟨rfl, hB⟩
  · obtain ⟨c00, c01, c02, c03⟩ := Gb.open2
    obtain ⟨c10, c11, c12, c13⟩ := Xb.open2
    go_wp2_with fail
    refine (pots_ok _ N m c E s _ (T.keep hB) O hs).mono ?_
    rintro e w3 ⟨A3, c3, C2, D2, HL2, rfl, Q, hb⟩
    clear c00 c01 c02 c03 c10 c11 c12 c13
    replace Gb := Gb.keep hb
    replace Xb := Xb.keep hb
    replace R := R.keep hb
    replace P := P.keep hb
    replace hB := bt hB hb
    clear hb
    have hq := (HL.out.uniq O HL2.out ht).1
    obtain ⟨e1, e2, e3, e4, e5⟩ := Ce.prove_ok O HL.out hs ht hC
    have E1 := Lib.hid e1
    have E2 := Lib.hid e2
    have E5 := Lib.hid e5
    have HQ := Lib.hid hq.symm
    clear e1 e2 e3 e4 e5 hq
    obtain ⟨c00, c01, c02, c03⟩ := Gb.open2
    obtain ⟨c10, c11, c12, c13⟩ := Xb.open2
    go_wp2_with fail
    refine (cost_c _ _ _ _ _ _ (T.keep hB) n1 n2 _ _ _ _ _ _ R).mono ?_
    rw [E1.out, E2.out]
    rintro e w4 ⟨rfl, hb⟩
    clear c00 c01 c02 c03 c10 c11 c12 c13
    replace Gb := Gb.keep hb
    replace Xb := Xb.keep hb
    replace R := R.keep hb
    replace P := P.keep hb
    replace Q := Q.keep hb
    replace hB := bt hB hb
    clear hb
    obtain ⟨c00, c01, c02, c03⟩ := Gb.open2
    obtain ⟨c10, c11, c12, c13⟩ := Xb.open2
    go_wp2_with fail
    refine (accept_c _ _ _ _ _ _ (T.keep hB) n1 n2 _ _ _ _ _ _ P _ _ _ _ R).mono ?_
    rw [E5.out]
    rintro e w5 ⟨rfl, hb⟩
    clear c00 c01 c02 c03 c10 c11 c12 c13
    replace Gb := Gb.keep hb
    replace Xb := Xb.keep hb
    replace R := R.keep hb
    replace P := P.keep hb
    replace Q := Q.keep hb
    replace hB := bt hB hb
    clear hb
    obtain ⟨bb, off, eA, hbl, u0⟩ := Q.at1 ht
    have HA := Lib.hid eA
    rw [HQ.out] at u0
    rw [HA.out]
    clear eA
    have i1 : (0 : Int) ≤ (t : Int) := by omega
    have i2 : (t : Int) < (N : Int) := by omega
    obtain ⟨c00, c01, c02, c03⟩ := Xb.open2
    go_wp2_with fail
    go_returns
    exact ⟨rfl, hB⟩
end Go.Proofs.Ytbmfkncfenkjoaa
