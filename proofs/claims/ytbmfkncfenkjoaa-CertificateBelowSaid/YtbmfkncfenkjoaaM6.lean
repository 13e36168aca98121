/-
  The walk of CertificateBelow.
-/
import Derived.Test.YtbmfkncfenkjoaaM5
namespace Go.Proofs.Ytbmfkncfenkjoaa
set_option linter.unusedVariables false
set_option linter.unusedSimpArgs false
open Go.RowKit
attribute [local irreducible] World.setCell World.cell?

set_option maxRecDepth 100000 in
set_option maxHeartbeats 4000000 in
theorem law_below (A : Option Addr) (n : Int) (m c : Nat) (E : Ce.Tab) (w : World) (T : Rd w 3 A m c (iv E)) (n1 : -9223372036854775808 ≤ n) (n2 : n ≤ 9223372036854775807) (a : Int) (ha : -9223372036854775808 ≤ a ∧ a ≤ 9223372036854775807) (B : Option Addr) (lp d : Nat) (Pk : Nat → Int) (U : Rd w 1 B lp d (bv Pk)) (hp : ∀ i, i < lp → 0 ≤ Pk i ∧ Pk i ≤ 255) (S : Option Addr) (l k : Nat) (P : Nat → Int) (V : Rd w 1 S l k (nv P)) : Calls Try.prog 9 #[.agg #[.int .i64 n, .slice A m c], .agg #[.int .i64 a, .slice B lp d, .slice S l k]] w fun e w' => e = .returned (.bool true) ∧ Below w.heap.size w w' := by
  have r1 := T.le
  have r2 := T.mx
  by_cases h : Ce.ver n m E l P = 0
  rotate_left
  · have h3 : (Ce.ver n m E l P != 0) = true := by simpa using h
    have HX := Lib.hid (Ce.vix_no h)
    clear h
    go_enter Try.func9, Try.ntmps9
    try simp only [List.append_eq, List.cons_append, List.nil_append]
    have Gb := Blk.new w 24 #[.int .i64 (n), .slice A m c]
    have hB := ba w (.cells #[.int .i64 (n), .slice A m c] 24)
    have Wb := Blk.new1 w (.cells #[.int .i64 (n), .slice A m c] 24) 55 #[.int .i64 (a), .slice B lp d, .slice S l k]
    replace Gb := Gb.alloc (.cells #[.int .i64 (a), .slice B lp d, .slice S l k] 55)
    replace hB := bal hB (.cells #[.int .i64 (a), .slice B lp d, .slice S l k] 55)
    go_wp2_with fail
    refine (awake_c _).mono ?_
    rintro e w1 ⟨rfl, hb⟩
    replace Gb := Gb.keep hb
    replace Wb := Wb.keep hb
    replace hB := bt hB hb
    clear hb
    obtain ⟨c00, c01, c02, c03⟩ := Gb.open2
    obtain ⟨c10, c11, c12, c13, c14⟩ := Wb.open3
    go_wp2_with fail
    refine (violated_c _ _ _ _ _ _ (T.keep hB) n1 n2 _ _ _ _ (V.keep hB)).mono ?_
    rw [HX.out]
    rintro e w2 ⟨rfl, hb⟩
    clear c00 c01 c02 c03 c10 c11 c12 c13 c14
    replace Gb := Gb.keep hb
    replace Wb := Wb.keep hb
    replace hB := bt hB hb
    clear hb
    go_wp2_with fail
    go_returns
    exact ⟨rfl, hB⟩
  have K := Ce.ver_ok.1 h
  have O := K.ok
  have o1 := O.n1
  have o2 := O.n2
  have o3 := O.hm
  have HV := Lib.hid h
  have HX := Lib.hid (Ce.vix_yes h)
  clear h
  have fb := Ce.fi_bd (Ce.vp E P) m
  obtain ⟨f, hf⟩ : ∃ f, Ce.fi (Ce.vp E P) m = f := ⟨_, rfl⟩
  rw [hf] at fb
  have HF := Lib.hid hf
  clear hf
  obtain ⟨fb1, fb2⟩ := fb
  by_cases h1 : f = -1
  rotate_left
  · have h2 : (f != -1) = true := by simpa using h1
    clear h1
    go_enter Try.func9, Try.ntmps9
    try simp only [List.append_eq, List.cons_append, List.nil_append]
    have Gb := Blk.new w 24 #[.int .i64 (n), .slice A m c]
    have hB := ba w (.cells #[.int .i64 (n), .slice A m c] 24)
    have Wb := Blk.new1 w (.cells #[.int .i64 (n), .slice A m c] 24) 55 #[.int .i64 (a), .slice B lp d, .slice S l k]
    replace Gb := Gb.alloc (.cells #[.int .i64 (a), .slice B lp d, .slice S l k] 55)
    replace hB := bal hB (.cells #[.int .i64 (a), .slice B lp d, .slice S l k] 55)
    go_wp2_with fail
    refine (awake_c _).mono ?_
    rintro e w1 ⟨rfl, hb⟩
    replace Gb := Gb.keep hb
    replace Wb := Wb.keep hb
    replace hB := bt hB hb
    clear hb
    obtain ⟨c00, c01, c02, c03⟩ := Gb.open2
    obtain ⟨c10, c11, c12, c13, c14⟩ := Wb.open3
    go_wp2_with fail
    refine (violated_c _ _ _ _ _ _ (T.keep hB) n1 n2 _ _ _ _ (V.keep hB)).mono ?_
    rw [HX.out, HV.out, HF.out]
    rintro e w2 ⟨rfl, hb⟩
    clear c00 c01 c02 c03 c10 c11 c12 c13 c14
    replace Gb := Gb.keep hb
    replace Wb := Wb.keep hb
    replace hB := bt hB hb
    clear hb
    obtain ⟨c00, c01, c02, c03⟩ := Gb.open2
    obtain ⟨c10, c11, c12, c13, c14⟩ := Wb.open3
    go_wp2_with fail
    go_returns
    exact ⟨rfl, hB⟩
  subst h1
  by_cases h2 : a < 0
  · skip
    go_enter Try.func9, Try.ntmps9
    try simp only [List.append_eq, List.cons_append, List.nil_append]
    have Gb := Blk.new w 24 #[.int .i64 (n), .slice A m c]
    have hB := ba w (.cells #[.int .i64 (n), .slice A m c] 24)
    have Wb := Blk.new1 w (.cells #[.int .i64 (n), .slice A m c] 24) 55 #[.int .i64 (a), .slice B lp d, .slice S l k]
    replace Gb := Gb.alloc (.cells #[.int .i64 (a), .slice B lp d, .slice S l k] 55)
    replace hB := bal hB (.cells #[.int .i64 (a), .slice B lp d, .slice S l k] 55)
    go_wp2_with fail
    refine (awake_c _).mono ?_
    rintro e w1 ⟨rfl, hb⟩
    replace Gb := Gb.keep hb
    replace Wb := Wb.keep hb
    replace hB := bt hB hb
    clear hb
    obtain ⟨c00, c01, c02, c03⟩ := Gb.open2
    obtain ⟨c10, c11, c12, c13, c14⟩ := Wb.open3
    go_wp2_with fail
    refine (violated_c _ _ _ _ _ _ (T.keep hB) n1 n2 _ _ _ _ (V.keep hB)).mono ?_
    rw [HX.out, HV.out, HF.out]
    rintro e w2 ⟨rfl, hb⟩
    clear c00 c01 c02 c03 c10 c11 c12 c13 c14
    replace Gb := Gb.keep hb
    replace Wb := Wb.keep hb
    replace hB := bt hB hb
    clear hb
    obtain ⟨c00, c01, c02, c03⟩ := Gb.open2
    obtain ⟨c10, c11, c12, c13, c14⟩ := Wb.open3
    go_wp2_with fail
    go_returns
    exact ⟨rfl, hB⟩
  by_cases h4 : n ≤ a
  · have h3 : decide (a < 0) = false := decide_eq_false h2
    go_enter Try.func9, Try.ntmps9
    try simp only [List.append_eq, List.cons_append, List.nil_append]
    have Gb := Blk.new w 24 #[.int .i64 (n), .slice A m c]
    have hB := ba w (.cells #[.int .i64 (n), .slice A m c] 24)
    have Wb := Blk.new1 w (.cells #[.int .i64 (n), .slice A m c] 24) 55 #[.int .i64 (a), .slice B lp d, .slice S l k]
    replace Gb := Gb.alloc (.cells #[.int .i64 (a), .slice B lp d, .slice S l k] 55)
    replace hB := bal hB (.cells #[.int .i64 (a), .slice B lp d, .slice S l k] 55)
    go_wp2_with fail
    refine (awake_c _).mono ?_
    rintro e w1 ⟨rfl, hb⟩
    replace Gb := Gb.keep hb
    replace Wb := Wb.keep hb
    replace hB := bt hB hb
    clear hb
    obtain ⟨c00, c01, c02, c03⟩ := Gb.open2
    obtain ⟨c10, c11, c12, c13, c14⟩ := Wb.open3
    go_wp2_with fail
    refine (violated_c _ _ _ _ _ _ (T.keep hB) n1 n2 _ _ _ _ (V.keep hB)).mono ?_
    rw [HX.out, HV.out, HF.out]
    rintro e w2 ⟨rfl, hb⟩
    clear c00 c01 c02 c03 c10 c11 c12 c13 c14
    replace Gb := Gb.keep hb
    replace Wb := Wb.keep hb
    replace hB := bt hB hb
    clear hb
    obtain ⟨c00, c01, c02, c03⟩ := Gb.open2
    obtain ⟨c10, c11, c12, c13, c14⟩ := Wb.open3
    go_wp2_with fail
    go_returns
    exact ⟨rfl, hB⟩
  have h3 : decide (a < 0) = false := decide_eq_false h2
  have h5 : decide (n ≤ a) = false := decide_eq_false h4
  have a0 : 0 ≤ a := by omega
  have a1 : a < n := by omega
  go_enter Try.func9, Try.ntmps9
  try simp only [List.append_eq, List.cons_append, List.nil_append]
  have Gb := Blk.new w 24 #[.int .i64 (n), .slice A m c]
  have hB := ba w (.cells #[.int .i64 (n), .slice A m c] 24)
  have Wb := Blk.new1 w (.cells #[.int .i64 (n), .slice A m c] 24) 55 #[.int .i64 (a), .slice B lp d, .slice S l k]
  replace Gb := Gb.alloc (.cells #[.int .i64 (a), .slice B lp d, .slice S l k] 55)
  replace hB := bal hB (.cells #[.int .i64 (a), .slice B lp d, .slice S l k] 55)
  go_wp2_with fail
  refine (awake_c _).mono ?_
  rintro e w1 ⟨rfl, hb⟩
  replace Gb := Gb.keep hb
  replace Wb := Wb.keep hb
  replace hB := bt hB hb
  clear hb
  obtain ⟨c00, c01, c02, c03⟩ := Gb.open2
  obtain ⟨c10, c11, c12, c13, c14⟩ := Wb.open3
  go_wp2_with fail
  refine (violated_c _ _ _ _ _ _ (T.keep hB) n1 n2 _ _ _ _ (V.keep hB)).mono ?_
  rw [HX.out, HV.out, HF.out]
  rintro e w2 ⟨rfl, hb⟩
  clear c00 c01 c02 c03 c10 c11 c12 c13 c14
  replace Gb := Gb.keep hb
  replace Wb := Wb.keep hb
  replace hB := bt hB hb
  clear hb
  obtain ⟨c00, c01, c02, c03⟩ := Gb.open2
  obtain ⟨c10, c11, c12, c13, c14⟩ := Wb.open3
  go_wp2_with fail
  refine (walk_c _ _ _ _ _ _ (T.keep hB) O _ a0 a1 _ _ _ _ (U.keep hB) hp).mono ?_
  rintro e w3 ⟨A4, l4, c4, R, x, rfl, HR, x0, x1, Q, hb⟩
  clear c00 c01 c02 c03 c10 c11 c12 c13 c14
  replace Gb := Gb.keep hb
  replace Wb := Wb.keep hb
  replace hB := bt hB hb
  clear hb
  obtain ⟨e1, e2, e3, e4, e5⟩ := Ce.below_ok O a0 a1 x0 x1 HR.out K HF.out
  have bd := Ce.csum_bd O HR.out.i
  have hl9 := HR.out.hl
  have E1 := Lib.hid e1
  have E2 := Lib.hid e2
  have E3 := Lib.hid e3
  have E4 := Lib.hid e4
  clear e1 e2 e3 e4
  obtain ⟨c00, c01, c02, c03⟩ := Gb.open2
  obtain ⟨c10, c11, c12, c13, c14⟩ := Wb.open3
  go_wp2_with fail
  refine (cost_c _ _ _ _ _ _ (T.keep hB) n1 n2 _ _ _ _ _ _ Q).mono ?_
  rw [E1.out, E2.out]
  rintro e w4 ⟨rfl, hb⟩
  clear c00 c01 c02 c03 c10 c11 c12 c13 c14
  replace Gb := Gb.keep hb
  replace Wb := Wb.keep hb
  replace Q := Q.keep hb
  replace hB := bt hB hb
  clear hb
  obtain ⟨c00, c01, c02, c03⟩ := Gb.open2
  obtain ⟨c10, c11, c12, c13, c14⟩ := Wb.open3
  go_wp2_with fail
  refine (bound_c _ _ _ _ _ _ (T.keep hB) n1 n2 _ _ _ _ _ _ (V.keep hB)).mono ?_
  rw [E3.out, E4.out]
  rintro e w5 ⟨rfl, hb⟩
  clear c00 c01 c02 c03 c10 c11 c12 c13 c14
  replace Gb := Gb.keep hb
  replace Wb := Wb.keep hb
  replace Q := Q.keep hb
  replace hB := bt hB hb
  clear hb
  obtain ⟨xn, ex⟩ : ∃ q : Nat, x = (q : Int) := ⟨x.toNat, by omega⟩
  obtain ⟨an, ea⟩ : ∃ q : Nat, a = (q : Int) := ⟨a.toNat, by omega⟩
  subst ex ea
  rw [Int.toNat_natCast, Int.toNat_natCast] at e5 ⊢
  have hxl : xn < l := by have := K.hl; omega
  have hal : an < l := by have := K.hl; omega
  have p1 := K.r xn hxl
  have p2 := K.r an hal
  have i1 : (xn : Int) < (l : Int) := by omega
  have i2 : (an : Int) < (l : Int) := by omega
  obtain ⟨bb, off, eA, hbl, u0⟩ := (V.keep hB).at1 hxl
  obtain ⟨bb', off', eA', hbl', u1⟩ := (V.keep hB).at1 hal
  rw [eA] at eA'
  injection eA' with eA'
  injection eA' with eA1 eA2 eA3
  subst eA1 eA2
  have HA := Lib.hid eA
  rw [HA.out] at Wb ⊢
  clear eA bd K
  obtain ⟨c00, c01, c02, c03, c04⟩ := Wb.open3
  go_wp2_with fail
  go_quiet (fail)
  go_wp2_with fail
  go_returns
  exact ⟨rfl, bdnl hB _⟩
end Go.Proofs.Ytbmfkncfenkjoaa
