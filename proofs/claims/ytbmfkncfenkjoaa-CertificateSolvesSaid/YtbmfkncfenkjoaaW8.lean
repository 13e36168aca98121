/-
  Contracts: Bound, of both.
-/
import Derived.Test.YtbmfkncfenkjoaaW7
import Derived.Test.YtbmfkncfenkjoaaW3
namespace Go.Proofs.Ytbmfkncfenkjoaa
set_option linter.unusedVariables false
set_option linter.unusedSimpArgs false
open Go.RowKit
attribute [local irreducible] World.setCell World.cell?

set_option maxRecDepth 100000 in
set_option maxHeartbeats 4000000 in
theorem bound_c (A : Option Addr) (n : Int) (m c : Nat) (E : Ce.Tab) (w : World) (T : Rd w 3 A m c (iv E)) (n1 : -9223372036854775808 ≤ n) (n2 : n ≤ 9223372036854775807) (a b : Int) (B : Option Addr) (l d : Nat) (P : Nat → Int) (U : Rd w 1 B l d (nv P)) : Calls Try.prog 18 #[.agg #[.int .i64 n, .slice A m c], .int .i64 a, .int .i64 b, .slice B l d] w fun e w' => e = .returned (.tuple #[.int .i64 (Ce.bnd n m E a b l P), .int .i64 (Ce.ber n m E a b l P)]) ∧ Below w.heap.size w w' := by
  have r1 := T.le
  have r2 := T.mx
  have s1 := U.le
  have s2 := U.mx
  by_cases h : Ce.en n m E a b = 0
  rotate_left
  · have h1 : (Ce.en n m E a b != 0) = true := by simpa using h
    have HE := Lib.hid (Ce.ber_en (l := l) (P := P) h)
    have HS := Lib.hid (Ce.bnd_no (n := n) (m := m) (E := E) (a := a) (b := b) (l := l) (P := P) (by rw [HE.out]; exact h))
    clear h
    go_enter Try.func18, Try.ntmps18
    have Gb := Blk.new w 24 #[.int .i64 (n), .slice A m c]
    have hB := ba w (.cells #[.int .i64 (n), .slice A m c] 24)
    obtain ⟨c00, c01, c02, c03⟩ := Gb.open2
    go_wp2_with fail
    refine (ends_c _ _ _ _ _ _ (T.keep hB) n1 n2 _ _).mono ?_
    rintro e w1 ⟨rfl, hb⟩
    clear c00 c01 c02 c03
    replace Gb := Gb.keep hb
    replace hB := bt hB hb
    clear hb
    go_wp2_with fail
    go_returns
    exact ⟨ret_ints HS.out.symm HE.out.symm, hB⟩
  have N := Ce.en_ok.1 h
  have H := Lib.hid h
  clear h
  by_cases hv : Ce.ver n m E l P = 0
  rotate_left
  · have h1 : (Ce.ver n m E l P != 0) = true := by simpa using hv
    have HE := Lib.hid (Ce.ber_ver H.out hv)
    have HS := Lib.hid (Ce.bnd_no (n := n) (m := m) (E := E) (a := a) (b := b) (l := l) (P := P) (by rw [HE.out]; exact hv))
    clear hv
    go_enter Try.func18, Try.ntmps18
    have Gb := Blk.new w 24 #[.int .i64 (n), .slice A m c]
    have hB := ba w (.cells #[.int .i64 (n), .slice A m c] 24)
    obtain ⟨c00, c01, c02, c03⟩ := Gb.open2
    go_wp2_with fail
    refine (ends_c _ _ _ _ _ _ (T.keep hB) n1 n2 _ _).mono ?_
    rw [H.out]
    rintro e w1 ⟨rfl, hb⟩
    clear c00 c01 c02 c03
    replace Gb := Gb.keep hb
    replace hB := bt hB hb
    clear hb
    obtain ⟨c00, c01, c02, c03⟩ := Gb.open2
    go_wp2_with fail
    refine (violated_c _ _ _ _ _ _ (T.keep hB) n1 n2 _ _ _ _ (U.keep hB)).mono ?_
    rintro e w2 ⟨rfl, hb⟩
    clear c00 c01 c02 c03
    replace Gb := Gb.keep hb
    replace hB := bt hB hb
    clear hb
    go_wp2_with fail
    go_returns
    exact ⟨ret_ints HS.out.symm HE.out.symm, hB⟩
  have K := Ce.ver_ok.1 hv
  have HV := Lib.hid hv
  have HX := Lib.hid (Ce.vix_yes hv)
  clear hv
  by_cases hf : 0 ≤ Ce.fi (Ce.vp E P) m
  · have HE := Lib.hid (Ce.ber_9 H.out HV.out hf)
    have HS := Lib.hid (Ce.bnd_no (n := n) (m := m) (E := E) (a := a) (b := b) (l := l) (P := P) (by rw [HE.out]; decide))
    go_enter Try.func18, Try.ntmps18
    have Gb := Blk.new w 24 #[.int .i64 (n), .slice A m c]
    have hB := ba w (.cells #[.int .i64 (n), .slice A m c] 24)
    obtain ⟨c00, c01, c02, c03⟩ := Gb.open2
    go_wp2_with fail
    refine (ends_c _ _ _ _ _ _ (T.keep hB) n1 n2 _ _).mono ?_
    rw [H.out]
    rintro e w1 ⟨rfl, hb⟩
    clear c00 c01 c02 c03
    replace Gb := Gb.keep hb
    replace hB := bt hB hb
    clear hb
    obtain ⟨c00, c01, c02, c03⟩ := Gb.open2
    go_wp2_with fail
    refine (violated_c _ _ _ _ _ _ (T.keep hB) n1 n2 _ _ _ _ (U.keep hB)).mono ?_
    rw [HX.out, HV.out]
    rintro e w2 ⟨rfl, hb⟩
    clear c00 c01 c02 c03
    replace Gb := Gb.keep hb
    replace hB := bt hB hb
    clear hb
    go_wp2_with fail
    go_returns
    exact ⟨ret_ints HS.out.symm HE.out.symm, hB⟩
  have hf' : ¬ 0 ≤ Ce.fi (Ce.vp E P) m := hf
  have HE := Lib.hid (Ce.ber_0 H.out HV.out (by omega))
  have HS := Lib.hid (Ce.bnd_yes HE.out)
  obtain ⟨an, ea⟩ : ∃ q : Nat, a = (q : Int) := ⟨a.toNat, by have := N.a0; omega⟩
  obtain ⟨bn, eb⟩ : ∃ q : Nat, b = (q : Int) := ⟨b.toNat, by have := N.b0; omega⟩
  subst ea eb
  simp only [Int.toNat_natCast] at HS
  have ha : an < l := by have := N.a1; have := K.hl; omega
  have hb : bn < l := by have := N.b1; have := K.hl; omega
  have p1 := K.r an ha
  have p2 := K.r bn hb
  go_enter Try.func18, Try.ntmps18
  have Gb := Blk.new w 24 #[.int .i64 (n), .slice A m c]
  have hB := ba w (.cells #[.int .i64 (n), .slice A m c] 24)
  obtain ⟨c00, c01, c02, c03⟩ := Gb.open2
  go_wp2_with fail
  refine (ends_c _ _ _ _ _ _ (T.keep hB) n1 n2 _ _).mono ?_
  rw [H.out]
  rintro e w1 ⟨rfl, hb⟩
  clear c00 c01 c02 c03
  replace Gb := Gb.keep hb
  replace hB := bt hB hb
  clear hb
  obtain ⟨c00, c01, c02, c03⟩ := Gb.open2
  go_wp2_with fail
  refine (violated_c _ _ _ _ _ _ (T.keep hB) n1 n2 _ _ _ _ (U.keep hB)).mono ?_
  rw [HX.out, HV.out]
  rintro e w2 ⟨rfl, hb⟩
  clear c00 c01 c02 c03
  replace Gb := Gb.keep hb
  replace hB := bt hB hb
  clear hb
  obtain ⟨bb, off, eA, hbl, u0⟩ := (U.keep hB).at1 ha
  obtain ⟨bb', off', eA', hbl', u1⟩ := (U.keep hB).at1 hb
  rw [eA] at eA'
  injection eA' with eA'
  injection eA' with eA1 eA2 eA3
  subst eA1 eA2
  have HA := Lib.hid eA
  rw [HA.out]
  clear eA
  go_wp2_with fail
  go_quiet (fail)
  go_wp2_with fail
  go_returns
  exact ⟨ret_ints HS.out.symm HE.out.symm, bdnl hB _⟩
set_option maxRecDepth 100000 in
set_option maxHeartbeats 4000000 in
theorem rbound_c (A : Option Addr) (n : Int) (m c : Nat) (E : Ce.Tab) (w : World) (T : Rd w 3 A m c (iv E)) (n1 : -9223372036854775808 ≤ n) (n2 : n ≤ 9223372036854775807) (a b : Int) (B : Option Addr) (l d : Nat) (P : Nat → Int) (U : Rd w 1 B l d (nv P)) : Calls Try.prog 19 #[.agg #[.int .i64 n, .slice A m c], .int .i64 a, .int .i64 b, .slice B l d] w fun e w' => e = .returned (.tuple #[.int .i64 (Ce.bnd n m E a b l P), .int .i64 (Ce.ber n m E a b l P)]) ∧ Below w.heap.size w w' := by
  have r1 := T.le
  have r2 := T.mx
  have s1 := U.le
  have s2 := U.mx
  by_cases k0 : Ce.ck n m E = 0
  rotate_left
  · have h : Ce.en n m E a b ≠ 0 := by rw [Ce.en_ck k0]; exact k0
    have h1 : (Ce.ck n m E != 0) = true := by simpa using k0
    have HE := Lib.hid ((Ce.ber_en (l := l) (P := P) h).trans (Ce.en_ck k0))
    have HS := Lib.hid (Ce.bnd_no (n := n) (m := m) (E := E) (a := a) (b := b) (l := l) (P := P) (by rw [Ce.ber_en h]; exact h))
    clear k0 h
    go_enter Try.func19, Try.ntmps19
    have Gb := Blk.new w 24 #[.int .i64 (n), .slice A m c]
    have hB := ba w (.cells #[.int .i64 (n), .slice A m c] 24)
    obtain ⟨c00, c01, c02, c03⟩ := Gb.open2
    go_wp2_with fail
    refine (rcheck_c _ _ _ _ _ _ (T.keep hB) n1 n2).mono ?_
    rintro e w1 ⟨rfl, hb⟩
    clear c00 c01 c02 c03
    replace Gb := Gb.keep hb
    replace hB := bt hB hb
    clear hb
    go_wp2_with fail
    go_returns
    exact ⟨ret_ints HS.out.symm HE.out.symm, hB⟩
  cases q0 : Ce.nd n a
  · have h : Ce.en n m E a b ≠ 0 := by rw [(Ce.en_1 (a := a) (b := b) k0 (by rw [q0]; rfl))]; decide
    have HE := Lib.hid ((Ce.ber_en (l := l) (P := P) h).trans (Ce.en_1 (a := a) (b := b) k0 (by rw [q0]; rfl)))
    have HS := Lib.hid (Ce.bnd_no (n := n) (m := m) (E := E) (a := a) (b := b) (l := l) (P := P) (by rw [Ce.ber_en h]; exact h))
    have H := Lib.hid k0
    have Q0 := Lib.hid q0
    clear k0 h q0
    go_enter Try.func19, Try.ntmps19
    have Gb := Blk.new w 24 #[.int .i64 (n), .slice A m c]
    have hB := ba w (.cells #[.int .i64 (n), .slice A m c] 24)
    obtain ⟨c00, c01, c02, c03⟩ := Gb.open2
    go_wp2_with fail
    refine (rcheck_c _ _ _ _ _ _ (T.keep hB) n1 n2).mono ?_
    rw [H.out]
    rintro e w1 ⟨rfl, hb⟩
    clear c00 c01 c02 c03
    replace Gb := Gb.keep hb
    replace hB := bt hB hb
    clear hb
    obtain ⟨c00, c01, c02, c03⟩ := Gb.open2
    go_wp2_with fail
    refine (rnode_c _ _ _ _ _ _).mono ?_
    rw [Q0.out]
    rintro e w2 ⟨rfl, hb⟩
    clear c00 c01 c02 c03
    replace Gb := Gb.keep hb
    replace hB := bt hB hb
    clear hb
    go_wp2_with fail
    go_returns
    exact ⟨ret_ints HS.out.symm HE.out.symm, hB⟩
  cases q1 : Ce.nd n b
  · have h : Ce.en n m E a b ≠ 0 := by rw [(Ce.en_1 (a := a) (b := b) k0 (by rw [q0, q1]; rfl))]; decide
    have HE := Lib.hid ((Ce.ber_en (l := l) (P := P) h).trans (Ce.en_1 (a := a) (b := b) k0 (by rw [q0, q1]; rfl)))
    have HS := Lib.hid (Ce.bnd_no (n := n) (m := m) (E := E) (a := a) (b := b) (l := l) (P := P) (by rw [Ce.ber_en h]; exact h))
    have H := Lib.hid k0
    have Q0 := Lib.hid q0
    have Q1 := Lib.hid q1
    clear k0 h q0 q1
    go_enter Try.func19, Try.ntmps19
    have Gb := Blk.new w 24 #[.int .i64 (n), .slice A m c]
    have hB := ba w (.cells #[.int .i64 (n), .slice A m c] 24)
    obtain ⟨c00, c01, c02, c03⟩ := Gb.open2
    go_wp2_with fail
    refine (rcheck_c _ _ _ _ _ _ (T.keep hB) n1 n2).mono ?_
    rw [H.out]
    rintro e w1 ⟨rfl, hb⟩
    clear c00 c01 c02 c03
    replace Gb := Gb.keep hb
    replace hB := bt hB hb
    clear hb
    obtain ⟨c00, c01, c02, c03⟩ := Gb.open2
    go_wp2_with fail
    refine (rnode_c _ _ _ _ _ _).mono ?_
    rw [Q0.out]
    rintro e w2 ⟨rfl, hb⟩
    clear c00 c01 c02 c03
    replace Gb := Gb.keep hb
    replace hB := bt hB hb
    clear hb
    obtain ⟨c00, c01, c02, c03⟩ := Gb.open2
    go_wp2_with fail
    refine (rnode_c _ _ _ _ _ _).mono ?_
    rw [Q1.out]
    rintro e w3 ⟨rfl, hb⟩
    clear c00 c01 c02 c03
    replace Gb := Gb.keep hb
    replace hB := bt hB hb
    clear hb
    go_wp2_with fail
    go_returns
    exact ⟨ret_ints HS.out.symm HE.out.symm, hB⟩
  have h : Ce.en n m E a b = 0 := Ce.en_0 k0 (by rw [q0, q1]; rfl)
  have N := Ce.en_ok.1 h
  have H := Lib.hid h
  clear h
  by_cases hv : Ce.ver n m E l P = 0
  rotate_left
  · have h1 : (Ce.ver n m E l P != 0) = true := by simpa using hv
    have HE := Lib.hid (Ce.ber_ver H.out hv)
    have HS := Lib.hid (Ce.bnd_no (n := n) (m := m) (E := E) (a := a) (b := b) (l := l) (P := P) (by rw [HE.out]; exact hv))
    clear hv
    have HK := Lib.hid k0
    have Q0 := Lib.hid q0
    have Q1 := Lib.hid q1
    clear k0 q0 q1
    go_enter Try.func19, Try.ntmps19
    have Gb := Blk.new w 24 #[.int .i64 (n), .slice A m c]
    have hB := ba w (.cells #[.int .i64 (n), .slice A m c] 24)
    obtain ⟨c00, c01, c02, c03⟩ := Gb.open2
    go_wp2_with fail
    refine (rcheck_c _ _ _ _ _ _ (T.keep hB) n1 n2).mono ?_
    rw [HK.out]
    rintro e w1 ⟨rfl, hb⟩
    clear c00 c01 c02 c03
    replace Gb := Gb.keep hb
    replace hB := bt hB hb
    clear hb
    obtain ⟨c00, c01, c02, c03⟩ := Gb.open2
    go_wp2_with fail
    refine (rnode_c _ _ _ _ _ _).mono ?_
    rw [Q0.out]
    rintro e w2 ⟨rfl, hb⟩
    clear c00 c01 c02 c03
    replace Gb := Gb.keep hb
    replace hB := bt hB hb
    clear hb
    obtain ⟨c00, c01, c02, c03⟩ := Gb.open2
    go_wp2_with fail
    refine (rnode_c _ _ _ _ _ _).mono ?_
    rw [Q1.out]
    rintro e w3 ⟨rfl, hb⟩
    clear c00 c01 c02 c03
    replace Gb := Gb.keep hb
    replace hB := bt hB hb
    clear hb
    obtain ⟨c00, c01, c02, c03⟩ := Gb.open2
    go_wp2_with fail
    refine (rviolated_c _ _ _ _ _ _ (T.keep hB) n1 n2 _ _ _ _ (U.keep hB)).mono ?_
    rintro e w4 ⟨rfl, hb⟩
    clear c00 c01 c02 c03
    replace Gb := Gb.keep hb
    replace hB := bt hB hb
    clear hb
    go_wp2_with fail
    go_returns
    exact ⟨ret_ints HS.out.symm HE.out.symm, hB⟩
  have K := Ce.ver_ok.1 hv
  have HV := Lib.hid hv
  have HX := Lib.hid (Ce.vix_yes hv)
  clear hv
  by_cases hf : 0 ≤ Ce.fi (Ce.vp E P) m
  · have HE := Lib.hid (Ce.ber_9 H.out HV.out hf)
    have HS := Lib.hid (Ce.bnd_no (n := n) (m := m) (E := E) (a := a) (b := b) (l := l) (P := P) (by rw [HE.out]; decide))
    have HK := Lib.hid k0
    have Q0 := Lib.hid q0
    have Q1 := Lib.hid q1
    clear k0 q0 q1
    go_enter Try.func19, Try.ntmps19
    have Gb := Blk.new w 24 #[.int .i64 (n), .slice A m c]
    have hB := ba w (.cells #[.int .i64 (n), .slice A m c] 24)
    obtain ⟨c00, c01, c02, c03⟩ := Gb.open2
    go_wp2_with fail
    refine (rcheck_c _ _ _ _ _ _ (T.keep hB) n1 n2).mono ?_
    rw [HK.out]
    rintro e w1 ⟨rfl, hb⟩
    clear c00 c01 c02 c03
    replace Gb := Gb.keep hb
    replace hB := bt hB hb
    clear hb
    obtain ⟨c00, c01, c02, c03⟩ := Gb.open2
    go_wp2_with fail
    refine (rnode_c _ _ _ _ _ _).mono ?_
    rw [Q0.out]
    rintro e w2 ⟨rfl, hb⟩
    clear c00 c01 c02 c03
    replace Gb := Gb.keep hb
    replace hB := bt hB hb
    clear hb
    obtain ⟨c00, c01, c02, c03⟩ := Gb.open2
    go_wp2_with fail
    refine (rnode_c _ _ _ _ _ _).mono ?_
    rw [Q1.out]
    rintro e w3 ⟨rfl, hb⟩
    clear c00 c01 c02 c03
    replace Gb := Gb.keep hb
    replace hB := bt hB hb
    clear hb
    obtain ⟨c00, c01, c02, c03⟩ := Gb.open2
    go_wp2_with fail
    refine (rviolated_c _ _ _ _ _ _ (T.keep hB) n1 n2 _ _ _ _ (U.keep hB)).mono ?_
    rw [HX.out, HV.out]
    rintro e w4 ⟨rfl, hb⟩
    clear c00 c01 c02 c03
    replace Gb := Gb.keep hb
    replace hB := bt hB hb
    clear hb
    go_wp2_with fail
    go_returns
    exact ⟨ret_ints HS.out.symm HE.out.symm, hB⟩
  have hf' : ¬ 0 ≤ Ce.fi (Ce.vp E P) m := hf
  have HE := Lib.hid (Ce.ber_0 H.out HV.out (by omega))
  have HS := Lib.hid (Ce.bnd_yes HE.out)
  obtain ⟨an, ea⟩ : ∃ q : Nat, a = (q : Int) := ⟨a.toNat, by have := N.a0; omega⟩
  obtain ⟨bn, eb⟩ : ∃ q : Nat, b = (q : Int) := ⟨b.toNat, by have := N.b0; omega⟩
  subst ea eb
  simp only [Int.toNat_natCast] at HS
  have ha : an < l := by have := N.a1; have := K.hl; omega
  have hb : bn < l := by have := N.b1; have := K.hl; omega
  have p1 := K.r an ha
  have p2 := K.r bn hb
  have HK := Lib.hid k0
  have Q0 := Lib.hid q0
  have Q1 := Lib.hid q1
  clear k0 q0 q1
  go_enter Try.func19, Try.ntmps19
  have Gb := Blk.new w 24 #[.int .i64 (n), .slice A m c]
  have hB := ba w (.cells #[.int .i64 (n), .slice A m c] 24)
  obtain ⟨c00, c01, c02, c03⟩ := Gb.open2
  go_wp2_with fail
  refine (rcheck_c _ _ _ _ _ _ (T.keep hB) n1 n2).mono ?_
  rw [HK.out]
  rintro e w1 ⟨rfl, hb⟩
  clear c00 c01 c02 c03
  replace Gb := Gb.keep hb
  replace hB := bt hB hb
  clear hb
  obtain ⟨c00, c01, c02, c03⟩ := Gb.open2
  go_wp2_with fail
  refine (rnode_c _ _ _ _ _ _).mono ?_
  rw [Q0.out]
  rintro e w2 ⟨rfl, hb⟩
  clear c00 c01 c02 c03
  replace Gb := Gb.keep hb
  replace hB := bt hB hb
  clear hb
  obtain ⟨c00, c01, c02, c03⟩ := Gb.open2
  go_wp2_with fail
  refine (rnode_c _ _ _ _ _ _).mono ?_
  rw [Q1.out]
  rintro e w3 ⟨rfl, hb⟩
  clear c00 c01 c02 c03
  replace Gb := Gb.keep hb
  replace hB := bt hB hb
  clear hb
  obtain ⟨c00, c01, c02, c03⟩ := Gb.open2
  go_wp2_with fail
  refine (rviolated_c _ _ _ _ _ _ (T.keep hB) n1 n2 _ _ _ _ (U.keep hB)).mono ?_
  rw [HX.out, HV.out]
  rintro e w4 ⟨rfl, hb⟩
  clear c00 c01 c02 c03
  replace Gb := Gb.keep hb
  replace hB := bt hB hb
  clear hb
  obtain ⟨bb, off, eA, hbl, u0⟩ := (U.keep hB).at1 ha
  obtain ⟨bb', off', eA', hbl', u1⟩ := (U.keep hB).at1 hb
  rw [eA] at eA'
  injection eA' with eA'
  injection eA' with eA1 eA2 eA3
  subst eA1 eA2
  have HA := Lib.hid eA
  rw [HA.out]
  clear eA
  go_wp2_with fail
  go_quiet (fail)
  go_wp2_with fail
  go_returns
  exact ⟨ret_ints HS.out.symm HE.out.symm, bdnl hB _⟩
end Go.Proofs.Ytbmfkncfenkjoaa
