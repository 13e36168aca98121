/-
  Words and contracts, put together: W5, W7, W8, W9, L8, M5p, ORw, ArgB.
-/
import Derived.Test.YtoeklllahpegfaaM01
import Derived.Test.YtoeklllahpegfaaM02
import Derived.Test.YtoeklllahpegfaaM08
/-
  Contract: the reference's Cost.
-/
namespace Go.Proofs.Ytoeklllahpegfaa
set_option linter.unusedVariables false
set_option linter.unusedSimpArgs false
open Go.RowKit
attribute [local irreducible] World.setCell World.cell?

set_option maxRecDepth 100000 in
set_option maxHeartbeats 4000000 in
theorem rcost_c (A : Option Addr) (n : Int) (m c : Nat) (E : Ce.Tab) (w : World) (T : Rd w 3 A m c (iv E)) (n1 : -9223372036854775808 ≤ n) (n2 : n ≤ 9223372036854775807) (a b : Int) (B : Option Addr) (l d : Nat) (R : Nat → Int) (U : Rd w 1 B l d (nv R)) : Calls Try.prog 49 #[.agg #[.int .i64 n, .slice A m c], .int .i64 a, .int .i64 b, .slice B l d] w fun e w' => e = .returned (.tuple #[.int .i64 (Ce.cst n m E a b l R), .int .i64 (Ce.cer n m E a b l R)]) ∧ Below w.heap.size w w' := by
  have r1 := T.le
  have r2 := T.mx
  have s1 := U.le
  have s2 := U.mx
  by_cases k0 : Ce.ck n m E = 0
  rotate_left
  · have h : Ce.en n m E a b ≠ 0 := by rw [Ce.en_ck k0]; exact k0
    have h1 : (Ce.ck n m E != 0) = true := by simpa using k0
    have HE := Lib.hid ((Ce.cer_en (l := l) (R := R) h).trans (Ce.en_ck k0))
    have HS := Lib.hid (Ce.cst_no (n := n) (m := m) (E := E) (a := a) (b := b) (l := l) (R := R) (by rw [Ce.cer_en h]; exact h))
    clear k0 h
    go_enter Try.func49, Try.ntmps49
    have Gb := Blk.new w 41 #[.int .i64 (n), .slice A m c]
    have hB := ba w (.cells #[.int .i64 (n), .slice A m c] 41)
    obtain ⟨c00, c01, c02, c03⟩ := Gb.open2
    go_wp2_with fail
    refine (rcheck_c _ _ _ _ _ _ (T.keep hB) n1 n2).mono ?_
    rintro e w1 ⟨rfl, hb⟩
    clear c00 c01 c02 c03
    replace Gb := Gb.keep hb
    replace hB := bt hB hb
    clear hb
    go_wp2_with fail
    go_returns
    exact ⟨ret_ints HS.out.symm HE.out.symm, hB⟩
  cases q0 : Ce.nd n a
  · have h : Ce.en n m E a b ≠ 0 := by rw [(Ce.en_1 (a := a) (b := b) k0 (by rw [q0]; rfl))]; decide
    have HE := Lib.hid ((Ce.cer_en (l := l) (R := R) h).trans (Ce.en_1 (a := a) (b := b) k0 (by rw [q0]; rfl)))
    have HS := Lib.hid (Ce.cst_no (n := n) (m := m) (E := E) (a := a) (b := b) (l := l) (R := R) (by rw [Ce.cer_en h]; exact h))
    have H := Lib.hid k0
    have Q0 := Lib.hid q0
    clear k0 h q0
    go_enter Try.func49, Try.ntmps49
    have Gb := Blk.new w 41 #[.int .i64 (n), .slice A m c]
    have hB := ba w (.cells #[.int .i64 (n), .slice A m c] 41)
    obtain ⟨c00, c01, c02, c03⟩ := Gb.open2
    go_wp2_with fail
    refine (rcheck_c _ _ _ _ _ _ (T.keep hB) n1 n2).mono ?_
    rw [H.out]
    rintro e w1 ⟨rfl, hb⟩
    clear c00 c01 c02 c03
    replace Gb := Gb.keep hb
    replace hB := bt hB hb
    clear hb
    obtain ⟨c00, c01, c02, c03⟩ := Gb.open2
    go_wp2_with fail
    refine (rnode_c _ _ _ _ _ _).mono ?_
    rw [Q0.out]
    rintro e w2 ⟨rfl, hb⟩
    clear c00 c01 c02 c03
    replace Gb := Gb.keep hb
    replace hB := bt hB hb
    clear hb
    go_wp2_with fail
    go_returns
    exact ⟨ret_ints HS.out.symm HE.out.symm, hB⟩
  cases q1 : Ce.nd n b
  · have h : Ce.en n m E a b ≠ 0 := by rw [(Ce.en_1 (a := a) (b := b) k0 (by rw [q0, q1]; rfl))]; decide
    have HE := Lib.hid ((Ce.cer_en (l := l) (R := R) h).trans (Ce.en_1 (a := a) (b := b) k0 (by rw [q0, q1]; rfl)))
    have HS := Lib.hid (Ce.cst_no (n := n) (m := m) (E := E) (a := a) (b := b) (l := l) (R := R) (by rw [Ce.cer_en h]; exact h))
    have H := Lib.hid k0
    have Q0 := Lib.hid q0
    have Q1 := Lib.hid q1
    clear k0 h q0 q1
    go_enter Try.func49, Try.ntmps49
    have Gb := Blk.new w 41 #[.int .i64 (n), .slice A m c]
    have hB := ba w (.cells #[.int .i64 (n), .slice A m c] 41)
    obtain ⟨c00, c01, c02, c03⟩ := Gb.open2
    go_wp2_with fail
    refine (rcheck_c _ _ _ _ _ _ (T.keep hB) n1 n2).mono ?_
    rw [H.out]
    rintro e w1 ⟨rfl, hb⟩
    clear c00 c01 c02 c03
    replace Gb := Gb.keep hb
    replace hB := bt hB hb
    clear hb
    obtain ⟨c00, c01, c02, c03⟩ := Gb.open2
    go_wp2_with fail
    refine (rnode_c _ _ _ _ _ _).mono ?_
    rw [Q0.out]
    rintro e w2 ⟨rfl, hb⟩
    clear c00 c01 c02 c03
    replace Gb := Gb.keep hb
    replace hB := bt hB hb
    clear hb
    obtain ⟨c00, c01, c02, c03⟩ := Gb.open2
    go_wp2_with fail
    refine (rnode_c _ _ _ _ _ _).mono ?_
    rw [Q1.out]
    rintro e w3 ⟨rfl, hb⟩
    clear c00 c01 c02 c03
    replace Gb := Gb.keep hb
    replace hB := bt hB hb
    clear hb
    go_wp2_with fail
    go_returns
    exact ⟨ret_ints HS.out.symm HE.out.symm, hB⟩
  have h : Ce.en n m E a b = 0 := Ce.en_0 k0 (by rw [q0, q1]; rfl)
  have H := Lib.hid h
  clear h
  by_cases h8 : 8192 < l
  · have h9 : (8192 : Int) < (l : Int) := by omega
    have HE := Lib.hid (Ce.cer_3 (R := R) H.out h8)
    have HS := Lib.hid (Ce.cst_no (n := n) (m := m) (E := E) (a := a) (b := b) (l := l) (R := R) (by rw [HE.out]; decide))
    have HK := Lib.hid k0
    have Q0 := Lib.hid q0
    have Q1 := Lib.hid q1
    clear k0 q0 q1
    go_enter Try.func49, Try.ntmps49
    have Gb := Blk.new w 41 #[.int .i64 (n), .slice A m c]
    have hB := ba w (.cells #[.int .i64 (n), .slice A m c] 41)
    obtain ⟨c00, c01, c02, c03⟩ := Gb.open2
    go_wp2_with fail
    refine (rcheck_c _ _ _ _ _ _ (T.keep hB) n1 n2).mono ?_
    rw [HK.out]
    rintro e w1 ⟨rfl, hb⟩
    clear c00 c01 c02 c03
    replace Gb := Gb.keep hb
    replace hB := bt hB hb
    clear hb
    obtain ⟨c00, c01, c02, c03⟩ := Gb.open2
    go_wp2_with fail
    refine (rnode_c _ _ _ _ _ _).mono ?_
    rw [Q0.out]
    rintro e w2 ⟨rfl, hb⟩
    clear c00 c01 c02 c03
    replace Gb := Gb.keep hb
    replace hB := bt hB hb
    clear hb
    obtain ⟨c00, c01, c02, c03⟩ := Gb.open2
    go_wp2_with fail
    refine (rnode_c _ _ _ _ _ _).mono ?_
    rw [Q1.out]
    rintro e w3 ⟨rfl, hb⟩
    clear c00 c01 c02 c03
    replace Gb := Gb.keep hb
    replace hB := bt hB hb
    clear hb
    go_wp2_with fail
    go_returns
    exact ⟨ret_ints HS.out.symm HE.out.symm, hB⟩
  have h9 : ¬ (8192 : Int) < (l : Int) := by omega
  have N := Ce.en_ok.1 H.out
  have O := N.ok
  have HK := Lib.hid k0
  have Q0 := Lib.hid q0
  have Q1 := Lib.hid q1
  clear k0 q0 q1
  go_enter Try.func49, Try.ntmps49
  have Gb := Blk.new w 41 #[.int .i64 (n), .slice A m c]
  have hB := ba w (.cells #[.int .i64 (n), .slice A m c] 41)
  obtain ⟨c00, c01, c02, c03⟩ := Gb.open2
  go_wp2_with fail
  refine (rcheck_c _ _ _ _ _ _ (T.keep hB) n1 n2).mono ?_
  rw [HK.out]
  rintro e w1 ⟨rfl, hb⟩
  clear c00 c01 c02 c03
  replace Gb := Gb.keep hb
  replace hB := bt hB hb
  clear hb
  obtain ⟨c00, c01, c02, c03⟩ := Gb.open2
  go_wp2_with fail
  refine (rnode_c _ _ _ _ _ _).mono ?_
  rw [Q0.out]
  rintro e w2 ⟨rfl, hb⟩
  clear c00 c01 c02 c03
  replace Gb := Gb.keep hb
  replace hB := bt hB hb
  clear hb
  obtain ⟨c00, c01, c02, c03⟩ := Gb.open2
  go_wp2_with fail
  refine (rnode_c _ _ _ _ _ _).mono ?_
  rw [Q1.out]
  rintro e w3 ⟨rfl, hb⟩
  clear c00 c01 c02 c03
  replace Gb := Gb.keep hb
  replace hB := bt hB hb
  clear hb
  go_wp2_with fail
  go_loopw [37] (fun i wr => ∃ k : Nat, k ≤ l ∧ i = .int .i64 k ∧ Hid (Ce.okI m R k = true) ∧ Blk wr w.heap.size 41 #[.int .i64 (n), .slice A m c] ∧ Below w.heap.size w wr) (fun i _ => l - (intOf i).toNat)
  case atStart => exact ⟨0, Nat.zero_le _, rfl, rfl, Gb, hB⟩
  case round =>
    clear Gb hB
    rename_i wr
    obtain ⟨k, hk, rfl, hok, Gb, hB⟩ := hrel
    obtain ⟨y0, y1, y2, y3⟩ := Gb.open2
    by_cases hlt : k < l
    · obtain ⟨bb, off, eA, hbl, u0⟩ := (U.keep hB).at1 hlt
      have HA := Lib.hid eA
      rw [HA.out]
      clear eA
      by_cases k0 : R k < 0
      · have HE := Lib.hid (Ce.cer_6 (R := R) H.out h8 hlt (by omega))
        have HS := Lib.hid (Ce.cst_no (n := n) (m := m) (E := E) (a := a) (b := b) (l := l) (R := R) (by rw [HE.out]; decide))
        go_wp2_with fail
        go_returns
        exact ⟨ret_ints HS.out.symm HE.out.symm, hB⟩
      by_cases k1 : R k < (m : Int)
      rotate_left
      · have k2 : (m : Int) ≤ R k := by omega
        have HE := Lib.hid (Ce.cer_6 (R := R) H.out h8 hlt (by omega))
        have HS := Lib.hid (Ce.cst_no (n := n) (m := m) (E := E) (a := a) (b := b) (l := l) (R := R) (by rw [HE.out]; decide))
        go_wp2_with fail
        go_returns
        exact ⟨ret_ints HS.out.symm HE.out.symm, hB⟩
      have d1 : decide ((m : Int) ≤ R k) = false := decide_eq_false (by omega)
      have HO := Lib.hid (show Ce.okI m R (k + 1) = true by rw [Ce.okI, hok.out, decide_eq_true (by omega)]; rfl)
      go_wp2_with fail
      go_roundw
      case rel => exact ⟨k + 1, by omega, by go_num, HO, Gb, hB⟩
      case measure => simp [intOf]; omega
    · obtain rfl : k = l := by omega
      clear y0 y1 y2 y3
      have hI := (Ce.okI_iff m R k).1 hok.out
      have HI := Lib.hid hI
      clear hI
      go_wp2_with fail
      go_loopw [13, 14, 54] (fun s t i wr => ∃ j : Nat, j ≤ k ∧ i = .int .i64 j ∧ s = .int .i64 (Ce.ps E R a j) ∧ t = .int .i64 (Ce.csum E R j) ∧ Hid (Ce.okP E R a j = true) ∧ Blk wr w.heap.size 41 #[.int .i64 (n), .slice A m c] ∧ Below w.heap.size w wr) (fun _ _ i _ => k - (intOf i).toNat)
      case atStart => exact ⟨0, Nat.zero_le _, rfl, rfl, rfl, rfl, Gb, hB⟩
      case round =>
        clear Gb hB
        rename_i wr
        obtain ⟨j, hj, rfl, rfl, rfl, hop, Gb, hB⟩ := hrel
        by_cases hlt : j < k
        · obtain ⟨bb, off, eA, hbl, u0⟩ := (U.keep hB).at1 hlt
          have hr := HI.out j hlt
          obtain ⟨r, er⟩ : ∃ r : Nat, R j = (r : Int) := ⟨(R j).toNat, by omega⟩
          have hrm : r < m := by omega
          obtain ⟨b3, off3, eB, hbl3, v0, v1, v2⟩ := (T.keep hB).at3 hrm
          have HA := Lib.hid eA
          have HB := Lib.hid eB
          rw [HA.out]
          rw [HB.out] at Gb ⊢
          clear eA eB
          rw [er] at u0
          obtain ⟨y0, y1, y2, y3⟩ := Gb.open2
          have i1 : (0 : Int) ≤ (r : Int) := by omega
          have i2 : (r : Int) < (m : Int) := by omega
          have ER := Lib.hid (show (R j).toNat = r by omega)
          have cb := Ce.csum_bd O (R := R) (l := j) (fun q hq => HI.out q (by omega))
          have ec0 := (O.e r hrm).c0
          have ec1 := (O.e r hrm).c1
          clear er hr
          by_cases hx : E r 0 = Ce.ps E R a j
          rotate_left
          · have h1 : (E r 0 != Ce.ps E R a j) = true := by simpa using hx
            have HE := Lib.hid (Ce.cer_9 (R := R) H.out h8 hok.out hlt (by rw [ER.out]; exact hx))
            have HS := Lib.hid (Ce.cst_no (n := n) (m := m) (E := E) (a := a) (b := b) (l := k) (R := R) (by rw [HE.out]; decide))
            clear hx
            go_wp2_with fail
            go_returns
            exact ⟨ret_ints HS.out.symm HE.out.symm, hB⟩
          have h1 : (E r 0 != Ce.ps E R a j) = false := by simpa using hx
          have HO := Lib.hid (show Ce.okP E R a (j + 1) = true by rw [Ce.okP, hop.out, ER.out, decide_eq_true hx]; rfl)
          have EP := Lib.hid (show Ce.ps E R a (j + 1) = E r 1 by rw [Ce.ps, ER.out])
          have EC := Lib.hid (show Ce.csum E R (j + 1) = Ce.csum E R j + E r 2 by unfold Ce.csum; rw [Ce.sm, ER.out])
          clear hx
          go_wp2_with fail
          go_quiet (fail)
          go_wp2_with fail
          go_roundw
          case rel => exact ⟨j + 1, by omega, by go_num, by rw [EP.out], by rw [EC.out], HO, Gb.drewN _, bdnl hB _⟩
          case measure => simp [intOf]; omega
        · obtain rfl : j = k := by omega
          by_cases hx : Ce.ps E R a j = b
          rotate_left
          · have h1 : (Ce.ps E R a j != b) = true := by simpa using hx
            have HE := Lib.hid (Ce.cer_9e (R := R) H.out h8 hok.out hx)
            have HS := Lib.hid (Ce.cst_no (n := n) (m := m) (E := E) (a := a) (b := b) (l := j) (R := R) (by rw [HE.out]; decide))
            clear hx
            go_wp2_with fail
            go_returns
            exact ⟨ret_ints HS.out.symm HE.out.symm, hB⟩
          have h1 : (Ce.ps E R a j != b) = false := by simpa using hx
          have HE := Lib.hid (Ce.cer_0 (R := R) H.out h8 hok.out hop.out hx)
          have HS := Lib.hid (Ce.cst_yes HE.out)
          clear hx
          go_wp2_with fail
          go_returns
          exact ⟨ret_ints HS.out.symm HE.out.symm, hB⟩
end Go.Proofs.Ytoeklllahpegfaa
/-
  Contracts: Violated, of both.
-/
namespace Go.Proofs.Ytoeklllahpegfaa
set_option linter.unusedVariables false
set_option linter.unusedSimpArgs false
open Go.RowKit
attribute [local irreducible] World.setCell World.cell?

set_option maxRecDepth 100000 in
set_option maxHeartbeats 4000000 in
theorem violated_c (A : Option Addr) (n : Int) (m c : Nat) (E : Ce.Tab) (w : World) (T : Rd w 3 A m c (iv E)) (n1 : -9223372036854775808 ≤ n) (n2 : n ≤ 9223372036854775807) (B : Option Addr) (l d : Nat) (P : Nat → Int) (U : Rd w 1 B l d (nv P)) : Calls Try.prog 52 #[.agg #[.int .i64 n, .slice A m c], .slice B l d] w fun e w' => e = .returned (.tuple #[.int .i64 (Ce.vix n m E l P), .int .i64 (Ce.ver n m E l P)]) ∧ Below w.heap.size w w' := by
  have r1 := T.le
  have r2 := T.mx
  have s1 := U.le
  have s2 := U.mx
  by_cases h : Ce.ck n m E = 0
  rotate_left
  · have h1 : (Ce.ck n m E != 0) = true := by simpa using h
    have HE := Lib.hid (Ce.ver_ck (l := l) (P := P) h)
    have HS := Lib.hid (Ce.vix_no (n := n) (m := m) (E := E) (l := l) (P := P) (by rw [HE.out]; exact h))
    clear h
    go_enter Try.func52, Try.ntmps52
    have Gb := Blk.new w 41 #[.int .i64 (n), .slice A m c]
    have hB := ba w (.cells #[.int .i64 (n), .slice A m c] 41)
    have Pb := Blk.new1 w (.cells #[.int .i64 (n), .slice A m c] 41) 22 #[.slice B l d]
    replace Gb := Gb.alloc (.cells #[.slice B l d] 22)
    replace hB := bal hB (.cells #[.slice B l d] 22)
    obtain ⟨c00, c01, c02, c03⟩ := Gb.open2
    obtain ⟨c10, c11, c12⟩ := Pb.open1
    go_wp2_with fail
    refine (check_c _ _ _ _ _ _ (T.keep hB) n1 n2).mono ?_
    rintro e w1 ⟨rfl, hb⟩
    clear c00 c01 c02 c03 c10 c11 c12
    replace Gb := Gb.keep hb
    replace Pb := Pb.keep hb
    replace hB := bt hB hb
    clear hb
    go_wp2_with fail
    go_returns
    exact ⟨ret_ints HS.out.symm HE.out.symm, hB⟩
  have O := Ce.ck_ok.1 h
  have on1 := O.n1
  have on2 := O.n2
  have om := O.hm
  by_cases hn : (l : Int) = n
  rotate_left
  · have h1 : ((l : Int) != n) = true := by simpa using hn
    have HE := Lib.hid (Ce.ver_1 (P := P) h hn)
    have HS := Lib.hid (Ce.vix_no (n := n) (m := m) (E := E) (l := l) (P := P) (by rw [HE.out]; decide))
    have H := Lib.hid h
    clear h hn
    go_enter Try.func52, Try.ntmps52
    have Gb := Blk.new w 41 #[.int .i64 (n), .slice A m c]
    have hB := ba w (.cells #[.int .i64 (n), .slice A m c] 41)
    have Pb := Blk.new1 w (.cells #[.int .i64 (n), .slice A m c] 41) 22 #[.slice B l d]
    replace Gb := Gb.alloc (.cells #[.slice B l d] 22)
    replace hB := bal hB (.cells #[.slice B l d] 22)
    obtain ⟨c00, c01, c02, c03⟩ := Gb.open2
    obtain ⟨c10, c11, c12⟩ := Pb.open1
    go_wp2_with fail
    refine (check_c _ _ _ _ _ _ (T.keep hB) n1 n2).mono ?_
    rw [H.out]
    rintro e w1 ⟨rfl, hb⟩
    clear c00 c01 c02 c03 c10 c11 c12
    replace Gb := Gb.keep hb
    replace Pb := Pb.keep hb
    replace hB := bt hB hb
    clear hb
    obtain ⟨c00, c01, c02, c03⟩ := Gb.open2
    obtain ⟨c10, c11, c12⟩ := Pb.open1
    go_wp2_with fail
    go_returns
    exact ⟨ret_ints HS.out.symm HE.out.symm, hB⟩
  subst hn
  have H := Lib.hid h
  clear h
  go_enter Try.func52, Try.ntmps52
  have Gb := Blk.new w 41 #[.int .i64 (l), .slice A m c]
  have hB := ba w (.cells #[.int .i64 (l), .slice A m c] 41)
  have Pb := Blk.new1 w (.cells #[.int .i64 (l), .slice A m c] 41) 22 #[.slice B l d]
  replace Gb := Gb.alloc (.cells #[.slice B l d] 22)
  replace hB := bal hB (.cells #[.slice B l d] 22)
  obtain ⟨c00, c01, c02, c03⟩ := Gb.open2
  obtain ⟨c10, c11, c12⟩ := Pb.open1
  go_wp2_with fail
  refine (check_c _ _ _ _ _ _ (T.keep hB) n1 n2).mono ?_
  rw [H.out]
  rintro e w1 ⟨rfl, hb⟩
  clear c00 c01 c02 c03 c10 c11 c12
  replace Gb := Gb.keep hb
  replace Pb := Pb.keep hb
  replace hB := bt hB hb
  clear hb
  obtain ⟨c00, c01, c02, c03⟩ := Gb.open2
  obtain ⟨c10, c11, c12⟩ := Pb.open1
  go_wp2_with fail
  clear c00 c01 c02 c03 c10 c11 c12
  go_loopw [21] (fun i wr => ∃ k : Nat, k ≤ l ∧ i = .int .i64 k ∧ Hid (Ce.okR P k = true) ∧ Blk wr w.heap.size 41 #[.int .i64 (l), .slice A m c] ∧ Blk wr (w.heap.size + 1) 22 #[.slice B l d] ∧ Below w.heap.size w wr) (fun i _ => l - (intOf i).toNat)
  case atStart => exact ⟨0, Nat.zero_le _, rfl, rfl, Gb, Pb, hB⟩
  case round =>
    clear Gb Pb hB
    obtain ⟨k, hk, rfl, hok, Gb, Pb, hB⟩ := hrel
    by_cases hlt : k < l
    · obtain ⟨bb, off, eA, hbl, u0⟩ := (U.keep hB).at1 hlt
      have HA := Lib.hid eA
      rw [HA.out] at Pb ⊢
      clear eA
      by_cases k0 : P k < -1152921504606846976
      · have HE := Lib.hid (Ce.ver_2 H.out rfl hlt (P := P) (by omega))
        have HS := Lib.hid (Ce.vix_no (n := (l : Int)) (m := m) (E := E) (l := l) (P := P) (by rw [HE.out]; decide))
        go_wp2_with fail
        go_returns
        exact ⟨ret_ints HS.out.symm HE.out.symm, hB⟩
      by_cases k1 : 1152921504606846976 < P k
      · have HE := Lib.hid (Ce.ver_2 H.out rfl hlt (P := P) (by omega))
        have HS := Lib.hid (Ce.vix_no (n := (l : Int)) (m := m) (E := E) (l := l) (P := P) (by rw [HE.out]; decide))
        go_wp2_with fail
        go_returns
        exact ⟨ret_ints HS.out.symm HE.out.symm, hB⟩
      have HO := Lib.hid (show Ce.okR P (k + 1) = true by rw [Ce.okR, hok.out, decide_eq_true (by omega)]; rfl)
      go_wp2_with fail
      go_roundw
      case rel => exact ⟨k + 1, by omega, by go_num, HO, Gb, Pb, hB⟩
      case measure => simp [intOf]; omega
    · obtain rfl : k = l := by omega
      have HE := Lib.hid (Ce.ver_0 H.out rfl hok.out)
      have HX := Lib.hid (Ce.vix_yes HE.out)
      have hR := (Ce.okR_iff P k).1 hok.out
      have HR := Lib.hid hR
      clear hR
      have hv : ∀ (W : World) (i : Nat), i < m → Below wr.heap.size wr W → Calls Try.prog 82 (#[.agg #[.int .i64 (E i 0), .int .i64 (E i 1), .int .i64 (E i 2)]] ++ #[.pointer (some ⟨w.heap.size + 1, 0, none⟩)]) W fun e w' => e = .returned (.bool (Ce.vp E P i)) ∧ Below W.heap.size W w' := fun W i hi hb => by
        have he := O.e i hi
        exact vio_c _ _ _ E i W (w.heap.size + 1) B k d P (U.keep (bt hB hb)) (Pb.keep hb) rfl rfl rfl he.f0 he.f1 he.t0 he.t1 HR.out he.c0 he.c1
      obtain ⟨y0, y1, y2, y3⟩ := Gb.open2
      go_wp2_with fail
      refine (index_c (Ce.vp E P) 82 (enters_of Try.func82 (by kernel_rfl) rfl) #[.pointer (some ⟨w.heap.size + 1, 0, none⟩)] _ _ _ _ _ (T.keep hB) hv).mono ?_
      rintro e w9 ⟨rfl, hb⟩
      replace hB := bt hB hb
      clear hb hv
      rw [← HX.out]
      go_wp2_with fail
      go_returns
      exact ⟨ret_ints rfl HE.out.symm, hB⟩
end Go.Proofs.Ytoeklllahpegfaa
/-
  Contracts: Bound, of both.
-/
namespace Go.Proofs.Ytoeklllahpegfaa
set_option linter.unusedVariables false
set_option linter.unusedSimpArgs false
open Go.RowKit
attribute [local irreducible] World.setCell World.cell?

set_option maxRecDepth 100000 in
set_option maxHeartbeats 4000000 in
theorem bound_c (A : Option Addr) (n : Int) (m c : Nat) (E : Ce.Tab) (w : World) (T : Rd w 3 A m c (iv E)) (n1 : -9223372036854775808 ≤ n) (n2 : n ≤ 9223372036854775807) (a b : Int) (B : Option Addr) (l d : Nat) (P : Nat → Int) (U : Rd w 1 B l d (nv P)) : Calls Try.prog 28 #[.agg #[.int .i64 n, .slice A m c], .int .i64 a, .int .i64 b, .slice B l d] w fun e w' => e = .returned (.tuple #[.int .i64 (Ce.bnd n m E a b l P), .int .i64 (Ce.ber n m E a b l P)]) ∧ Below w.heap.size w w' := by
  have r1 := T.le
  have r2 := T.mx
  have s1 := U.le
  have s2 := U.mx
  by_cases h : Ce.en n m E a b = 0
  rotate_left
  · have h1 : (Ce.en n m E a b != 0) = true := by simpa using h
    have HE := Lib.hid (Ce.ber_en (l := l) (P := P) h)
    have HS := Lib.hid (Ce.bnd_no (n := n) (m := m) (E := E) (a := a) (b := b) (l := l) (P := P) (by rw [HE.out]; exact h))
    clear h
    go_enter Try.func28, Try.ntmps28
    have Gb := Blk.new w 41 #[.int .i64 (n), .slice A m c]
    have hB := ba w (.cells #[.int .i64 (n), .slice A m c] 41)
    obtain ⟨c00, c01, c02, c03⟩ := Gb.open2
    go_wp2_with fail
    refine (ends_c _ _ _ _ _ _ (T.keep hB) n1 n2 _ _).mono ?_
    rintro e w1 ⟨rfl, hb⟩
    clear c00 c01 c02 c03
    replace Gb := Gb.keep hb
    replace hB := bt hB hb
    clear hb
    go_wp2_with fail
    go_returns
    exact ⟨ret_ints HS.out.symm HE.out.symm, hB⟩
  have N := Ce.en_ok.1 h
  have H := Lib.hid h
  clear h
  by_cases hv : Ce.ver n m E l P = 0
  rotate_left
  · have h1 : (Ce.ver n m E l P != 0) = true := by simpa using hv
    have HE := Lib.hid (Ce.ber_ver H.out hv)
    have HS := Lib.hid (Ce.bnd_no (n := n) (m := m) (E := E) (a := a) (b := b) (l := l) (P := P) (by rw [HE.out]; exact hv))
    clear hv
    go_enter Try.func28, Try.ntmps28
    have Gb := Blk.new w 41 #[.int .i64 (n), .slice A m c]
    have hB := ba w (.cells #[.int .i64 (n), .slice A m c] 41)
    obtain ⟨c00, c01, c02, c03⟩ := Gb.open2
    go_wp2_with fail
    refine (ends_c _ _ _ _ _ _ (T.keep hB) n1 n2 _ _).mono ?_
    rw [H.out]
    rintro e w1 ⟨rfl, hb⟩
    clear c00 c01 c02 c03
    replace Gb := Gb.keep hb
    replace hB := bt hB hb
    clear hb
    obtain ⟨c00, c01, c02, c03⟩ := Gb.open2
    go_wp2_with fail
    refine (violated_c _ _ _ _ _ _ (T.keep hB) n1 n2 _ _ _ _ (U.keep hB)).mono ?_
    rintro e w2 ⟨rfl, hb⟩
    clear c00 c01 c02 c03
    replace Gb := Gb.keep hb
    replace hB := bt hB hb
    clear hb
    go_wp2_with fail
    go_returns
    exact ⟨ret_ints HS.out.symm HE.out.symm, hB⟩
  have K := Ce.ver_ok.1 hv
  have HV := Lib.hid hv
  have HX := Lib.hid (Ce.vix_yes hv)
  clear hv
  by_cases hf : 0 ≤ Ce.fi (Ce.vp E P) m
  · have HE := Lib.hid (Ce.ber_9 H.out HV.out hf)
    have HS := Lib.hid (Ce.bnd_no (n := n) (m := m) (E := E) (a := a) (b := b) (l := l) (P := P) (by rw [HE.out]; decide))
    go_enter Try.func28, Try.ntmps28
    have Gb := Blk.new w 41 #[.int .i64 (n), .slice A m c]
    have hB := ba w (.cells #[.int .i64 (n), .slice A m c] 41)
    obtain ⟨c00, c01, c02, c03⟩ := Gb.open2
    go_wp2_with fail
    refine (ends_c _ _ _ _ _ _ (T.keep hB) n1 n2 _ _).mono ?_
    rw [H.out]
    rintro e w1 ⟨rfl, hb⟩
    clear c00 c01 c02 c03
    replace Gb := Gb.keep hb
    replace hB := bt hB hb
    clear hb
    obtain ⟨c00, c01, c02, c03⟩ := Gb.open2
    go_wp2_with fail
    refine (violated_c _ _ _ _ _ _ (T.keep hB) n1 n2 _ _ _ _ (U.keep hB)).mono ?_
    rw [HX.out, HV.out]
    rintro e w2 ⟨rfl, hb⟩
    clear c00 c01 c02 c03
    replace Gb := Gb.keep hb
    replace hB := bt hB hb
    clear hb
    go_wp2_with fail
    go_returns
    exact ⟨ret_ints HS.out.symm HE.out.symm, hB⟩
  have hf' : ¬ 0 ≤ Ce.fi (Ce.vp E P) m := hf
  have HE := Lib.hid (Ce.ber_0 H.out HV.out (by omega))
  have HS := Lib.hid (Ce.bnd_yes HE.out)
  obtain ⟨an, ea⟩ : ∃ q : Nat, a = (q : Int) := ⟨a.toNat, by have := N.a0; omega⟩
  obtain ⟨bn, eb⟩ : ∃ q : Nat, b = (q : Int) := ⟨b.toNat, by have := N.b0; omega⟩
  subst ea eb
  simp only [Int.toNat_natCast] at HS
  have ha : an < l := by have := N.a1; have := K.hl; omega
  have hb : bn < l := by have := N.b1; have := K.hl; omega
  have p1 := K.r an ha
  have p2 := K.r bn hb
  go_enter Try.func28, Try.ntmps28
  have Gb := Blk.new w 41 #[.int .i64 (n), .slice A m c]
  have hB := ba w (.cells #[.int .i64 (n), .slice A m c] 41)
  obtain ⟨c00, c01, c02, c03⟩ := Gb.open2
  go_wp2_with fail
  refine (ends_c _ _ _ _ _ _ (T.keep hB) n1 n2 _ _).mono ?_
  rw [H.out]
  rintro e w1 ⟨rfl, hb⟩
  clear c00 c01 c02 c03
  replace Gb := Gb.keep hb
  replace hB := bt hB hb
  clear hb
  obtain ⟨c00, c01, c02, c03⟩ := Gb.open2
  go_wp2_with fail
  refine (violated_c _ _ _ _ _ _ (T.keep hB) n1 n2 _ _ _ _ (U.keep hB)).mono ?_
  rw [HX.out, HV.out]
  rintro e w2 ⟨rfl, hb⟩
  clear c00 c01 c02 c03
  replace Gb := Gb.keep hb
  replace hB := bt hB hb
  clear hb
  obtain ⟨bb, off, eA, hbl, u0⟩ := (U.keep hB).at1 ha
  obtain ⟨bb', off', eA', hbl', u1⟩ := (U.keep hB).at1 hb
  rw [eA] at eA'
  injection eA' with eA'
  injection eA' with eA1 eA2 eA3
  subst eA1 eA2
  have HA := Lib.hid eA
  rw [HA.out]
  clear eA
  go_wp2_with fail
  go_quiet (fail)
  go_wp2_with fail
  go_returns
  exact ⟨ret_ints HS.out.symm HE.out.symm, bdnl hB _⟩
end Go.Proofs.Ytoeklllahpegfaa
/-
  Contracts: Accept, of both.
-/
namespace Go.Proofs.Ytoeklllahpegfaa
set_option linter.unusedVariables false
set_option linter.unusedSimpArgs false
open Go.RowKit
attribute [local irreducible] World.setCell World.cell?

set_option maxRecDepth 100000 in
set_option maxHeartbeats 4000000 in
theorem accept_c (A : Option Addr) (n : Int) (m c : Nat) (E : Ce.Tab) (w : World) (T : Rd w 3 A m c (iv E)) (n1 : -9223372036854775808 ≤ n) (n2 : n ≤ 9223372036854775807) (a b : Int) (B : Option Addr) (l d : Nat) (P : Nat → Int) (U : Rd w 1 B l d (nv P)) (S : Option Addr) (r s : Nat) (R : Nat → Int) (V : Rd w 1 S r s (nv R)) : Calls Try.prog 31 #[.agg #[.int .i64 n, .slice A m c], .int .i64 a, .int .i64 b, .slice B l d, .slice S r s] w fun e w' => e = .returned (.int .i64 (Ce.acc n m E a b l P r R)) ∧ Below w.heap.size w w' := by
  have r1 := T.le
  have r2 := T.mx
  by_cases h : Ce.cer n m E a b r R = 0
  rotate_left
  · have h1 : (Ce.cer n m E a b r R != 0) = true := by simpa using h
    have HE := Lib.hid (show Ce.acc n m E a b l P r R = Ce.cer n m E a b r R from if_pos h)
    clear h
    go_enter Try.func31, Try.ntmps31
    have Gb := Blk.new w 41 #[.int .i64 (n), .slice A m c]
    have hB := ba w (.cells #[.int .i64 (n), .slice A m c] 41)
    obtain ⟨c00, c01, c02, c03⟩ := Gb.open2
    go_wp2_with fail
    refine (cost_c _ _ _ _ _ _ (T.keep hB) n1 n2 _ _ _ _ _ _ (V.keep hB)).mono ?_
    rintro e w1 ⟨rfl, hb⟩
    clear c00 c01 c02 c03
    replace Gb := Gb.keep hb
    replace hB := bt hB hb
    clear hb
    go_wp2_with fail
    go_returns
    exact ⟨ret_int HE.out.symm, hB⟩
  have hd : ¬ Ce.cer n m E a b r R ≠ 0 := by omega
  have H := Lib.hid h
  clear h
  by_cases hv : Ce.ber n m E a b l P = 0
  rotate_left
  · have h1 : (Ce.ber n m E a b l P != 0) = true := by simpa using hv
    have HE := Lib.hid (show Ce.acc n m E a b l P r R = Ce.ber n m E a b l P by unfold Ce.acc; rw [if_neg hd, if_pos hv])
    clear hv hd
    go_enter Try.func31, Try.ntmps31
    have Gb := Blk.new w 41 #[.int .i64 (n), .slice A m c]
    have hB := ba w (.cells #[.int .i64 (n), .slice A m c] 41)
    obtain ⟨c00, c01, c02, c03⟩ := Gb.open2
    go_wp2_with fail
    refine (cost_c _ _ _ _ _ _ (T.keep hB) n1 n2 _ _ _ _ _ _ (V.keep hB)).mono ?_
    rw [H.out]
    rintro e w1 ⟨rfl, hb⟩
    clear c00 c01 c02 c03
    replace Gb := Gb.keep hb
    replace hB := bt hB hb
    clear hb
    obtain ⟨c00, c01, c02, c03⟩ := Gb.open2
    go_wp2_with fail
    refine (bound_c _ _ _ _ _ _ (T.keep hB) n1 n2 _ _ _ _ _ _ (U.keep hB)).mono ?_
    rintro e w2 ⟨rfl, hb⟩
    clear c00 c01 c02 c03
    replace Gb := Gb.keep hb
    replace hB := bt hB hb
    clear hb
    go_wp2_with fail
    go_returns
    exact ⟨ret_int HE.out.symm, hB⟩
  have hd2 : ¬ Ce.ber n m E a b l P ≠ 0 := by omega
  have HV := Lib.hid hv
  clear hv
  by_cases hc : Ce.bnd n m E a b l P < Ce.cst n m E a b r R
  · have HE := Lib.hid (show Ce.acc n m E a b l P r R = 11 by unfold Ce.acc; rw [if_neg hd, if_neg hd2, if_pos (by omega)])
    clear hd hd2
    go_enter Try.func31, Try.ntmps31
    have Gb := Blk.new w 41 #[.int .i64 (n), .slice A m c]
    have hB := ba w (.cells #[.int .i64 (n), .slice A m c] 41)
    obtain ⟨c00, c01, c02, c03⟩ := Gb.open2
    go_wp2_with fail
    refine (cost_c _ _ _ _ _ _ (T.keep hB) n1 n2 _ _ _ _ _ _ (V.keep hB)).mono ?_
    rw [H.out]
    rintro e w1 ⟨rfl, hb⟩
    clear c00 c01 c02 c03
    replace Gb := Gb.keep hb
    replace hB := bt hB hb
    clear hb
    obtain ⟨c00, c01, c02, c03⟩ := Gb.open2
    go_wp2_with fail
    refine (bound_c _ _ _ _ _ _ (T.keep hB) n1 n2 _ _ _ _ _ _ (U.keep hB)).mono ?_
    rw [HV.out]
    rintro e w2 ⟨rfl, hb⟩
    clear c00 c01 c02 c03
    replace Gb := Gb.keep hb
    replace hB := bt hB hb
    clear hb
    go_wp2_with fail
    go_returns
    exact ⟨ret_int HE.out.symm, hB⟩
  · have HE := Lib.hid (show Ce.acc n m E a b l P r R = 0 by unfold Ce.acc; rw [if_neg hd, if_neg hd2, if_neg (by omega)])
    clear hd hd2
    go_enter Try.func31, Try.ntmps31
    have Gb := Blk.new w 41 #[.int .i64 (n), .slice A m c]
    have hB := ba w (.cells #[.int .i64 (n), .slice A m c] 41)
    obtain ⟨c00, c01, c02, c03⟩ := Gb.open2
    go_wp2_with fail
    refine (cost_c _ _ _ _ _ _ (T.keep hB) n1 n2 _ _ _ _ _ _ (V.keep hB)).mono ?_
    rw [H.out]
    rintro e w1 ⟨rfl, hb⟩
    clear c00 c01 c02 c03
    replace Gb := Gb.keep hb
    replace hB := bt hB hb
    clear hb
    obtain ⟨c00, c01, c02, c03⟩ := Gb.open2
    go_wp2_with fail
    refine (bound_c _ _ _ _ _ _ (T.keep hB) n1 n2 _ _ _ _ _ _ (U.keep hB)).mono ?_
    rw [HV.out]
    rintro e w2 ⟨rfl, hb⟩
    clear c00 c01 c02 c03
    replace Gb := Gb.keep hb
    replace hB := bt hB hb
    clear hb
    go_wp2_with fail
    go_returns
    exact ⟨ret_int HE.out.symm, hB⟩
end Go.Proofs.Ytoeklllahpegfaa
/-
  Contract: awake.
-/
namespace Go.Proofs.Ytoeklllahpegfaa
set_option linter.unusedVariables false
set_option linter.unusedSimpArgs false
open Go.RowKit
attribute [local irreducible] World.setCell World.cell?

theorem exOk : Ce.Ok ((4 : Nat) : Int) 4 exE := Ce.ck_ok.1 (by decide)
def exC : Nat → Int := f4 0 4 2 (-1)
def exD : Nat → Int := f4 0 2 1 0
theorem exLab : Ce.Lab 4 4 exE 0 exC exD where
  c0 := rfl
  d0 := rfl
  rng v hv := by
    match v, hv with
    | 0, _ => right; decide
    | 1, _ => right; decide
    | 2, _ => right; decide
    | 3, _ => left; rfl
  tri i hi hc := by
    unfold Ce.le2
    match i, hi with
    | 0, _ => decide
    | 1, _ => decide
    | 2, _ => decide
    | 3, _ => decide
  pre v hv hc hne := by
    match v, hv with
    | 0, _ => exact absurd rfl hne
    | 1, _ => exact ⟨2, by decide⟩
    | 2, _ => exact ⟨1, by decide⟩
    | 3, _ => exact absurd hc (by decide)
theorem solve_ex1 (A : Option Addr) (W : World) (T : Rd W 3 A 4 4 (iv exE)) : Calls Try.prog 30 #[.agg #[.int .i64 4, .slice A 4 4], .int .i64 0, .int .i64 1] W fun e w' => ∃ (A1 : Option Addr) (c1 : Nat) (A2 : Option Addr) (c2 : Nat), e = .returned (.tuple #[.slice A1 2 c1, .slice A2 4 c2, .int .i64 0]) ∧ Rd w' 1 A1 2 c1 (nv (f4 1 2 0 0)) ∧ Rd w' 1 A2 4 c2 (nv (f4 0 4 2 4)) ∧ Below W.heap.size W w' := by
  refine Calls.mono (solve_c A 4 4 4 exE 0 W T exOk (by omega) 1 (by omega)) ?_
  rintro e w' ⟨C, D, HL, h1, ⟨h2, _⟩ | ⟨h2, A1, c1, A2, c2, h3, h4, h5⟩⟩
  · have := (HL.out.uniq exOk exLab (show 1 < 4 by omega)).1
    rw [this] at h2
    exact absurd h2 (by decide)
  · have hd := (HL.out.uniq exOk exLab (show 1 < 4 by omega)).2 h2
    have e2 : (D 1).toNat = 2 := by rw [hd]; rfl
    rw [e2] at h3 h4
    refine ⟨A1, c1, A2, c2, h3, h4.congr fun i j hi _ => ?_, h5.congr fun i j hi _ => ?_, h1⟩
    · unfold nv
      rw [Ce.rt_congr exOk HL.out exLab (b := ((1 : Nat) : Int)) (by omega) (by omega) (by simpa using h2) (by simpa [e2] using hi)]
      match i, hi with
      | 0, _ => rfl
      | 1, _ => rfl
    · unfold nv
      rw [Ce.pot_congr exOk HL.out exLab hi]
      match i, hi with
      | 0, _ => rfl
      | 1, _ => rfl
      | 2, _ => rfl
      | 3, _ => rfl
theorem solve_ex3 (A : Option Addr) (W : World) (T : Rd W 3 A 4 4 (iv exE)) : Calls Try.prog 30 #[.agg #[.int .i64 4, .slice A 4 4], .int .i64 0, .int .i64 3] W fun e w' => e = .returned (.tuple #[.slice none 0 0, .slice none 0 0, .int .i64 6]) ∧ Below W.heap.size W w' := by
  refine Calls.mono (solve_c A 4 4 4 exE 0 W T exOk (by omega) 3 (by omega)) ?_
  rintro e w' ⟨C, D, HL, h1, ⟨h2, h3⟩ | ⟨h2, _⟩⟩
  · exact ⟨h3, h1⟩
  · have := (HL.out.uniq exOk exLab (show 3 < 4 by omega)).1
    rw [this] at h2
    exact absurd h2 (by decide)
end Go.Proofs.Ytoeklllahpegfaa
/-
  Words for walk.
-/
namespace Go.Proofs.Ytoeklllahpegfaa
set_option linter.unusedVariables false
set_option linter.unusedSimpArgs false
open Go.RowKit
attribute [local irreducible] World.setCell World.cell?

def bv (N : Nat → Int) : Nat → Nat → Value := fun i _ => .int .u8 (N i)
theorem Rd.atb {w : World} {A : Option Addr} {n c : Nat} {N : Nat → Int} (h : Rd w 1 A n c (bv N)) {k : Nat} (hk : k < n) : ∃ b off, A = some ⟨b, off, none⟩ ∧ b < w.heap.size ∧ w.cell? ⟨b, off + k, none⟩ = some (.int .u8 (N k)) := by
  obtain ⟨b, off, e, hl, hc⟩ := h.at_ (by omega)
  exact ⟨b, off, e, hl, by simpa [bv] using hc k 0 hk (by omega)⟩
namespace Ce
theorem ps_up (E : Tab) (R : Nat → Int) (a : Int) (l : Nat) (x : Int) : ∀ k, k ≤ l → ps E (up R l x) a k = ps E R a k
  | 0, _ => rfl
  | k + 1, h => by rw [ps, ps, up_ne (show k ≠ l by omega)]
theorem Rt.start (m : Nat) (E : Tab) (a : Int) (R : Nat → Int) : Rt m E a a 0 R := ⟨by omega, fun k hk => absurd hk (Nat.not_lt_zero _), fun k hk => absurd hk (Nat.not_lt_zero _), rfl⟩
theorem Rt.snoc {m : Nat} {E : Tab} {a x : Int} {l : Nat} {R : Nat → Int} (h : Rt m E a x l R) (hl : l < 8192) {k : Int} (k0 : 0 ≤ k) (k1 : k < m) (hk : E k.toNat 0 = x) : Rt m E a (E k.toNat 1) (l + 1) (up R l k) := by
  refine ⟨by omega, fun j hj => ?_, fun j hj => ?_, ?_⟩
  · by_cases e : j = l
    · subst e; rw [up_at]; exact ⟨k0, k1⟩
    · rw [up_ne e]; exact h.i j (by omega)
  · rw [ps_up E R a l k j (by omega)]
    by_cases e : j = l
    · subst e; rw [up_at, hk]; exact h.e.symm
    · rw [up_ne e]; exact h.p j (by omega)
  · rw [ps, up_at]
end Ce
theorem own_up {w : World} {b : Nat} {e : TypeId} {A : Option Addr} {j c : Nat} {R : Nat → Int} {x : Int} (h : Own w b e 1 A (j + 1) c (app j (nv R) (nv fun _ => x))) : Own w b e 1 A (j + 1) c (nv (Ce.up R j x)) :=
  h.congr fun i f hi _ => by
    unfold app nv
    by_cases q : i < j
    · rw [if_pos q, Ce.up_ne (by omega)]
    · obtain rfl : i = j := by omega
      rw [if_neg q, Ce.up_at]
end Go.Proofs.Ytoeklllahpegfaa
/-
  Contract: the law's walk over a graph.
-/
namespace Go.Proofs.Ytoeklllahpegfaa
set_option linter.unusedVariables false
set_option linter.unusedSimpArgs false
open Go.RowKit
attribute [local irreducible] World.setCell World.cell?

set_option maxRecDepth 100000 in
set_option maxHeartbeats 4000000 in
theorem owalk_c (A : Option Addr) (n : Int) (m c : Nat) (E : Ce.Tab) (w : World) (T : Rd w 3 A m c (iv E)) (a b : Int) (B : Option Addr) (lp d : Nat) (Pk : Nat → Int) (U : Rd w 1 B lp d (bv Pk)) (hp : ∀ i, i < lp → 0 ≤ Pk i ∧ Pk i ≤ 255) (hm : m ≤ 8192) : Calls Try.prog 26 #[.agg #[.int .i64 n, .slice A m c], .int .i64 a, .int .i64 b, .slice B lp d] w fun e w' => ∃ (A' : Option Addr) (l c' : Nat) (R : Nat → Int), e = .returned (.slice A' l c') ∧ Rd w' 1 A' l c' (nv R) ∧ Below w.heap.size w w' := by
  have r1 := T.le
  have r2 := T.mx
  have r3 := U.le
  have r4 := U.mx
  obtain ⟨i0, hi, hz0, hz1, hz2⟩ := info_parts infoI
  have HI := Lib.hid hi
  have HZ0 := Lib.hid hz0
  have HZ1 := Lib.hid hz1
  have HZ2 := Lib.hid hz2
  clear hi hz0 hz1 hz2
  go_enter Try.func26, Try.ntmps26
  try simp only [List.append_eq, List.cons_append, List.nil_append]
  have Gb := Blk.new w 41 #[.int .i64 (n), .slice A m c]
  have hB := ba w (.cells #[.int .i64 (n), .slice A m c] 41)
  go_wp2_with fail
  generalize World.alloc w _ = wS at Gb hB ⊢
  go_loopw [9, 10, 11] (fun s_ at_ i wr => ∃ (j l : Nat) (A' : Option Addr) (c' : Nat) (R : Nat → Int) (x : Int), j ≤ 30 ∧ l ≤ j ∧ i = .int .i64 (j : Int) ∧ s_ = .slice A' l c' ∧ at_ = .int .i64 x ∧ Own wr wS.heap.size 3 1 A' l c' (nv R) ∧ Below wS.heap.size wS wr) (fun _ _ i _ => 30 - (intOf i).toNat)
  case atStart => exact ⟨0, 0, none, 0, fun _ => 0, a, by omega, Nat.le_refl _, rfl, rfl, rfl, Own.nil _ _ _ _ _, Below.refl _ _⟩
  case round =>
    rename World => wO
    obtain ⟨j, l, A', c', R, x, hj, hl, rfl, rfl, rfl, own, hW⟩ := hrel
    by_cases hlt : j < 30
    rotate_left
    · have h30 : ¬ (j : Int) < 30 := by omega
      go_wp2_with fail
      go_returns
      first | exact ⟨A', l, c', R, rfl, own.rd, bt hB hW⟩ | exact ⟨A', l, c', rfl, ⟨R, own.rd⟩, bt hB hW⟩
    have h30 : (j : Int) < 30 := by omega
    by_cases hxb : x = b
    · have hx1 : (x != b) = false := by simpa using hxb
      clear hxb
      go_wp2_with fail
      go_returns
      exact ⟨A', l, c', R, rfl, own.rd, bt hB hW⟩
    have hx1 : (x != b) = true := by simpa using hxb
    clear hxb
    obtain ⟨c0, c1, c2, c3⟩ := (Gb.keep hW).open2
    go_wp2_with fail
    clear c0 c1 c2 c3
    go_loopw [12, 29] (fun l_ i wr => ∃ (y q : Nat) (A2 : Option Addr) (c2 : Nat) (S : Nat → Int), y ≤ m ∧ q ≤ y ∧ i = .int .i64 y ∧ l_ = .slice A2 q c2 ∧ Own wr wO.heap.size 3 1 A2 q c2 (nv S) ∧ Hid (∀ z, z < q → 0 ≤ S z ∧ S z < m) ∧ Below wO.heap.size wO wr) (fun _ i _ => m - (intOf i).toNat)
    case atStart => exact ⟨0, 0, none, 0, fun _ => 0, Nat.zero_le _, Nat.le_refl _, rfl, rfl, Own.nil _ _ _ _ _, Lib.hid fun z hz => absurd hz (Nat.not_lt_zero _), Below.refl _ _⟩
    case round =>
      obtain ⟨y, q, A2, c2, S, hy, hq, rfl, rfl, own2, hS, hV⟩ := hrel
      by_cases hlt2 : y < m
      · have hsz := hV.size
        obtain ⟨b3, off3, eB, hbl3, v0, v1, v2⟩ := (T.keep (bt (bt hB hW) hV)).at3 hlt2
        have HB := Lib.hid eB
        rw [HB.out] at Gb ⊢
        clear eB
        have X := Blk.new wr 75 #[.int .i64 (E y 0), .int .i64 (E y 1), .int .i64 (E y 2)]
        obtain ⟨d0, d1, d2, d3, d4⟩ := X.open3
        by_cases hx : E y 0 = x
        · have h1 : (E y 0 == x) = true := by simpa using hx
          clear hx
          go_wp2_with (at_builtin; refine wpList_append_Rd _ rfl _ _ 38 rfl wO.heap.size 3 i0 _ 1 8 Try.underlying38 HI.out HZ0.out HZ1.out HZ2.out rfl (by decide) rfl ((own2.alloc _).alloc _) rfl (rd_num _ _ _ (by simp)) (one_nv _) (by omega) (by omega) (by simp; omega) ?_; intro A3 c3_ w3 own' hgr hob)
          have own3 := own_up own'
          have hV2 : Below wO.heap.size wO w3 := (bal (bal hV _) _).trans (below_grown hgr (fun g hg => own2.base hg) (by simp; omega))
          have HS2 := Lib.hid (show ∀ z, z < q + 1 → 0 ≤ Ce.up S q y z ∧ Ce.up S q y z < m from fun z hz => by
            by_cases e : z = q
            · subst e; rw [Ce.up_at]; exact ⟨by omega, by omega⟩
            · rw [Ce.up_ne e]; exact hS.out z (by omega))
          clear own2 own' hgr hob hV d0 d1 d2 d3 d4 X v0 v1 v2
          go_wp2_with fail
          go_roundw
          case rel => exact ⟨y + 1, q + 1, A3, c3_, _, by omega, by omega, by go_num, rfl, own3, HS2, hV2⟩
          case measure => simp [intOf]; omega
        · have h1 : (E y 0 == x) = false := by simpa using hx
          clear hx
          go_wp2_with fail
          go_roundw
          case rel => exact ⟨y + 1, q, A2, c2, S, by omega, by omega, by go_num, rfl, own2.alloc _, hS, bal hV _⟩
          case measure => simp [intOf]; omega
      · obtain rfl : y = m := by omega
        by_cases hq0 : q = 0
        · subst hq0
          go_wp2_with fail
          go_returns
          exact ⟨A', l, c', R, rfl, (own.keep hV).rd, bt hB (bt hW hV)⟩
        obtain ⟨gl, rfl, hg1, hg2⟩ := own2.pos (by omega)
        have hq1 : ¬ (q : Int) = 0 := by omega
        have hq2 : ((q : Int) == 0) = false := by simpa using hq1
        have w0 := own2.cell1 (i := 0) (by omega)
        have l0 : (0 : Int) < (q : Int) := by omega
        by_cases hjp : j < lp
        · have hjp1 : (j : Int) < (lp : Int) := by omega
          obtain ⟨bb, off, eA, hbl, u0⟩ := (U.keep (bt hB (bt hW hV))).atb hjp
          have HA := Lib.hid eA
          rw [HA.out]
          clear eA
          obtain ⟨q0, q1⟩ := hp j hjp
          obtain ⟨pn, ep⟩ : ∃ q : Nat, Pk j = (q : Int) := ⟨(Pk j).toNat, by omega⟩
          rw [ep] at u0 q0 q1
          clear ep
          obtain ⟨r, hr⟩ : ∃ r : Nat, pn % q = r := ⟨_, rfl⟩
          have hrq : r < q := by rw [← hr]; exact Nat.mod_lt _ (by omega)
          have htm : Int.tmod (pn : Int) (q : Int) = (r : Int) := by rw [← hr]; rfl
          have HTM := Lib.hid htm
          have i1 : (0 : Int) ≤ (r : Int) := by omega
          have i2 : (r : Int) < (q : Int) := by omega
          obtain ⟨sa, sb⟩ := hS.out 0 (by omega)
          obtain ⟨s0, s1⟩ := hS.out r hrq
          obtain ⟨kk, ek⟩ : ∃ k : Nat, S r = (k : Int) := ⟨(S r).toNat, by omega⟩
          have z0 := own2.cell1 hrq
          rw [ek] at s0 s1 z0
          have hkm : kk < y := by omega
          have hT := T.keep (bt hB (bt hW hV))
          obtain ⟨b3, off3, eB, hbl3, v0, v1, v2⟩ := hT.at3 hkm
          have HB := Lib.hid eB
          rw [HB.out] at Gb ⊢
          clear v0 v2 eB hT ek hS
          have sz1 := hW.size
          have sz2 := hV.size
          have i3 : (0 : Int) ≤ (kk : Int) := by omega
          have i4 : (kk : Int) < (y : Int) := by omega
          obtain ⟨c0, c1, c2, c3⟩ := (Gb.keep (bt hW hV)).open2
          go_wp2_with (at_builtin; refine wpList_append_Rd _ rfl _ _ 38 rfl wS.heap.size 3 i0 _ 1 8 Try.underlying38 HI.out HZ0.out HZ1.out HZ2.out rfl (by decide) rfl ((own.keep hV).alloc _) rfl (rd_num _ _ _ (by simp)) (one_nv _) (by omega) (by omega) (by simp; omega) ?_; intro A3 c3_ w3 own' hgr hob; have hW3 : Below wS.heap.size wS w3 := (bal (bt hW hV) _).trans (below_grown hgr (fun g hg => own.base hg) (by simp; omega)); clear c0 c1 c2 c3; obtain ⟨c0, c1, c2, c3⟩ := (Gb.keep hW3).open2; have hT := T.keep (bt hB hW3); obtain ⟨b4, off4, eB4, hbl4, v0, v1, v2⟩ := hT.at3 hkm; rw [HB.out] at eB4; injection eB4 with eB4; injection eB4 with e41 e42; subst e41 e42; clear v0 v2)
          have own3 := own_up own'
          rw [← HB.out] at Gb ⊢
          rw [← HA.out]
          go_roundw
          case rel => exact ⟨_, _, _, ⟨j + 1, by omega, l + 1, by omega, by go_num, A3, c3_, rfl, ⟨_, rfl⟩, _, own3⟩, rfl, rfl, rfl, rfl, rfl⟩
          case measure => simp [intOf]; omega
        · have hjp1 : ¬ (j : Int) < (lp : Int) := by omega
          obtain ⟨s0, s1⟩ := hS.out 0 (by omega)
          obtain ⟨kk, ek⟩ : ∃ k : Nat, S 0 = (k : Int) := ⟨(S 0).toNat, by omega⟩
          rw [ek] at s0 s1 w0
          have hkm : kk < y := by omega
          have hT := T.keep (bt hB (bt hW hV))
          obtain ⟨b3, off3, eB, hbl3, v0, v1, v2⟩ := hT.at3 hkm
          have HB := Lib.hid eB
          rw [HB.out] at Gb ⊢
          clear v0 v2 eB hT ek hS
          have sz1 := hW.size
          have sz2 := hV.size
          have i3 : (0 : Int) ≤ (kk : Int) := by omega
          have i4 : (kk : Int) < (y : Int) := by omega
          obtain ⟨c0, c1, c2, c3⟩ := (Gb.keep (bt hW hV)).open2
          go_wp2_with (at_builtin; refine wpList_append_Rd _ rfl _ _ 38 rfl wS.heap.size 3 i0 _ 1 8 Try.underlying38 HI.out HZ0.out HZ1.out HZ2.out rfl (by decide) rfl ((own.keep hV).alloc _) rfl (rd_num _ _ _ (by simp)) (one_nv _) (by omega) (by omega) (by simp; omega) ?_; intro A3 c3_ w3 own' hgr hob; have hW3 : Below wS.heap.size wS w3 := (bal (bt hW hV) _).trans (below_grown hgr (fun g hg => own.base hg) (by simp; omega)); clear c0 c1 c2 c3; obtain ⟨c0, c1, c2, c3⟩ := (Gb.keep hW3).open2; have hT := T.keep (bt hB hW3); obtain ⟨b4, off4, eB4, hbl4, v0, v1, v2⟩ := hT.at3 hkm; rw [HB.out] at eB4; injection eB4 with eB4; injection eB4 with e41 e42; subst e41 e42; clear v0 v2)
          have own3 := own_up own'
          rw [← HB.out] at Gb ⊢
          go_roundw
          case rel => exact ⟨_, _, _, ⟨j + 1, by omega, l + 1, by omega, by go_num, A3, c3_, rfl, ⟨_, rfl⟩, _, own3⟩, rfl,  rfl, rfl, rfl⟩
          case measure => simp [intOf]; omega
end Go.Proofs.Ytoeklllahpegfaa
/-
  From opened arguments to slices of bytes and of 32-bit words that read.
-/
namespace Go.Proofs.Ytoeklllahpegfaa
set_option linter.unusedVariables false
set_option linter.unusedSimpArgs false
open Go.RowKit
theorem rdb {w : World} {A : Option Addr} {n c : Nat} {N : Nat → Nat → Int} (hlc : n ≤ c) (hcm : c ≤ maxLen)
    (hrw : 0 < n → ∃ b off : Nat, A = some ⟨b, off, none⟩ ∧ b < w.heap.size ∧ ∀ i j k, i < n → [IntKind.u8][j]? = some k → w.cell? ⟨b, off + (i * (([] : List IntKind).length + 1) + j), none⟩ = some (.int k (N i j))) : Rd w 1 A n c (bv fun i => N i 0) :=
  ⟨hlc, by rw [maxLen_eq] at hcm; exact hcm, fun hn => by
    obtain ⟨b, off, e, hl, hc⟩ := hrw hn
    refine ⟨b, off, e, hl, fun i j hi hj => ?_⟩
    obtain rfl : j = 0 := by omega
    have := hc i 0 .u8 hi rfl
    rw [← Nat.add_assoc] at this
    exact this⟩
def uv (N : Nat → Int) : Nat → Nat → Value := fun i _ => .int .u32 (N i)
theorem Rd.atw {w : World} {A : Option Addr} {n c : Nat} {N : Nat → Int} (h : Rd w 1 A n c (uv N)) {k : Nat} (hk : k < n) : ∃ b off, A = some ⟨b, off, none⟩ ∧ b < w.heap.size ∧ w.cell? ⟨b, off + k, none⟩ = some (.int .u32 (N k)) := by
  obtain ⟨b, off, e, hl, hc⟩ := h.at_ (by omega)
  exact ⟨b, off, e, hl, by simpa [uv] using hc k 0 hk (by omega)⟩
theorem rdw {w : World} {A : Option Addr} {n c : Nat} {N : Nat → Nat → Int} (hlc : n ≤ c) (hcm : c ≤ maxLen)
    (hrw : 0 < n → ∃ b off : Nat, A = some ⟨b, off, none⟩ ∧ b < w.heap.size ∧ ∀ i j k, i < n → [IntKind.u32][j]? = some k → w.cell? ⟨b, off + (i * (([] : List IntKind).length + 1) + j), none⟩ = some (.int k (N i j))) : Rd w 1 A n c (uv fun i => N i 0) :=
  ⟨hlc, by rw [maxLen_eq] at hcm; exact hcm, fun hn => by
    obtain ⟨b, off, e, hl, hc⟩ := hrw hn
    refine ⟨b, off, e, hl, fun i j hi hj => ?_⟩
    obtain rfl : j = 0 := by omega
    have := hc i 0 .u32 hi rfl
    rw [← Nat.add_assoc] at this
    exact this⟩
end Go.Proofs.Ytoeklllahpegfaa
