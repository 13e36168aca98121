/-
  Contract: the reference's Cost.
-/
import Derived.Test.YtbmfkncfenkjoaaW3
namespace Go.Proofs.Ytbmfkncfenkjoaa
set_option linter.unusedVariables false
set_option linter.unusedSimpArgs false
open Go.RowKit
attribute [local irreducible] World.setCell World.cell?

set_option maxRecDepth 100000 in
set_option maxHeartbeats 4000000 in
theorem rcost_c (A : Option Addr) (n : Int) (m c : Nat) (E : Ce.Tab) (w : World) (T : Rd w 3 A m c (iv E)) (n1 : -9223372036854775808 ≤ n) (n2 : n ≤ 9223372036854775807) (a b : Int) (B : Option Addr) (l d : Nat) (R : Nat → Int) (U : Rd w 1 B l d (nv R)) : Calls Try.prog 15 #[.agg #[.int .i64 n, .slice A m c], .int .i64 a, .int .i64 b, .slice B l d] w fun e w' => e = .returned (.tuple #[.int .i64 (Ce.cst n m E a b l R), .int .i64 (Ce.cer n m E a b l R)]) ∧ Below w.heap.size w w' := by
  have r1 := T.le
  have r2 := T.mx
  have s1 := U.le
  have s2 := U.mx
  by_cases k0 : Ce.ck n m E = 0
  rotate_left
  · have h : Ce.en n m E a b ≠ 0 := by rw [Ce.en_ck k0]; exact k0
    have h1 : (Ce.ck n m E != 0) = true := by simpa using k0
    have HE := Lib.hid ((Ce.cer_en (l := l) (R := R) h).trans (Ce.en_ck k0))
    have HS := Lib.hid (Ce.cst_no (n := n) (m := m) (E := E) (a := a) (b := b) (l := l) (R := R) (by rw [Ce.cer_en h]; exact h))
    clear k0 h
    go_enter Try.func15, Try.ntmps15
    have Gb := Blk.new w 24 #[.int .i64 (n), .slice A m c]
    have hB := ba w (.cells #[.int .i64 (n), .slice A m c] 24)
    obtain ⟨c00, c01, c02, c03⟩ := Gb.open2
    go_wp2_with fail
    refine (rcheck_c _ _ _ _ _ _ (T.keep hB) n1 n2).mono ?_
    rintro e w1 ⟨rfl, hb⟩
    clear c00 c01 c02 c03
    replace Gb := Gb.keep hb
    replace hB := bt hB hb
    clear hb
    go_wp2_with fail
    go_returns
    exact ⟨ret_ints HS.out.symm HE.out.symm, hB⟩
  cases q0 : Ce.nd n a
  · have h : Ce.en n m E a b ≠ 0 := by rw [(Ce.en_1 (a := a) (b := b) k0 (by rw [q0]; rfl))]; decide
    have HE := Lib.hid ((Ce.cer_en (l := l) (R := R) h).trans (Ce.en_1 (a := a) (b := b) k0 (by rw [q0]; rfl)))
    have HS := Lib.hid (Ce.cst_no (n := n) (m := m) (E := E) (a := a) (b := b) (l := l) (R := R) (by rw [Ce.cer_en h]; exact h))
    have H := Lib.hid k0
    have Q0 := Lib.hid q0
    clear k0 h q0
    go_enter Try.func15, Try.ntmps15
    have Gb := Blk.new w 24 #[.int .i64 (n), .slice A m c]
    have hB := ba w (.cells #[.int .i64 (n), .slice A m c] 24)
    obtain ⟨c00, c01, c02, c03⟩ := Gb.open2
    go_wp2_with fail
    refine (rcheck_c _ _ _ _ _ _ (T.keep hB) n1 n2).mono ?_
    rw [H.out]
    rintro e w1 ⟨rfl, hb⟩
    clear c00 c01 c02 c03
    replace Gb := Gb.keep hb
    replace hB := bt hB hb
    clear hb
    obtain ⟨c00, c01, c02, c03⟩ := Gb.open2
    go_wp2_with fail
    refine (rnode_c _ _ _ _ _ _).mono ?_
    rw [Q0.out]
    rintro e w2 ⟨rfl, hb⟩
    clear c00 c01 c02 c03
    replace Gb := Gb.keep hb
    replace hB := bt hB hb
    clear hb
    go_wp2_with fail
    go_returns
    exact ⟨ret_ints HS.out.symm HE.out.symm, hB⟩
  cases q1 : Ce.nd n b
  · have h : Ce.en n m E a b ≠ 0 := by rw [(Ce.en_1 (a := a) (b := b) k0 (by rw [q0, q1]; rfl))]; decide
    have HE := Lib.hid ((Ce.cer_en (l := l) (R := R) h).trans (Ce.en_1 (a := a) (b := b) k0 (by rw [q0, q1]; rfl)))
    have HS := Lib.hid (Ce.cst_no (n := n) (m := m) (E := E) (a := a) (b := b) (l := l) (R := R) (by rw [Ce.cer_en h]; exact h))
    have H := Lib.hid k0
    have Q0 := Lib.hid q0
    have Q1 := Lib.hid q1
    clear k0 h q0 q1
    go_enter Try.func15, Try.ntmps15
    have Gb := Blk.new w 24 #[.int .i64 (n), .slice A m c]
    have hB := ba w (.cells #[.int .i64 (n), .slice A m c] 24)
    obtain ⟨c00, c01, c02, c03⟩ := Gb.open2
    go_wp2_with fail
    refine (rcheck_c _ _ _ _ _ _ (T.keep hB) n1 n2).mono ?_
    rw [H.out]
    rintro e w1 ⟨rfl, hb⟩
    clear c00 c01 c02 c03
    replace Gb := Gb.keep hb
    replace hB := bt hB hb
    clear hb
    obtain ⟨c00, c01, c02, c03⟩ := Gb.open2
    go_wp2_with fail
    refine (rnode_c _ _ _ _ _ _).mono ?_
    rw [Q0.out]
    rintro e w2 ⟨rfl, hb⟩
    clear c00 c01 c02 c03
    replace Gb := Gb.keep hb
    replace hB := bt hB hb
    clear hb
    obtain ⟨c00, c01, c02, c03⟩ := Gb.open2
    go_wp2_with fail
    refine (rnode_c _ _ _ _ _ _).mono ?_
    rw [Q1.out]
    rintro e w3 ⟨rfl, hb⟩
    clear c00 c01 c02 c03
    replace Gb := Gb.keep hb
    replace hB := bt hB hb
    clear hb
    go_wp2_with fail
    go_returns
    exact ⟨ret_ints HS.out.symm HE.out.symm, hB⟩
  have h : Ce.en n m E a b = 0 := Ce.en_0 k0 (by rw [q0, q1]; rfl)
  have H := Lib.hid h
  clear h
  by_cases h8 : 8192 < l
  · have h9 : (8192 : Int) < (l : Int) := by omega
    have HE := Lib.hid (Ce.cer_3 (R := R) H.out h8)
    have HS := Lib.hid (Ce.cst_no (n := n) (m := m) (E := E) (a := a) (b := b) (l := l) (R := R) (by rw [HE.out]; decide))
    have HK := Lib.hid k0
    have Q0 := Lib.hid q0
    have Q1 := Lib.hid q1
    clear k0 q0 q1
    go_enter Try.func15, Try.ntmps15
    have Gb := Blk.new w 24 #[.int .i64 (n), .slice A m c]
    have hB := ba w (.cells #[.int .i64 (n), .slice A m c] 24)
    obtain ⟨c00, c01, c02, c03⟩ := Gb.open2
    go_wp2_with fail
    refine (rcheck_c _ _ _ _ _ _ (T.keep hB) n1 n2).mono ?_
    rw [HK.out]
    rintro e w1 ⟨rfl, hb⟩
    clear c00 c01 c02 c03
    replace Gb := Gb.keep hb
    replace hB := bt hB hb
    clear hb
    obtain ⟨c00, c01, c02, c03⟩ := Gb.open2
    go_wp2_with fail
    refine (rnode_c _ _ _ _ _ _).mono ?_
    rw [Q0.out]
    rintro e w2 ⟨rfl, hb⟩
    clear c00 c01 c02 c03
    replace Gb := Gb.keep hb
    replace hB := bt hB hb
    clear hb
    obtain ⟨c00, c01, c02, c03⟩ := Gb.open2
    go_wp2_with fail
    refine (rnode_c _ _ _ _ _ _).mono ?_
    rw [Q1.out]
    rintro e w3 ⟨rfl, hb⟩
    clear c00 c01 c02 c03
    replace Gb := Gb.keep hb
    replace hB := bt hB hb
    clear hb
    go_wp2_with fail
    go_returns
    exact ⟨ret_ints HS.out.symm HE.out.symm, hB⟩
  have h9 : ¬ (8192 : Int) < (l : Int) := by omega
  have N := Ce.en_ok.1 H.out
  have O := N.ok
  have HK := Lib.hid k0
  have Q0 := Lib.hid q0
  have Q1 := Lib.hid q1
  clear k0 q0 q1
  go_enter Try.func15, Try.ntmps15
  have Gb := Blk.new w 24 #[.int .i64 (n), .slice A m c]
  have hB := ba w (.cells #[.int .i64 (n), .slice A m c] 24)
  obtain ⟨c00, c01, c02, c03⟩ := Gb.open2
  go_wp2_with fail
  refine (rcheck_c _ _ _ _ _ _ (T.keep hB) n1 n2).mono ?_
  rw [HK.out]
  rintro e w1 ⟨rfl, hb⟩
  clear c00 c01 c02 c03
  replace Gb := Gb.keep hb
  replace hB := bt hB hb
  clear hb
  obtain ⟨c00, c01, c02, c03⟩ := Gb.open2
  go_wp2_with fail
  refine (rnode_c _ _ _ _ _ _).mono ?_
  rw [Q0.out]
  rintro e w2 ⟨rfl, hb⟩
  clear c00 c01 c02 c03
  replace Gb := Gb.keep hb
  replace hB := bt hB hb
  clear hb
  obtain ⟨c00, c01, c02, c03⟩ := Gb.open2
  go_wp2_with fail
  refine (rnode_c _ _ _ _ _ _).mono ?_
  rw [Q1.out]
  rintro e w3 ⟨rfl, hb⟩
  clear c00 c01 c02 c03
  replace Gb := Gb.keep hb
  replace hB := bt hB hb
  clear hb
  go_wp2_with fail
  go_loopw [37] (fun i wr => ∃ k : Nat, k ≤ l ∧ i = .int .i64 k ∧ Hid (Ce.okI m R k = true) ∧ Blk wr w.heap.size 24 #[.int .i64 (n), .slice A m c] ∧ Below w.heap.size w wr) (fun i _ => l - (intOf i).toNat)
  case atStart => exact ⟨0, Nat.zero_le _, rfl, rfl, Gb, hB⟩
  case round =>
    clear Gb hB
    rename_i wr
    obtain ⟨k, hk, rfl, hok, Gb, hB⟩ := hrel
    obtain ⟨y0, y1, y2, y3⟩ := Gb.open2
    by_cases hlt : k < l
    · obtain ⟨bb, off, eA, hbl, u0⟩ := (U.keep hB).at1 hlt
      have HA := Lib.hid eA
      rw [HA.out]
      clear eA
      by_cases k0 : R k < 0
      · have HE := Lib.hid (Ce.cer_6 (R := R) H.out h8 hlt (by omega))
        have HS := Lib.hid (Ce.cst_no (n := n) (m := m) (E := E) (a := a) (b := b) (l := l) (R := R) (by rw [HE.out]; decide))
        go_wp2_with fail
        go_returns
        exact ⟨ret_ints HS.out.symm HE.out.symm, hB⟩
      by_cases k1 : R k < (m : Int)
      rotate_left
      · have k2 : (m : Int) ≤ R k := by omega
        have HE := Lib.hid (Ce.cer_6 (R := R) H.out h8 hlt (by omega))
        have HS := Lib.hid (Ce.cst_no (n := n) (m := m) (E := E) (a := a) (b := b) (l := l) (R := R) (by rw [HE.out]; decide))
        go_wp2_with fail
        go_returns
        exact ⟨ret_ints HS.out.symm HE.out.symm, hB⟩
      have d1 : decide ((m : Int) ≤ R k) = false := decide_eq_false (by omega)
      have HO := Lib.hid (show Ce.okI m R (k + 1) = true by rw [Ce.okI, hok.out, decide_eq_true (by omega)]; rfl)
      go_wp2_with fail
      go_roundw
      case rel => exact ⟨k + 1, by omega, by go_num, HO, Gb, hB⟩
      case measure => simp [intOf]; omega
    · obtain rfl : k = l := by omega
      clear y0 y1 y2 y3
      have hI := (Ce.okI_iff m R k).1 hok.out
      have HI := Lib.hid hI
      clear hI
      go_wp2_with fail
      go_loopw [13, 14, 54] (fun s t i wr => ∃ j : Nat, j ≤ k ∧ i = .int .i64 j ∧ s = .int .i64 (Ce.ps E R a j) ∧ t = .int .i64 (Ce.csum E R j) ∧ Hid (Ce.okP E R a j = true) ∧ Blk wr w.heap.size 24 #[.int .i64 (n), .slice A m c] ∧ Below w.heap.size w wr) (fun _ _ i _ => k - (intOf i).toNat)
      case atStart => exact ⟨0, Nat.zero_le _, rfl, rfl, rfl, rfl, Gb, hB⟩
      case round =>
        clear Gb hB
        rename_i wr
        obtain ⟨j, hj, rfl, rfl, rfl, hop, Gb, hB⟩ := hrel
        by_cases hlt : j < k
        · obtain ⟨bb, off, eA, hbl, u0⟩ := (U.keep hB).at1 hlt
          have hr := HI.out j hlt
          obtain ⟨r, er⟩ : ∃ r : Nat, R j = (r : Int) := ⟨(R j).toNat, by omega⟩
          have hrm : r < m := by omega
          obtain ⟨b3, off3, eB, hbl3, v0, v1, v2⟩ := (T.keep hB).at3 hrm
          have HA := Lib.hid eA
          have HB := Lib.hid eB
          rw [HA.out]
          rw [HB.out] at Gb ⊢
          clear eA eB
          rw [er] at u0
          obtain ⟨y0, y1, y2, y3⟩ := Gb.open2
          have i1 : (0 : Int) ≤ (r : Int) := by omega
          have i2 : (r : Int) < (m : Int) := by omega
          have ER := Lib.hid (show (R j).toNat = r by omega)
          have cb := Ce.csum_bd O (R := R) (l := j) (fun q hq => HI.out q (by omega))
          have ec0 := (O.e r hrm).c0
          have ec1 := (O.e r hrm).c1
          clear er hr
          by_cases hx : E r 0 = Ce.ps E R a j
          rotate_left
          · have h1 : (E r 0 != Ce.ps E R a j) = true := by simpa using hx
            have HE := Lib.hid (Ce.cer_9 (R := R) H.out h8 hok.out hlt (by rw [ER.out]; exact hx))
            have HS := Lib.hid (Ce.cst_no (n := n) (m := m) (E := E) (a := a) (b := b) (l := k) (R := R) (by rw [HE.out]; decide))
            clear hx
            go_wp2_with fail
            go_returns
            exact ⟨ret_ints HS.out.symm HE.out.symm, hB⟩
          have h1 : (E r 0 != Ce.ps E R a j) = false := by simpa using hx
          have HO := Lib.hid (show Ce.okP E R a (j + 1) = true by rw [Ce.okP, hop.out, ER.out, decide_eq_true hx]; rfl)
          have EP := Lib.hid (show Ce.ps E R a (j + 1) = E r 1 by rw [Ce.ps, ER.out])
          have EC := Lib.hid (show Ce.csum E R (j + 1) = Ce.csum E R j + E r 2 by unfold Ce.csum; rw [Ce.sm, ER.out])
          clear hx
          go_wp2_with fail
          go_quiet (fail)
          go_wp2_with fail
          go_roundw
          case rel => exact ⟨j + 1, by omega, by go_num, by rw [EP.out], by rw [EC.out], HO, Gb.drewN _, bdnl hB _⟩
          case measure => simp [intOf]; omega
        · obtain rfl : j = k := by omega
          by_cases hx : Ce.ps E R a j = b
          rotate_left
          · have h1 : (Ce.ps E R a j != b) = true := by simpa using hx
            have HE := Lib.hid (Ce.cer_9e (R := R) H.out h8 hok.out hx)
            have HS := Lib.hid (Ce.cst_no (n := n) (m := m) (E := E) (a := a) (b := b) (l := j) (R := R) (by rw [HE.out]; decide))
            clear hx
            go_wp2_with fail
            go_returns
            exact ⟨ret_ints HS.out.symm HE.out.symm, hB⟩
          have h1 : (Ce.ps E R a j != b) = false := by simpa using hx
          have HE := Lib.hid (Ce.cer_0 (R := R) H.out h8 hok.out hop.out hx)
          have HS := Lib.hid (Ce.cst_yes HE.out)
          clear hx
          go_wp2_with fail
          go_returns
          exact ⟨ret_ints HS.out.symm HE.out.symm, hB⟩
end Go.Proofs.Ytbmfkncfenkjoaa
