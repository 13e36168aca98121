/-
  Contracts: Violated, of both.
-/
import Derived.Test.YtbmfkncfenkjoaaW6
namespace Go.Proofs.Ytbmfkncfenkjoaa
set_option linter.unusedVariables false
set_option linter.unusedSimpArgs false
open Go.RowKit
attribute [local irreducible] World.setCell World.cell?

set_option maxRecDepth 100000 in
set_option maxHeartbeats 4000000 in
theorem violated_c (A : Option Addr) (n : Int) (m c : Nat) (E : Ce.Tab) (w : World) (T : Rd w 3 A m c (iv E)) (n1 : -9223372036854775808 ≤ n) (n2 : n ≤ 9223372036854775807) (B : Option Addr) (l d : Nat) (P : Nat → Int) (U : Rd w 1 B l d (nv P)) : Calls Try.prog 16 #[.agg #[.int .i64 n, .slice A m c], .slice B l d] w fun e w' => e = .returned (.tuple #[.int .i64 (Ce.vix n m E l P), .int .i64 (Ce.ver n m E l P)]) ∧ Below w.heap.size w w' := by
  have r1 := T.le
  have r2 := T.mx
  have s1 := U.le
  have s2 := U.mx
  by_cases h : Ce.ck n m E = 0
  rotate_left
  · have h1 : (Ce.ck n m E != 0) = true := by simpa using h
    have HE := Lib.hid (Ce.ver_ck (l := l) (P := P) h)
    have HS := Lib.hid (Ce.vix_no (n := n) (m := m) (E := E) (l := l) (P := P) (by rw [HE.out]; exact h))
    clear h
    go_enter Try.func16, Try.ntmps16
    have Gb := Blk.new w 24 #[.int .i64 (n), .slice A m c]
    have hB := ba w (.cells #[.int .i64 (n), .slice A m c] 24)
    have Pb := Blk.new1 w (.cells #[.int .i64 (n), .slice A m c] 24) 34 #[.slice B l d]
    replace Gb := Gb.alloc (.cells #[.slice B l d] 34)
    replace hB := bal hB (.cells #[.slice B l d] 34)
    obtain ⟨c00, c01, c02, c03⟩ := Gb.open2
    obtain ⟨c10, c11, c12⟩ := Pb.open1
    go_wp2_with fail
    refine (check_c _ _ _ _ _ _ (T.keep hB) n1 n2).mono ?_
    rintro e w1 ⟨rfl, hb⟩
    clear c00 c01 c02 c03 c10 c11 c12
    replace Gb := Gb.keep hb
    replace Pb := Pb.keep hb
    replace hB := bt hB hb
    clear hb
    go_wp2_with fail
    go_returns
    exact ⟨ret_ints HS.out.symm HE.out.symm, hB⟩
  have O := Ce.ck_ok.1 h
  have on1 := O.n1
  have on2 := O.n2
  have om := O.hm
  by_cases hn : (l : Int) = n
  rotate_left
  · have h1 : ((l : Int) != n) = true := by simpa using hn
    have HE := Lib.hid (Ce.ver_1 (P := P) h hn)
    have HS := Lib.hid (Ce.vix_no (n := n) (m := m) (E := E) (l := l) (P := P) (by rw [HE.out]; decide))
    have H := Lib.hid h
    clear h hn
    go_enter Try.func16, Try.ntmps16
    have Gb := Blk.new w 24 #[.int .i64 (n), .slice A m c]
    have hB := ba w (.cells #[.int .i64 (n), .slice A m c] 24)
    have Pb := Blk.new1 w (.cells #[.int .i64 (n), .slice A m c] 24) 34 #[.slice B l d]
    replace Gb := Gb.alloc (.cells #[.slice B l d] 34)
    replace hB := bal hB (.cells #[.slice B l d] 34)
    obtain ⟨c00, c01, c02, c03⟩ := Gb.open2
    obtain ⟨c10, c11, c12⟩ := Pb.open1
    go_wp2_with fail
    refine (check_c _ _ _ _ _ _ (T.keep hB) n1 n2).mono ?_
    rw [H.out]
    rintro e w1 ⟨rfl, hb⟩
    clear c00 c01 c02 c03 c10 c11 c12
    replace Gb := Gb.keep hb
    replace Pb := Pb.keep hb
    replace hB := bt hB hb
    clear hb
    obtain ⟨c00, c01, c02, c03⟩ := Gb.open2
    obtain ⟨c10, c11, c12⟩ := Pb.open1
    go_wp2_with fail
    go_returns
    exact ⟨ret_ints HS.out.symm HE.out.symm, hB⟩
  subst hn
  have H := Lib.hid h
  clear h
  go_enter Try.func16, Try.ntmps16
  have Gb := Blk.new w 24 #[.int .i64 (l), .slice A m c]
  have hB := ba w (.cells #[.int .i64 (l), .slice A m c] 24)
  have Pb := Blk.new1 w (.cells #[.int .i64 (l), .slice A m c] 24) 34 #[.slice B l d]
  replace Gb := Gb.alloc (.cells #[.slice B l d] 34)
  replace hB := bal hB (.cells #[.slice B l d] 34)
  obtain ⟨c00, c01, c02, c03⟩ := Gb.open2
  obtain ⟨c10, c11, c12⟩ := Pb.open1
  go_wp2_with fail
  refine (check_c _ _ _ _ _ _ (T.keep hB) n1 n2).mono ?_
  rw [H.out]
  rintro e w1 ⟨rfl, hb⟩
  clear c00 c01 c02 c03 c10 c11 c12
  replace Gb := Gb.keep hb
  replace Pb := Pb.keep hb
  replace hB := bt hB hb
  clear hb
  obtain ⟨c00, c01, c02, c03⟩ := Gb.open2
  obtain ⟨c10, c11, c12⟩ := Pb.open1
  go_wp2_with fail
  clear c00 c01 c02 c03 c10 c11 c12
  go_loopw [21] (fun i wr => ∃ k : Nat, k ≤ l ∧ i = .int .i64 k ∧ Hid (Ce.okR P k = true) ∧ Blk wr w.heap.size 24 #[.int .i64 (l), .slice A m c] ∧ Blk wr (w.heap.size + 1) 34 #[.slice B l d] ∧ Below w.heap.size w wr) (fun i _ => l - (intOf i).toNat)
  case atStart => exact ⟨0, Nat.zero_le _, rfl, rfl, Gb, Pb, hB⟩
  case round =>
    clear Gb Pb hB
    obtain ⟨k, hk, rfl, hok, Gb, Pb, hB⟩ := hrel
    by_cases hlt : k < l
    · obtain ⟨bb, off, eA, hbl, u0⟩ := (U.keep hB).at1 hlt
      have HA := Lib.hid eA
      rw [HA.out] at Pb ⊢
      clear eA
      by_cases k0 : P k < -1152921504606846976
      · have HE := Lib.hid (Ce.ver_2 H.out rfl hlt (P := P) (by omega))
        have HS := Lib.hid (Ce.vix_no (n := (l : Int)) (m := m) (E := E) (l := l) (P := P) (by rw [HE.out]; decide))
        go_wp2_with fail
        go_returns
        exact ⟨ret_ints HS.out.symm HE.out.symm, hB⟩
      by_cases k1 : 1152921504606846976 < P k
      · have HE := Lib.hid (Ce.ver_2 H.out rfl hlt (P := P) (by omega))
        have HS := Lib.hid (Ce.vix_no (n := (l : Int)) (m := m) (E := E) (l := l) (P := P) (by rw [HE.out]; decide))
        go_wp2_with fail
        go_returns
        exact ⟨ret_ints HS.out.symm HE.out.symm, hB⟩
      have HO := Lib.hid (show Ce.okR P (k + 1) = true by rw [Ce.okR, hok.out, decide_eq_true (by omega)]; rfl)
      go_wp2_with fail
      go_roundw
      case rel => exact ⟨k + 1, by omega, by go_num, HO, Gb, Pb, hB⟩
      case measure => simp [intOf]; omega
    · obtain rfl : k = l := by omega
      have HE := Lib.hid (Ce.ver_0 H.out rfl hok.out)
      have HX := Lib.hid (Ce.vix_yes HE.out)
      have hR := (Ce.okR_iff P k).1 hok.out
      have HR := Lib.hid hR
      clear hR
      have hv : ∀ (W : World) (i : Nat), i < m → Below wr.heap.size wr W → Calls Try.prog 34 (#[.agg #[.int .i64 (E i 0), .int .i64 (E i 1), .int .i64 (E i 2)]] ++ #[.pointer (some ⟨w.heap.size + 1, 0, none⟩)]) W fun e w' => e = .returned (.bool (Ce.vp E P i)) ∧ Below W.heap.size W w' := fun W i hi hb => by
        have he := O.e i hi
        exact vio_c _ _ _ E i W (w.heap.size + 1) B k d P (U.keep (bt hB hb)) (Pb.keep hb) rfl rfl rfl he.f0 he.f1 he.t0 he.t1 HR.out he.c0 he.c1
      obtain ⟨y0, y1, y2, y3⟩ := Gb.open2
      go_wp2_with fail
      refine (index_c (Ce.vp E P) 34 (enters_of Try.func34 (by kernel_rfl) rfl) #[.pointer (some ⟨w.heap.size + 1, 0, none⟩)] _ _ _ _ _ (T.keep hB) hv).mono ?_
      rintro e w9 ⟨rfl, hb⟩
      replace hB := bt hB hb
      clear hb hv
      rw [← HX.out]
      go_wp2_with fail
      go_returns
      exact ⟨ret_ints rfl HE.out.symm, hB⟩
set_option maxRecDepth 100000 in
set_option maxHeartbeats 4000000 in
theorem rviolated_c (A : Option Addr) (n : Int) (m c : Nat) (E : Ce.Tab) (w : World) (T : Rd w 3 A m c (iv E)) (n1 : -9223372036854775808 ≤ n) (n2 : n ≤ 9223372036854775807) (B : Option Addr) (l d : Nat) (P : Nat → Int) (U : Rd w 1 B l d (nv P)) : Calls Try.prog 17 #[.agg #[.int .i64 n, .slice A m c], .slice B l d] w fun e w' => e = .returned (.tuple #[.int .i64 (Ce.vix n m E l P), .int .i64 (Ce.ver n m E l P)]) ∧ Below w.heap.size w w' := by
  have r1 := T.le
  have r2 := T.mx
  have s1 := U.le
  have s2 := U.mx
  by_cases h : Ce.ck n m E = 0
  rotate_left
  · have h1 : (Ce.ck n m E != 0) = true := by simpa using h
    have HE := Lib.hid (Ce.ver_ck (l := l) (P := P) h)
    have HS := Lib.hid (Ce.vix_no (n := n) (m := m) (E := E) (l := l) (P := P) (by rw [HE.out]; exact h))
    clear h
    go_enter Try.func17, Try.ntmps17
    have Gb := Blk.new w 24 #[.int .i64 (n), .slice A m c]
    have hB := ba w (.cells #[.int .i64 (n), .slice A m c] 24)
    obtain ⟨c00, c01, c02, c03⟩ := Gb.open2
    go_wp2_with fail
    refine (rcheck_c _ _ _ _ _ _ (T.keep hB) n1 n2).mono ?_
    rintro e w1 ⟨rfl, hb⟩
    clear c00 c01 c02 c03
    replace Gb := Gb.keep hb
    replace hB := bt hB hb
    clear hb
    go_wp2_with fail
    go_returns
    exact ⟨ret_ints HS.out.symm HE.out.symm, hB⟩
  have O := Ce.ck_ok.1 h
  have on1 := O.n1
  have on2 := O.n2
  have om := O.hm
  by_cases hn : (l : Int) = n
  rotate_left
  · have h1 : ((l : Int) != n) = true := by simpa using hn
    have HE := Lib.hid (Ce.ver_1 (P := P) h hn)
    have HS := Lib.hid (Ce.vix_no (n := n) (m := m) (E := E) (l := l) (P := P) (by rw [HE.out]; decide))
    have H := Lib.hid h
    clear h hn
    go_enter Try.func17, Try.ntmps17
    have Gb := Blk.new w 24 #[.int .i64 (n), .slice A m c]
    have hB := ba w (.cells #[.int .i64 (n), .slice A m c] 24)
    obtain ⟨c00, c01, c02, c03⟩ := Gb.open2
    go_wp2_with fail
    refine (rcheck_c _ _ _ _ _ _ (T.keep hB) n1 n2).mono ?_
    rw [H.out]
    rintro e w1 ⟨rfl, hb⟩
    clear c00 c01 c02 c03
    replace Gb := Gb.keep hb
    replace hB := bt hB hb
    clear hb
    obtain ⟨c00, c01, c02, c03⟩ := Gb.open2
    go_wp2_with fail
    go_returns
    exact ⟨ret_ints HS.out.symm HE.out.symm, hB⟩
  subst hn
  have H := Lib.hid h
  clear h
  go_enter Try.func17, Try.ntmps17
  have Gb := Blk.new w 24 #[.int .i64 (l), .slice A m c]
  have hB := ba w (.cells #[.int .i64 (l), .slice A m c] 24)
  obtain ⟨c00, c01, c02, c03⟩ := Gb.open2
  go_wp2_with fail
  refine (rcheck_c _ _ _ _ _ _ (T.keep hB) n1 n2).mono ?_
  rw [H.out]
  rintro e w1 ⟨rfl, hb⟩
  clear c00 c01 c02 c03
  replace Gb := Gb.keep hb
  replace hB := bt hB hb
  clear hb
  obtain ⟨c00, c01, c02, c03⟩ := Gb.open2
  go_wp2_with fail
  clear c00 c01 c02 c03
  go_loopw [23] (fun i wr => ∃ k : Nat, k ≤ l ∧ i = .int .i64 k ∧ Hid (Ce.okR P k = true) ∧ Blk wr w.heap.size 24 #[.int .i64 (l), .slice A m c] ∧ Below w.heap.size w wr) (fun i _ => l - (intOf i).toNat)
  case atStart => exact ⟨0, Nat.zero_le _, rfl, rfl, Gb, hB⟩
  case round =>
    clear Gb hB
    obtain ⟨k, hk, rfl, hok, Gb, hB⟩ := hrel
    by_cases hlt : k < l
    · obtain ⟨bb, off, eA, hbl, u0⟩ := (U.keep hB).at1 hlt
      have HA := Lib.hid eA
      rw [HA.out]
      clear eA
      by_cases k0 : P k < -1152921504606846976
      · have HE := Lib.hid (Ce.ver_2 H.out rfl hlt (P := P) (by omega))
        have HS := Lib.hid (Ce.vix_no (n := (l : Int)) (m := m) (E := E) (l := l) (P := P) (by rw [HE.out]; decide))
        go_wp2_with fail
        go_returns
        exact ⟨ret_ints HS.out.symm HE.out.symm, hB⟩
      by_cases k1 : 1152921504606846976 < P k
      · have HE := Lib.hid (Ce.ver_2 H.out rfl hlt (P := P) (by omega))
        have HS := Lib.hid (Ce.vix_no (n := (l : Int)) (m := m) (E := E) (l := l) (P := P) (by rw [HE.out]; decide))
        go_wp2_with fail
        go_returns
        exact ⟨ret_ints HS.out.symm HE.out.symm, hB⟩
      have HO := Lib.hid (show Ce.okR P (k + 1) = true by rw [Ce.okR, hok.out, decide_eq_true (by omega)]; rfl)
      go_wp2_with fail
      go_roundw
      case rel => exact ⟨k + 1, by omega, by go_num, HO, Gb, hB⟩
      case measure => simp [intOf]; omega
    · obtain rfl : k = l := by omega
      have HE := Lib.hid (Ce.ver_0 H.out rfl hok.out)
      have HX := Lib.hid (Ce.vix_yes HE.out)
      have hR := (Ce.okR_iff P k).1 hok.out
      have HR := Lib.hid hR
      clear hR
      obtain ⟨y0, y1, y2, y3⟩ := Gb.open2
      go_wp2_with fail
      clear y0 y1 y2 y3
      go_loopw [37] (fun i wr => ∃ j : Nat, j ≤ m ∧ i = .int .i64 j ∧ Hid (∀ q, q < j → Ce.vp E P q = false) ∧ Below w.heap.size w wr) (fun i _ => m - (intOf i).toNat)
      case atStart => exact ⟨0, Nat.zero_le _, rfl, (fun q hq => absurd hq (Nat.not_lt_zero _)), hB⟩
      case round =>
        clear Gb hB
        obtain ⟨j, hj, rfl, hno, hB⟩ := hrel
        by_cases hlt : j < m
        · have he := O.e j hlt
          obtain ⟨xn, ex⟩ : ∃ q : Nat, E j 0 = (q : Int) := ⟨(E j 0).toNat, by have := he.f0; omega⟩
          obtain ⟨yn, ey⟩ : ∃ q : Nat, E j 1 = (q : Int) := ⟨(E j 1).toNat, by have := he.t0; omega⟩
          have hxn : xn < k := by have := he.f1; omega
          have hyn : yn < k := by have := he.t1; omega
          have p1 := HR.out xn hxn
          have p2 := HR.out yn hyn
          have z0 := he.c0
          have z1 := he.c1
          obtain ⟨b3, off3, eB, hbl3, v0, v1, v2⟩ := (T.keep hB).at3 hlt
          obtain ⟨bb, off, eA, hbl, u0⟩ := (U.keep hB).at1 hxn
          obtain ⟨bb', off', eA', hbl', u1⟩ := (U.keep hB).at1 hyn
          rw [eA] at eA'
          injection eA' with eA'
          injection eA' with eA1 eA2 eA3
          subst eA1 eA2
          have HV := Lib.hid (show Ce.vp E P j = decide (E j 2 < P yn - P xn) by unfold Ce.vp; rw [ex, ey, Int.toNat_natCast, Int.toNat_natCast])
          rw [ex] at v0
          rw [ey] at v1
          have HA := Lib.hid eA
          have HB := Lib.hid eB
          rw [HA.out, HB.out]
          clear eA eB ex ey he hbl'
          replace hB := bal hB (.cells #[.int .i64 xn, .int .i64 yn, .int .i64 (E j 2)] 59)
          have X := Blk.new wr 59 #[.int .i64 xn, .int .i64 yn, .int .i64 (E j 2)]
          by_cases hq : E j 2 < P yn - P xn
          · have HI := Lib.hid ((Ce.vix_yes HE.out).trans (Ce.fi_hit hno.out (by rw [HV.out]; exact decide_eq_true hq) m hlt))
            obtain ⟨d0, d1, d2, d3, d4⟩ := X.open3
            go_wp2_with fail
            go_quiet (fail)
            go_wp2_with fail
            go_returns
            exact ⟨ret_ints HI.out.symm HE.out.symm, bdnl hB _⟩
          · have HN := Lib.hid (show ∀ q, q < j + 1 → Ce.vp E P q = false from fun q hh => by
              by_cases e : q = j
              · rw [e, HV.out]; exact decide_eq_false hq
              · exact hno.out q (by omega))
            obtain ⟨d0, d1, d2, d3, d4⟩ := X.open3
            go_wp2_with fail
            go_quiet (fail)
            go_wp2_with fail
            go_roundw
            case rel => exact ⟨j + 1, by omega, by go_num, HN, bdnl hB _⟩
            case measure => simp [intOf]; omega
        · obtain rfl : j = m := by omega
          have HI := Lib.hid ((Ce.vix_yes HE.out).trans ((Ce.fi_no (Ce.vp E P) j).2 hno.out))
          go_wp2_with fail
          go_returns
          exact ⟨ret_ints HI.out.symm HE.out.symm, hB⟩
end Go.Proofs.Ytbmfkncfenkjoaa
