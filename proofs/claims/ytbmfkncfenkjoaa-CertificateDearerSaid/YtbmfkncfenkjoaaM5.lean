/-
  The walk of CertificateLeast.
-/
import Derived.Test.YtbmfkncfenkjoaaM5p
import Derived.Test.YtbmfkncfenkjoaaPlain5
namespace Go.Proofs.Ytbmfkncfenkjoaa
set_option linter.unusedVariables false
set_option linter.unusedSimpArgs false
open Go.RowKit
attribute [local irreducible] World.setCell World.cell?

set_option maxRecDepth 100000 in
set_option maxHeartbeats 4000000 in
theorem walk_c (A : Option Addr) (n : Int) (m c : Nat) (E : Ce.Tab) (w : World) (T : Rd w 3 A m c (iv E)) (O : Ce.Ok n m E) (a : Int) (a0 : 0 ≤ a) (a1 : a < n) (B : Option Addr) (lp d : Nat) (Pk : Nat → Int) (U : Rd w 1 B lp d (bv Pk)) (hp : ∀ i, i < lp → 0 ≤ Pk i ∧ Pk i ≤ 255) : Calls Try.prog 28 #[.agg #[.int .i64 n, .slice A m c], .int .i64 a, .slice B lp d] w fun e w' => ∃ (A' : Option Addr) (l c' : Nat) (R : Nat → Int) (x : Int), e = .returned (.tuple #[.slice A' l c', .int .i64 x]) ∧ Hid (Ce.Rt m E a x l R) ∧ 0 ≤ x ∧ x < n ∧ Rd w' 1 A' l c' (nv R) ∧ Below w.heap.size w w' := by
  have r1 := T.le
  have r2 := T.mx
  have r3 := U.le
  have r4 := U.mx
  have o3 := O.hm
  obtain ⟨i0, hi, hz0, hz1, hz2⟩ := info_parts infoI
  have HI := Lib.hid hi
  have HZ0 := Lib.hid hz0
  have HZ1 := Lib.hid hz1
  have HZ2 := Lib.hid hz2
  clear hi hz0 hz1 hz2
  go_enter Try.func28, Try.ntmps28
  try simp only [List.append_eq, List.cons_append, List.nil_append]
  have Gb := Blk.new w 24 #[.int .i64 (n), .slice A m c]
  have hB := ba w (.cells #[.int .i64 (n), .slice A m c] 24)
  go_wp2_with fail
  generalize World.alloc w _ = wS at Gb hB ⊢
  go_loopw [8, 9, 19] (fun s_ at_ i wr => ∃ (j l : Nat) (A' : Option Addr) (c' : Nat) (R : Nat → Int) (x : Int), j ≤ lp ∧ l ≤ j ∧ j ≤ 30 ∧ i = .int .i64 j ∧ s_ = .slice A' l c' ∧ at_ = .int .i64 x ∧ 0 ≤ x ∧ x < n ∧ Hid (Ce.Rt m E a x l R) ∧ Own wr wS.heap.size 3 1 A' l c' (nv R) ∧ Below wS.heap.size wS wr) (fun _ _ i _ => lp - (intOf i).toNat)
  case atStart => exact ⟨0, 0, none, 0, fun _ => 0, a, Nat.zero_le _, Nat.le_refl _, by omega, rfl, rfl, rfl, a0, a1, Ce.Rt.start m E a _, Own.nil _ _ _ _ _, Below.refl _ _⟩
  case round =>
    rename World => wO
    obtain ⟨j, l, A', c', R, x, hj, hl, hj30, rfl, rfl, rfl, x0, x1, hR, own, hW⟩ := hrel
    by_cases hlt : j < lp
    rotate_left
    · obtain rfl : j = lp := by omega
      go_wp2_with fail
      go_returns
      exact ⟨A', l, c', R, x, rfl, hR, x0, x1, own.rd, bt hB hW⟩
    obtain ⟨bb, off, eA, hbl, u0⟩ := (U.keep (bt hB hW)).atb hlt
    have HA := Lib.hid eA
    rw [HA.out]
    clear eA
    obtain ⟨q0, q1⟩ := hp j hlt
    obtain ⟨pn, ep⟩ : ∃ q : Nat, Pk j = (q : Int) := ⟨(Pk j).toNat, by omega⟩
    rw [ep] at u0 q0 q1
    clear ep
    by_cases h30 : (30 : Int) ≤ (j : Int)
    · go_wp2_with fail
      go_returns
      exact ⟨A', l, c', R, x, rfl, hR, x0, x1, own.rd, bt hB hW⟩
    obtain ⟨c0, c1, c2, c3⟩ := (Gb.keep hW).open2
    go_wp2_with fail
    clear c0 c1 c2 c3
    go_loopw [12, 29] (fun l_ i wr => ∃ (y q : Nat) (A2 : Option Addr) (c2 : Nat) (S : Nat → Int), y ≤ m ∧ q ≤ y ∧ i = .int .i64 y ∧ l_ = .slice A2 q c2 ∧ Own wr wO.heap.size 3 1 A2 q c2 (nv S) ∧ Hid (∀ z, z < q → 0 ≤ S z ∧ S z < m ∧ E (S z).toNat 0 = x) ∧ Below wO.heap.size wO wr) (fun _ i _ => m - (intOf i).toNat)
    case atStart => exact ⟨0, 0, none, 0, fun _ => 0, Nat.zero_le _, Nat.le_refl _, rfl, rfl, Own.nil _ _ _ _ _, Lib.hid fun z hz => absurd hz (Nat.not_lt_zero _), Below.refl _ _⟩
    case round =>
      obtain ⟨y, q, A2, c2, S, hy, hq, rfl, rfl, own2, hS, hV⟩ := hrel
      by_cases hlt2 : y < m
      · have hsz := hV.size
        obtain ⟨b3, off3, eB, hbl3, v0, v1, v2⟩ := (T.keep (bt (bt hB hW) hV)).at3 hlt2
        have HB := Lib.hid eB
        rw [HB.out] at Gb ⊢
        clear eB
        have X := Blk.new wr 59 #[.int .i64 (E y 0), .int .i64 (E y 1), .int .i64 (E y 2)]
        obtain ⟨d0, d1, d2, d3, d4⟩ := X.open3
        by_cases hx : E y 0 = x
        · have h1 : (E y 0 == x) = true := by simpa using hx
          have HX := Lib.hid hx
          clear hx
          go_wp2_with (at_builtin; refine wpList_append_Rd _ rfl _ _ 27 rfl wO.heap.size 3 i0 _ 1 8 Try.underlying27 HI.out HZ0.out HZ1.out HZ2.out rfl (by decide) rfl ((own2.alloc _).alloc _) rfl (rd_num _ _ _ (by simp)) (one_nv _) (by omega) (by omega) (by simp; omega) ?_; intro A3 c3_ w3 own' hgr hob)
          have own3 := own_up own'
          have hV2 : Below wO.heap.size wO w3 := (bal (bal hV _) _).trans (below_grown hgr (fun g hg => own2.base hg) (by simp; omega))
          have HS2 := Lib.hid (show ∀ z, z < q + 1 → 0 ≤ Ce.up S q y z ∧ Ce.up S q y z < m ∧ E (Ce.up S q y z).toNat 0 = x from fun z hz => by
            by_cases e : z = q
            · subst e; rw [Ce.up_at, Int.toNat_natCast]; exact ⟨by omega, by omega, HX.out⟩
            · rw [Ce.up_ne e]; exact hS.out z (by omega))
          clear own2 own' hgr hob hV d0 d1 d2 d3 d4 X v0 v1 v2
          go_wp2_with fail
          go_roundw
          case rel => exact ⟨y + 1, q + 1, A3, c3_, _, by omega, by omega, by go_num, rfl, own3, HS2, hV2⟩
          case measure => simp [intOf]; omega
        · have h1 : (E y 0 == x) = false := by simpa using hx
          clear hx
          go_wp2_with fail
          go_roundw
          case rel => exact ⟨y + 1, q, A2, c2, S, by omega, by omega, by go_num, rfl, own2.alloc _, hS, bal hV _⟩
          case measure => simp [intOf]; omega
      · obtain rfl : y = m := by omega
        by_cases hq0 : q = 0
        · subst hq0
          go_wp2_with fail
          go_returns
          exact ⟨A', l, c', R, x, rfl, hR, x0, x1, (own.keep hV).rd, bt hB (bt hW hV)⟩
        obtain ⟨gl, rfl, hg1, hg2⟩ := own2.pos (by omega)
        obtain ⟨r, hr⟩ : ∃ r : Nat, pn % q = r := ⟨_, rfl⟩
        have hrq : r < q := by rw [← hr]; exact Nat.mod_lt _ (by omega)
        have htm : Int.tmod (pn : Int) (q : Int) = (r : Int) := by rw [← hr]; rfl
        have HTM := Lib.hid htm
        obtain ⟨s0, s1, s2⟩ := hS.out r hrq
        obtain ⟨kk, ek⟩ : ∃ k : Nat, S r = (k : Int) := ⟨(S r).toNat, by omega⟩
        have z0 := own2.cell1 hrq
        rw [ek] at s0 s1 s2 z0
        rw [Int.toNat_natCast] at s2
        have hkm : kk < y := by omega
        have i1 : (0 : Int) ≤ (r : Int) := by omega
        have i2 : (r : Int) < (q : Int) := by omega
        have hq1 : ¬ (q : Int) = 0 := by omega
        have hq2 : ((q : Int) == 0) = false := by simpa using hq1
        have hT := T.keep (bt hB (bt hW hV))
        obtain ⟨b3, off3, eB, hbl3, v0, v1, v2⟩ := hT.at3 hkm
        have HB := Lib.hid eB
        rw [HB.out] at Gb ⊢
        clear v0 v1 v2 eB hT ek hS
        have hRn := Lib.hid (hR.out.snoc (by omega) (k := (kk : Int)) (by omega) (by omega) (by rw [Int.toNat_natCast]; exact s2))
        have sz1 := hW.size
        have sz2 := hV.size
        have i3 : (0 : Int) ≤ (kk : Int) := by omega
        have i4 : (kk : Int) < (y : Int) := by omega
        have ex1 := (O.e kk hkm).t0
        have ex2 := (O.e kk hkm).t1
        go_wp2_with (at_builtin; refine wpList_append_Rd _ rfl _ _ 27 rfl wS.heap.size 3 i0 _ 1 8 Try.underlying27 HI.out HZ0.out HZ1.out HZ2.out rfl (by decide) rfl ((own.keep hV).alloc _) rfl (rd_num _ _ _ (by simp)) (one_nv _) (by omega) (by omega) (by simp; omega) ?_; intro A3 c3_ w3 own' hgr hob; have hW3 : Below wS.heap.size wS w3 := (bal (bt hW hV) _).trans (below_grown hgr (fun g hg => own.base hg) (by simp; omega)); have T3 := T.keep (bt hB hW3); rw [HB.out] at T3; obtain ⟨v0, v1, v2, v3⟩ := T3.e3 hkm; obtain ⟨c0, c1_, c2_, c3⟩ := (Gb.keep hW3).open2)
        have own3 := own_up own'
        rw [← HB.out] at Gb ⊢
        go_roundw
        case rel => exact ⟨j + 1, l + 1, A3, c3_, _, E kk 1, by omega, by omega, by omega, by go_num, rfl, rfl, ex1, ex2, hRn, own3, hW3⟩
        case measure => simp [intOf]; omega
set_option maxRecDepth 100000 in
set_option maxHeartbeats 4000000 in
theorem law_least (A : Option Addr) (n : Int) (m c : Nat) (E : Ce.Tab) (w : World) (T : Rd w 3 A m c (iv E)) (n1 : -9223372036854775808 ≤ n) (n2 : n ≤ 9223372036854775807) (a : Int) (ha : -9223372036854775808 ≤ a ∧ a ≤ 9223372036854775807) (B : Option Addr) (lp d : Nat) (Pk : Nat → Int) (U : Rd w 1 B lp d (bv Pk)) (hp : ∀ i, i < lp → 0 ≤ Pk i ∧ Pk i ≤ 255) : Calls Try.prog 8 #[.agg #[.int .i64 n, .slice A m c], .int .i64 a, .slice B lp d] w fun e w' => e = .returned (.bool true) ∧ Below w.heap.size w w' := by
  have r1 := T.le
  have r2 := T.mx
  by_cases h : Ce.en n m E a a = 0
  rotate_left
  · have h3 : (Ce.en n m E a a != 0) = true := by simpa using h
    have H2 := Lib.hid h
    clear h
    go_enter Try.func8, Try.ntmps8
    try simp only [List.append_eq, List.cons_append, List.nil_append]
    have Gb := Blk.new w 24 #[.int .i64 (n), .slice A m c]
    have hB := ba w (.cells #[.int .i64 (n), .slice A m c] 24)
    go_wp2_with fail
    refine (awake_c _).mono ?_
    rintro e w1 ⟨rfl, hb⟩
    replace Gb := Gb.keep hb
    replace hB := bt hB hb
    clear hb
    obtain ⟨c00, c01, c02, c03⟩ := Gb.open2
    go_wp2_with fail
    refine (pots_no _ _ _ _ _ _ (T.keep hB) n1 n2 _ H2.out).mono ?_
    rintro e w2 ⟨rfl, hb⟩
    clear c00 c01 c02 c03
    replace Gb := Gb.keep hb
    replace hB := bt hB hb
    clear hb
    go_wp2_with fail
    go_returns
    exact ⟨rfl, hB⟩
  · have hN := Ce.en_ok.1 h
    clear h
    obtain ⟨N, eN⟩ : ∃ N : Nat, n = (N : Int) := ⟨n.toNat, by have := hN.ok.n1; omega⟩
    obtain ⟨s, es⟩ : ∃ s : Nat, a = (s : Int) := ⟨a.toNat, by have := hN.a0; omega⟩
    subst eN es
    have O := hN.ok
    have hs : s < N := by have := hN.a1; omega
    have o1 := O.n1
    have o2 := O.n2
    have o3 := O.hm
    go_enter Try.func8, Try.ntmps8
    try simp only [List.append_eq, List.cons_append, List.nil_append]
    have Gb := Blk.new w 24 #[.int .i64 (N), .slice A m c]
    have hB := ba w (.cells #[.int .i64 (N), .slice A m c] 24)
    go_wp2_with fail
    refine (awake_c _).mono ?_
    rintro e w1 ⟨rfl, hb⟩
    replace Gb := Gb.keep hb
    replace hB := bt hB hb
    clear hb
    obtain ⟨c00, c01, c02, c03⟩ := Gb.open2
    go_wp2_with fail
    refine (pots_ok _ N m c E s _ (T.keep hB) O hs).mono ?_
    rintro e w2 ⟨A3, c3, C, D, HL, rfl, Q, hb⟩
    clear c00 c01 c02 c03
    replace Gb := Gb.keep hb
    replace hB := bt hB hb
    clear hb
    obtain ⟨c00, c01, c02, c03⟩ := Gb.open2
    go_wp2_with fail
    refine (walk_c _ _ _ _ _ _ (T.keep hB) O _ hN.a0 hN.a1 _ _ _ _ (U.keep hB) hp).mono ?_
    rintro e w3 ⟨A4, l, c4, R, x, rfl, HR, x0, x1, V, hb⟩
    clear c00 c01 c02 c03
    replace Gb := Gb.keep hb
    replace Q := Q.keep hb
    replace hB := bt hB hb
    clear hb
    obtain ⟨e1, e2, e3, e4⟩ := Ce.least_ok O HL.out hs x0 x1 HR.out
    have bd := Ce.csum_bd O HR.out.i
    have hl9 := HR.out.hl
    have E1 := Lib.hid e1
    have E2 := Lib.hid e2
    clear e1 e2
    obtain ⟨c00, c01, c02, c03⟩ := Gb.open2
    go_wp2_with fail
    refine (cost_c _ _ _ _ _ _ (T.keep hB) n1 n2 _ _ _ _ _ _ V).mono ?_
    rw [E1.out, E2.out]
    rintro e w4 ⟨rfl, hb⟩
    clear c00 c01 c02 c03
    replace Gb := Gb.keep hb
    replace Q := Q.keep hb
    replace V := V.keep hb
    replace hB := bt hB hb
    clear hb
    obtain ⟨xn, ex⟩ : ∃ q : Nat, x = (q : Int) := ⟨x.toNat, by omega⟩
    subst ex
    rw [Int.toNat_natCast] at e3 e4
    obtain ⟨bb, off, eA, hbl, u0⟩ := Q.at1 (k := xn) (by omega)
    have HA := Lib.hid eA
    rw [HA.out]
    clear eA bd
    obtain ⟨c00, c01, c02, c03⟩ := Gb.open2
    go_wp2_with fail
    go_returns
    exact ⟨rfl, hB⟩
end Go.Proofs.Ytbmfkncfenkjoaa
