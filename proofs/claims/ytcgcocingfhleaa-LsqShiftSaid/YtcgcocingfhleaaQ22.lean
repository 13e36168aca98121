/-
  The walk of LsqShift.
-/
import Derived.Test.YtcgcocingfhleaaQ15
import Derived.Test.YtcgcocingfhleaaQApp
import Derived.Test.YtcgcocingfhleaaQ13
namespace Go.Proofs.Ytcgcocingfhleaa
set_option linter.unusedVariables false
set_option linter.unusedSimpArgs false
open Go.RowKit
attribute [local irreducible] World.setCell World.cell?

set_option maxRecDepth 100000 in
set_option maxHeartbeats 4000000 in
theorem law_shift (A : Option Addr) (n c : Nat) (M : Lq.Tab) (px py : Int) (w : World) (T : Rd w 6 A n c (iv M)) :
    Calls Try.prog 7 #[.slice A n c, .agg #[.int .i64 px, .int .i64 py]] w fun e w' => e = .returned (.bool true) ∧ Below w.heap.size w w' := by
  cases hp : Lq.pv px py
  · have HP := Lib.hid hp
    clear hp
    go_enter Try.func7, Try.ntmps7
    try simp only [List.append_eq, List.cons_append, List.nil_append]
    have P := Blk.new w 36 #[.int .i64 (px), .int .i64 (py)]
    have hB := ba w (.cells #[.int .i64 (px), .int .i64 (py)] 36)
    go_wp2_with fail
    refine (awake_c _).mono ?_
    rintro e w1 ⟨rfl, hb⟩
    replace P := P.keep hb
    replace hB := bt hB hb
    clear hb
    obtain ⟨c00, c01, c02, c03⟩ := P.open2
    go_wp2_with fail
    refine (pvalid_c _ _ _).mono ?_
    rw [HP.out]
    rintro e w2 ⟨rfl, hb⟩
    clear c00 c01 c02 c03
    replace P := P.keep hb
    replace hB := bt hB hb
    clear hb
    go_wp2_with fail
    go_returns
    exact ⟨rfl, hB⟩
  · have HP := Lib.hid hp
    obtain ⟨x1, x2, y1, y2⟩ := Lq.pv_iff.1 hp
    clear hp
    have KC := fun W_ (T_ : Rd W_ 6 A n c (iv M)) => cut_c A n c M W_ T_
    have T0 := T
    have hk : (if n ≤ 20 then n else 20) ≤ n := by split <;> omega
    generalize hk2 : (if n ≤ 20 then n else 20) = k at hk
    replace hk2 := Lib.hid hk2
    have hk20 : k ≤ 20 := by have := hk2.out; split at this <;> omega
    simp only [hk2.out] at KC
    have T := T0.short hk
    go_enter Try.func7, Try.ntmps7
    try simp only [List.append_eq, List.cons_append, List.nil_append]
    have P := Blk.new w 36 #[.int .i64 (px), .int .i64 (py)]
    have hB := ba w (.cells #[.int .i64 (px), .int .i64 (py)] 36)
    go_wp2_with fail
    refine (awake_c _).mono ?_
    rintro e w1 ⟨rfl, hb⟩
    replace P := P.keep hb
    replace hB := bt hB hb
    clear hb
    obtain ⟨c00, c01, c02, c03⟩ := P.open2
    go_wp2_with fail
    refine (pvalid_c _ _ _).mono ?_
    rw [HP.out]
    rintro e w2 ⟨rfl, hb⟩
    clear c00 c01 c02 c03
    replace P := P.keep hb
    replace hB := bt hB hb
    clear hb
    go_wp2_with fail
    refine (KC _ (T0.keep hB)).mono ?_
    rintro e wq ⟨rfl, rfl⟩
    clear KC
    by_cases h : Lq.er k M = 0
    rotate_left
    · have h1 : (Lq.er k M != 0) = true := by simpa using h
      have H := Lib.hid h
      clear h
      go_wp2_with fail
      refine (solve_no _ _ _ _ _ (T.keep hB) H.out).mono ?_
      rintro e w3 ⟨rfl, hb⟩
      replace P := P.keep hb
      replace hB := bt hB hb
      clear hb
      have hz3 := hB.size
      have l3P := P.lt
      replace P := P.alloc (.cells #[.int .i64 (0), .int .u64 (0), .int .i64 (0), .int .u64 (0), .int .i64 (0), .int .i64 (0), .int .i64 (0)] 38)
      replace hB := bal hB (.cells #[.int .i64 (0), .int .u64 (0), .int .i64 (0), .int .u64 (0), .int .i64 (0), .int .i64 (0), .int .i64 (0)] 38)
      have S := Blk.new w3 38 #[.int .i64 (0), .int .u64 (0), .int .i64 (0), .int .u64 (0), .int .i64 (0), .int .i64 (0), .int .i64 (0)]
      obtain ⟨c00, c01, c02, c03, c04, c05, c06, c07, c08⟩ := S.open7
      go_wp2_with fail
      go_returns
      exact ⟨rfl, hB⟩
    have S0 := Lq.er_ok.1 h
    have O := S0.ok
    obtain ⟨⟨m1, m2⟩, m3, m4⟩ := S0.bd
    have H := Lib.hid h
    clear h
    obtain ⟨i0, hi, hz0, hz1, hz2⟩ := info_parts infoM
    have HI := Lib.hid hi
    have HZ0 := Lib.hid hz0
    have HZ1 := Lib.hid hz1
    have HZ2 := Lib.hid hz2
    clear hi hz0 hz1 hz2
    go_wp2_with fail
    refine (solve_ok _ _ _ _ _ (T.keep hB) H.out).mono ?_
    rintro e w3 ⟨rfl, hb⟩
    replace P := P.keep hb
    replace hB := bt hB hb
    clear hb
    have hz3 := hB.size
    have l3P := P.lt
    replace P := P.alloc (.cells #[.int .i64 (Wi.Hq (Lq.sx k M)), .int .u64 (Wi.Lr (Lq.sx k M)), .int .i64 (Wi.Hq (Lq.sy k M)), .int .u64 (Wi.Lr (Lq.sy k M)), .int .i64 (Lq.det k M), .int .i64 (Lq.nr (Lq.sx k M) (Lq.det k M)), .int .i64 (Lq.nr (Lq.sy k M) (Lq.det k M))] 38)
    replace hB := bal hB (.cells #[.int .i64 (Wi.Hq (Lq.sx k M)), .int .u64 (Wi.Lr (Lq.sx k M)), .int .i64 (Wi.Hq (Lq.sy k M)), .int .u64 (Wi.Lr (Lq.sy k M)), .int .i64 (Lq.det k M), .int .i64 (Lq.nr (Lq.sx k M) (Lq.det k M)), .int .i64 (Lq.nr (Lq.sy k M) (Lq.det k M))] 38)
    have S := Blk.new w3 38 #[.int .i64 (Wi.Hq (Lq.sx k M)), .int .u64 (Wi.Lr (Lq.sx k M)), .int .i64 (Wi.Hq (Lq.sy k M)), .int .u64 (Wi.Lr (Lq.sy k M)), .int .i64 (Lq.det k M), .int .i64 (Lq.nr (Lq.sx k M) (Lq.det k M)), .int .i64 (Lq.nr (Lq.sy k M) (Lq.det k M))]
    have lP : w.heap.size < w3.heap.size := l3P
    have own := own_empty (World.alloc w3 (.cells #[.int .i64 (Wi.Hq (Lq.sx k M)), .int .u64 (Wi.Lr (Lq.sx k M)), .int .i64 (Wi.Hq (Lq.sy k M)), .int .u64 (Wi.Lr (Lq.sy k M)), .int .i64 (Lq.det k M), .int .i64 (Lq.nr (Lq.sx k M) (Lq.det k M)), .int .i64 (Lq.nr (Lq.sy k M) (Lq.det k M))] 38)) (w3.heap.size + 1) 43 6 (iv (Lq.shf M px py)) (H := w3.heap.size + 1) (by simp) (by simp)
    replace P := P.alloc (.cells #[] 43)
    replace S := S.alloc (.cells #[] 43)
    replace hB := bal hB (.cells #[] 43)
    go_wp2_with fail
    generalize w3.heap.size = gS at *
    go_loopw [7, 32] (fun s i wr => ∃ (j : Nat) (A' : Option Addr) (c' : Nat), j ≤ k ∧ i = .int .i64 j ∧ s = .slice A' j c' ∧ Own wr (gS + 1) 43 6 A' j c' (iv (Lq.shf M px py)) ∧ Blk wr w.heap.size 36 #[.int .i64 (px), .int .i64 (py)] ∧ Blk wr gS 38 #[.int .i64 (Wi.Hq (Lq.sx k M)), .int .u64 (Wi.Lr (Lq.sx k M)), .int .i64 (Wi.Hq (Lq.sy k M)), .int .u64 (Wi.Lr (Lq.sy k M)), .int .i64 (Lq.det k M), .int .i64 (Lq.nr (Lq.sx k M) (Lq.det k M)), .int .i64 (Lq.nr (Lq.sy k M) (Lq.det k M))] ∧ Below w.heap.size w wr) (fun _ i _ => k - (intOf i).toNat)
    case atStart => exact ⟨0, _, _, Nat.zero_le _, rfl, rfl, own, P, S, hB⟩
    case round =>
      clear own P S hB
      rename_i wr
      obtain ⟨j, A', c', hj, rfl, rfl, own, P, S, hB⟩ := hrel
      by_cases hlt : j < k
      · obtain ⟨bb, off, eA, hbl, u0, u1, u2, u3, u4, u5⟩ := (T.keep hB).at6 hlt
        have HA := Lib.hid eA
        rw [HA.out]
        clear eA
        have v := O.v j hlt
        have q1 := Lq.mul_bd (a := M j 1) (b := px) ⟨v.a1, v.a2⟩ ⟨x1, x2⟩
        have q2 := Lq.mul_bd (a := M j 2) (b := py) ⟨v.b1, v.b2⟩ ⟨y1, y2⟩
        have z1 := v.z1
        have z2 := v.z2
        have f1 : -512000000 ≤ M j 1 * px := by omega
        have f2 : M j 1 * px ≤ 512000000 := by omega
        have f3 : -512000000 ≤ M j 2 * py := by omega
        have f4 : M j 2 * py ≤ 512000000 := by omega
        clear q1 q2 v
        obtain ⟨p0, p1, p2, p3⟩ := P.open2
        have hsz := hB.size
        have lS := S.lt
        go_wp2_with (at_builtin; refine wpList_append_Rd _ rfl _ _ 22 rfl (gS + 1) 43 i0 _ 6 48 Try.underlying22 HI.out HZ0.out HZ1.out HZ2.out rfl (by decide) rfl ((own.alloc _).alloc _) rfl (rd_row6 _ _ _ _ _ _ _ _ (by simp)) (one_iv _) (by omega) (by omega) (by simp; omega) ?_; intro A2 c2 w3 own' hgr hob)
        have own2 := own_sn6 own' (Lq.shf M px py) (fun _ _ _ => rfl) ⟨rfl, rfl, rfl, rfl, rfl, rfl⟩
        have P2 := ((P.alloc _).alloc _).grown hgr (fun g hg => by have := own.base hg; omega)
        have S2 := ((S.alloc _).alloc _).grown hgr (fun g hg => by have := own.base hg; omega)
        have hB3 : Below w.heap.size w w3 := (bal (bal hB _) _).trans (below_grown hgr (fun g hg => by have := own.base hg; omega) (by simp; omega))
        clear own own' hgr hob P S hB p0 p1 p2 p3 u0 u1 u2 u3 u4 u5
        go_wp2_with fail
        go_roundw
        case rel => exact ⟨j + 1, A2, c2, by omega, by go_num, rfl, own2, P2, S2, hB3⟩
        case measure => simp [intOf]; omega
      · obtain rfl : j = k := by omega
        have T2 := own.rd
        clear own
        rcases Lq.shift (x := px) (y := py) S0 with q | q | ⟨q, q2, q3⟩
        · have Q := Lib.hid q
          clear q
          go_wp2_with fail
          refine (solve_no _ _ _ (Lq.shf M px py) _ T2 (by rw [Q.out]; decide)).mono ?_
          rw [Q.out]
          rintro e w21 ⟨rfl, hb⟩
          replace P := P.keep hb
          replace S := S.keep hb
          replace hB := bt hB hb
          clear hb
          have hz21 := hB.size
          have l21P := P.lt
          have l21S := S.lt
          replace P := P.alloc (.cells #[.int .i64 (0), .int .u64 (0), .int .i64 (0), .int .u64 (0), .int .i64 (0), .int .i64 (0), .int .i64 (0)] 38)
          replace S := S.alloc (.cells #[.int .i64 (0), .int .u64 (0), .int .i64 (0), .int .u64 (0), .int .i64 (0), .int .i64 (0), .int .i64 (0)] 38)
          replace hB := bal hB (.cells #[.int .i64 (0), .int .u64 (0), .int .i64 (0), .int .u64 (0), .int .i64 (0), .int .i64 (0), .int .i64 (0)] 38)
          have S2 := Blk.new w21 38 #[.int .i64 (0), .int .u64 (0), .int .i64 (0), .int .u64 (0), .int .i64 (0), .int .i64 (0), .int .i64 (0)]
          go_wp2_with fail
          go_returns
          exact ⟨rfl, hB⟩
        · have Q := Lib.hid q
          clear q
          go_wp2_with fail
          refine (solve_no _ _ _ (Lq.shf M px py) _ T2 (by rw [Q.out]; decide)).mono ?_
          rw [Q.out]
          rintro e w21 ⟨rfl, hb⟩
          replace P := P.keep hb
          replace S := S.keep hb
          replace hB := bt hB hb
          clear hb
          have hz21 := hB.size
          have l21P := P.lt
          have l21S := S.lt
          replace P := P.alloc (.cells #[.int .i64 (0), .int .u64 (0), .int .i64 (0), .int .u64 (0), .int .i64 (0), .int .i64 (0), .int .i64 (0)] 38)
          replace S := S.alloc (.cells #[.int .i64 (0), .int .u64 (0), .int .i64 (0), .int .u64 (0), .int .i64 (0), .int .i64 (0), .int .i64 (0)] 38)
          replace hB := bal hB (.cells #[.int .i64 (0), .int .u64 (0), .int .i64 (0), .int .u64 (0), .int .i64 (0), .int .i64 (0), .int .i64 (0)] 38)
          have S2 := Blk.new w21 38 #[.int .i64 (0), .int .u64 (0), .int .i64 (0), .int .u64 (0), .int .i64 (0), .int .i64 (0), .int .i64 (0)]
          go_wp2_with fail
          go_returns
          exact ⟨rfl, hB⟩
        · have Q := Lib.hid q
          have Q2 := Lib.hid q2
          have Q3 := Lib.hid q3
          have Q4 := Lib.hid (Lq.shf_det M px py j)
          clear q q2 q3
          go_wp2_with fail
          refine (solve_ok _ _ _ (Lq.shf M px py) _ T2 Q.out).mono ?_
          rw [Q2.out, Q3.out, Q4.out]
          rintro e w21 ⟨rfl, hb⟩
          replace P := P.keep hb
          replace S := S.keep hb
          replace hB := bt hB hb
          clear hb
          have hz21 := hB.size
          have l21P := P.lt
          have l21S := S.lt
          replace P := P.alloc (.cells #[.int .i64 (Wi.Hq (Lq.sx j (Lq.shf M px py))), .int .u64 (Wi.Lr (Lq.sx j (Lq.shf M px py))), .int .i64 (Wi.Hq (Lq.sy j (Lq.shf M px py))), .int .u64 (Wi.Lr (Lq.sy j (Lq.shf M px py))), .int .i64 (Lq.det j M), .int .i64 (Lq.nr (Lq.sx j M) (Lq.det j M) + px), .int .i64 (Lq.nr (Lq.sy j M) (Lq.det j M) + py)] 38)
          replace S := S.alloc (.cells #[.int .i64 (Wi.Hq (Lq.sx j (Lq.shf M px py))), .int .u64 (Wi.Lr (Lq.sx j (Lq.shf M px py))), .int .i64 (Wi.Hq (Lq.sy j (Lq.shf M px py))), .int .u64 (Wi.Lr (Lq.sy j (Lq.shf M px py))), .int .i64 (Lq.det j M), .int .i64 (Lq.nr (Lq.sx j M) (Lq.det j M) + px), .int .i64 (Lq.nr (Lq.sy j M) (Lq.det j M) + py)] 38)
          replace hB := bal hB (.cells #[.int .i64 (Wi.Hq (Lq.sx j (Lq.shf M px py))), .int .u64 (Wi.Lr (Lq.sx j (Lq.shf M px py))), .int .i64 (Wi.Hq (Lq.sy j (Lq.shf M px py))), .int .u64 (Wi.Lr (Lq.sy j (Lq.shf M px py))), .int .i64 (Lq.det j M), .int .i64 (Lq.nr (Lq.sx j M) (Lq.det j M) + px), .int .i64 (Lq.nr (Lq.sy j M) (Lq.det j M) + py)] 38)
          have S2 := Blk.new w21 38 #[.int .i64 (Wi.Hq (Lq.sx j (Lq.shf M px py))), .int .u64 (Wi.Lr (Lq.sx j (Lq.shf M px py))), .int .i64 (Wi.Hq (Lq.sy j (Lq.shf M px py))), .int .u64 (Wi.Lr (Lq.sy j (Lq.shf M px py))), .int .i64 (Lq.det j M), .int .i64 (Lq.nr (Lq.sx j M) (Lq.det j M) + px), .int .i64 (Lq.nr (Lq.sy j M) (Lq.det j M) + py)]
          obtain ⟨c00, c01, c02, c03⟩ := P.open2
          obtain ⟨c10, c11, c12, c13, c14, c15, c16, c17, c18⟩ := S.open7
          obtain ⟨c20, c21, c22, c23, c24, c25, c26, c27, c28⟩ := S2.open7
          go_wp2_with fail
          go_returns
          exact ⟨rfl, hB⟩
end Go.Proofs.Ytcgcocingfhleaa
