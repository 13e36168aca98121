/-
  The walk of LsqBest.
-/
import Derived.Test.YtcgcocingfhleaaQ17
import Derived.Test.YtcgcocingfhleaaQ10
namespace Go.Proofs.Ytcgcocingfhleaa
set_option linter.unusedVariables false
set_option linter.unusedSimpArgs false
open Go.RowKit
attribute [local irreducible] World.setCell World.cell?

theorem res_ok (A : Option Addr) (n c : Nat) (M : Lq.Tab) (px py : Int) (w : World) (T : Rd w 6 A n c (iv M)) (h : Re n M px py = 0) : Calls Try.prog 26 #[.slice A n c, .agg #[.int .i64 px, .int .i64 py]] w fun e w' => e = .returned (.tuple #[.agg #[.int .i64 (Wi.Hq (Lq.qf n M px py 1)), .int .u64 (Wi.Lr (Lq.qf n M px py 1))], .int .i64 0]) ∧ Below w.heap.size w w' := (residual_c A n c M px py w T).mono fun _ _ q => ⟨q.1.1 h, q.2⟩
theorem res_no (A : Option Addr) (n c : Nat) (M : Lq.Tab) (px py : Int) (w : World) (T : Rd w 6 A n c (iv M)) (h : Re n M px py ≠ 0) : Calls Try.prog 26 #[.slice A n c, .agg #[.int .i64 px, .int .i64 py]] w fun e w' => e = .returned (.tuple #[.agg #[.int .i64 (0), .int .u64 (0)], .int .i64 (Re n M px py)]) ∧ Below w.heap.size w w' := (residual_c A n c M px py w T).mono fun _ _ q => ⟨q.1.2 h, q.2⟩
set_option maxRecDepth 100000 in
set_option maxHeartbeats 4000000 in
theorem law_best (A : Option Addr) (n c : Nat) (M : Lq.Tab) (px py : Int) (w : World) (T : Rd w 6 A n c (iv M)) (bx : -9223372036854775808 ≤ px ∧ px ≤ 9223372036854775807) (by_ : -9223372036854775808 ≤ py ∧ py ≤ 9223372036854775807) :
    Calls Try.prog 10 #[.slice A n c, .agg #[.int .i64 px, .int .i64 py]] w fun e w' => e = .returned (.bool true) ∧ Below w.heap.size w w' := by
  have KC := fun W_ (T_ : Rd W_ 6 A n c (iv M)) => cut_c A n c M W_ T_
  have T0 := T
  have hk : (if n ≤ 20 then n else 20) ≤ n := by split <;> omega
  generalize hk2 : (if n ≤ 20 then n else 20) = k at hk
  replace hk2 := Lib.hid hk2
  simp only [hk2.out] at KC
  have T := T0.short hk
  go_enter Try.func10, Try.ntmps10
  try simp only [List.append_eq, List.cons_append, List.nil_append]
  have P := Blk.new w 36 #[.int .i64 (px), .int .i64 (py)]
  have hB := ba w (.cells #[.int .i64 (px), .int .i64 (py)] 36)
  go_wp2_with fail
  refine (awake_c _).mono ?_
  rintro e w1 ⟨rfl, hb⟩
  replace P := P.keep hb
  replace hB := bt hB hb
  clear hb
  go_wp2_with fail
  refine (KC _ (T0.keep hB)).mono ?_
  rintro e wq ⟨rfl, rfl⟩
  clear KC
  by_cases h : Lq.er k M = 0
  · by_cases h2 : Re k M px py = 0
    · have S := Lq.er_ok.1 h
      have O := S.ok
      have hd0 := S.d
      clear S
      obtain ⟨x1, x2, y1, y2⟩ := Lq.pv_iff.1 (re_iff.1 h2).2
      have hn := O.hn
      have bq := Lq.res_bd O ⟨x1, x2⟩ ⟨y1, y2⟩ k (Nat.le_refl _)
      have bd := Lq.det_le O
      have bm := Lq.mul_bd (a := Lq.qf k M px py 1) (b := Lq.det k M) (A := 7242601752554893213696) (B := 281474976710656) (by omega) (by omega)
      have best := Lq.best O hd0 px py 1
      rw [Int.mul_one, Int.mul_one] at best
      have nn := Lq.num_nn O hd0
      have i1 : Wi.inW (Lq.qf k M px py 1) := by unfold Wi.inW; omega
      have i2 : Wi.inW (Lq.qf k M px py 1 * Lq.det k M) := by unfold Wi.inW; omega
      have i3 : Wi.inW (Lq.num k M) := by unfold Wi.inW; omega
      have OQ := Wi.wd_self i1
      have OD := Wi.wd_self i2
      have ON := Wi.wd_self i3
      have E1 := Lib.hid (Wi.rv_yes i2)
      have K1 := Lib.hid (Wi.okb_yes i2)
      have hc : Wi.cm (Lq.num k M) (Lq.qf k M px py 1 * Lq.det k M) ≤ 0 := by unfold Wi.cm; split <;> (try split) <;> omega
      have H := Lib.hid h
      have H2 := Lib.hid h2
      clear h h2 bq bm best nn i1 i2 i3
      go_wp2_with fail
      refine (least_ok _ _ _ _ _ (T.keep hB) H.out).mono ?_
      rintro e w2 ⟨rfl, hb⟩
      replace P := P.keep hb
      replace hB := bt hB hb
      clear hb
      have hz2 := hB.size
      have l2P := P.lt
      replace P := P.alloc (.cells #[.int .i64 (Wi.Hq (Lq.num k M)), .int .u64 (Wi.Lr (Lq.num k M))] 34)
      replace hB := bal hB (.cells #[.int .i64 (Wi.Hq (Lq.num k M)), .int .u64 (Wi.Lr (Lq.num k M))] 34)
      have N := Blk.new w2 34 #[.int .i64 (Wi.Hq (Lq.num k M)), .int .u64 (Wi.Lr (Lq.num k M))]
      obtain ⟨c00, c01, c02, c03⟩ := P.open2
      obtain ⟨c10, c11, c12, c13⟩ := N.open2
      go_wp2_with fail
      refine (res_ok _ _ _ _ _ _ _ (T.keep hB) H2.out).mono ?_
      rintro e w3 ⟨rfl, hb⟩
      clear c00 c01 c02 c03 c10 c11 c12 c13
      replace P := P.keep hb
      replace N := N.keep hb
      replace hB := bt hB hb
      clear hb
      have hz3 := hB.size
      have l3P := P.lt
      have l3N := N.lt
      replace P := P.alloc (.cells #[.int .i64 (Wi.Hq (Lq.qf k M px py 1)), .int .u64 (Wi.Lr (Lq.qf k M px py 1))] 34)
      replace N := N.alloc (.cells #[.int .i64 (Wi.Hq (Lq.qf k M px py 1)), .int .u64 (Wi.Lr (Lq.qf k M px py 1))] 34)
      replace hB := bal hB (.cells #[.int .i64 (Wi.Hq (Lq.qf k M px py 1)), .int .u64 (Wi.Lr (Lq.qf k M px py 1))] 34)
      have Q := Blk.new w3 34 #[.int .i64 (Wi.Hq (Lq.qf k M px py 1)), .int .u64 (Wi.Lr (Lq.qf k M px py 1))]
      obtain ⟨c00, c01, c02, c03⟩ := Q.open2
      obtain ⟨c10, c11, c12, c13⟩ := N.open2
      go_wp2_with fail
      refine (times_c _ _ _ _ _ OQ (by omega) (by omega)).mono ?_
      rw [E1.out, K1.out]
      rintro e w4 ⟨rfl, hb⟩
      clear c00 c01 c02 c03 c10 c11 c12 c13
      replace P := P.keep hb
      replace N := N.keep hb
      replace Q := Q.keep hb
      replace hB := bt hB hb
      clear hb
      have hz4 := hB.size
      have l4P := P.lt
      have l4N := N.lt
      have l4Q := Q.lt
      replace P := P.alloc (.cells #[.int .i64 (Wi.Hq (Lq.qf k M px py 1 * Lq.det k M)), .int .u64 (Wi.Lr (Lq.qf k M px py 1 * Lq.det k M))] 34)
      replace N := N.alloc (.cells #[.int .i64 (Wi.Hq (Lq.qf k M px py 1 * Lq.det k M)), .int .u64 (Wi.Lr (Lq.qf k M px py 1 * Lq.det k M))] 34)
      replace Q := Q.alloc (.cells #[.int .i64 (Wi.Hq (Lq.qf k M px py 1 * Lq.det k M)), .int .u64 (Wi.Lr (Lq.qf k M px py 1 * Lq.det k M))] 34)
      replace hB := bal hB (.cells #[.int .i64 (Wi.Hq (Lq.qf k M px py 1 * Lq.det k M)), .int .u64 (Wi.Lr (Lq.qf k M px py 1 * Lq.det k M))] 34)
      have AT := Blk.new w4 34 #[.int .i64 (Wi.Hq (Lq.qf k M px py 1 * Lq.det k M)), .int .u64 (Wi.Lr (Lq.qf k M px py 1 * Lq.det k M))]
      obtain ⟨c00, c01, c02, c03⟩ := N.open2
      obtain ⟨c10, c11, c12, c13⟩ := AT.open2
      go_wp2_with fail
      refine (cmp_c _ _ _ _ _ _ _ ON OD).mono ?_
      rintro e w5 ⟨rfl, hb⟩
      clear c00 c01 c02 c03 c10 c11 c12 c13
      replace P := P.keep hb
      replace N := N.keep hb
      replace Q := Q.keep hb
      replace AT := AT.keep hb
      replace hB := bt hB hb
      clear hb
      go_wp2_with fail
      go_returns
      exact ⟨rfl, hB⟩
    · have hd0 := (Lq.er_ok.1 h).d
      have h3 : (Re k M px py != 0) = true := by simpa using h2
      have hdn : (Lq.det k M == 0) = false := by simp; omega
      have H := Lib.hid h
      have H2 := Lib.hid h2
      clear h h2
      by_cases q1 : Wi.Hq (Lq.num k M) = 0 <;> by_cases q2 : Wi.Lr (Lq.num k M) = 0
      · have t1 : (Wi.Hq (Lq.num k M) == 0) = true := by simpa using q1
        have t2 : (Wi.Lr (Lq.num k M) == 0) = true := by simpa using q2
        clear q1 q2
        go_wp2_with fail
        refine (least_ok _ _ _ _ _ (T.keep hB) H.out).mono ?_
        rintro e w2 ⟨rfl, hb⟩
        replace P := P.keep hb
        replace hB := bt hB hb
        clear hb
        have hz2 := hB.size
        have l2P := P.lt
        replace P := P.alloc (.cells #[.int .i64 (Wi.Hq (Lq.num k M)), .int .u64 (Wi.Lr (Lq.num k M))] 34)
        replace hB := bal hB (.cells #[.int .i64 (Wi.Hq (Lq.num k M)), .int .u64 (Wi.Lr (Lq.num k M))] 34)
        have N := Blk.new w2 34 #[.int .i64 (Wi.Hq (Lq.num k M)), .int .u64 (Wi.Lr (Lq.num k M))]
        obtain ⟨c00, c01, c02, c03⟩ := P.open2
        obtain ⟨c10, c11, c12, c13⟩ := N.open2
        go_wp2_with fail
        refine (res_no _ _ _ _ _ _ _ (T.keep hB) H2.out).mono ?_
        rintro e w3 ⟨rfl, hb⟩
        clear c00 c01 c02 c03 c10 c11 c12 c13
        replace P := P.keep hb
        replace N := N.keep hb
        replace hB := bt hB hb
        clear hb
        have hz3 := hB.size
        have l3P := P.lt
        have l3N := N.lt
        replace P := P.alloc (.cells #[.int .i64 (0), .int .u64 (0)] 34)
        replace N := N.alloc (.cells #[.int .i64 (0), .int .u64 (0)] 34)
        replace hB := bal hB (.cells #[.int .i64 (0), .int .u64 (0)] 34)
        have Q := Blk.new w3 34 #[.int .i64 (0), .int .u64 (0)]
        obtain ⟨c00, c01, c02, c03⟩ := N.open2
        go_wp2_with fail
        go_returns
        exact ⟨rfl, hB⟩
      · have t1 : (Wi.Hq (Lq.num k M) == 0) = true := by simpa using q1
        have t2 : (Wi.Lr (Lq.num k M) == 0) = false := by simpa using q2
        clear q1 q2
        go_wp2_with fail
        refine (least_ok _ _ _ _ _ (T.keep hB) H.out).mono ?_
        rintro e w2 ⟨rfl, hb⟩
        replace P := P.keep hb
        replace hB := bt hB hb
        clear hb
        have hz2 := hB.size
        have l2P := P.lt
        replace P := P.alloc (.cells #[.int .i64 (Wi.Hq (Lq.num k M)), .int .u64 (Wi.Lr (Lq.num k M))] 34)
        replace hB := bal hB (.cells #[.int .i64 (Wi.Hq (Lq.num k M)), .int .u64 (Wi.Lr (Lq.num k M))] 34)
        have N := Blk.new w2 34 #[.int .i64 (Wi.Hq (Lq.num k M)), .int .u64 (Wi.Lr (Lq.num k M))]
        obtain ⟨c00, c01, c02, c03⟩ := P.open2
        obtain ⟨c10, c11, c12, c13⟩ := N.open2
        go_wp2_with fail
        refine (res_no _ _ _ _ _ _ _ (T.keep hB) H2.out).mono ?_
        rintro e w3 ⟨rfl, hb⟩
        clear c00 c01 c02 c03 c10 c11 c12 c13
        replace P := P.keep hb
        replace N := N.keep hb
        replace hB := bt hB hb
        clear hb
        have hz3 := hB.size
        have l3P := P.lt
        have l3N := N.lt
        replace P := P.alloc (.cells #[.int .i64 (0), .int .u64 (0)] 34)
        replace N := N.alloc (.cells #[.int .i64 (0), .int .u64 (0)] 34)
        replace hB := bal hB (.cells #[.int .i64 (0), .int .u64 (0)] 34)
        have Q := Blk.new w3 34 #[.int .i64 (0), .int .u64 (0)]
        obtain ⟨c00, c01, c02, c03⟩ := N.open2
        go_wp2_with fail
        go_returns
        exact ⟨rfl, hB⟩
      · have t1 : (Wi.Hq (Lq.num k M) == 0) = false := by simpa using q1
        have t2 : (Wi.Lr (Lq.num k M) == 0) = true := by simpa using q2
        clear q1 q2
        go_wp2_with fail
        refine (least_ok _ _ _ _ _ (T.keep hB) H.out).mono ?_
        rintro e w2 ⟨rfl, hb⟩
        replace P := P.keep hb
        replace hB := bt hB hb
        clear hb
        have hz2 := hB.size
        have l2P := P.lt
        replace P := P.alloc (.cells #[.int .i64 (Wi.Hq (Lq.num k M)), .int .u64 (Wi.Lr (Lq.num k M))] 34)
        replace hB := bal hB (.cells #[.int .i64 (Wi.Hq (Lq.num k M)), .int .u64 (Wi.Lr (Lq.num k M))] 34)
        have N := Blk.new w2 34 #[.int .i64 (Wi.Hq (Lq.num k M)), .int .u64 (Wi.Lr (Lq.num k M))]
        obtain ⟨c00, c01, c02, c03⟩ := P.open2
        obtain ⟨c10, c11, c12, c13⟩ := N.open2
        go_wp2_with fail
        refine (res_no _ _ _ _ _ _ _ (T.keep hB) H2.out).mono ?_
        rintro e w3 ⟨rfl, hb⟩
        clear c00 c01 c02 c03 c10 c11 c12 c13
        replace P := P.keep hb
        replace N := N.keep hb
        replace hB := bt hB hb
        clear hb
        have hz3 := hB.size
        have l3P := P.lt
        have l3N := N.lt
        replace P := P.alloc (.cells #[.int .i64 (0), .int .u64 (0)] 34)
        replace N := N.alloc (.cells #[.int .i64 (0), .int .u64 (0)] 34)
        replace hB := bal hB (.cells #[.int .i64 (0), .int .u64 (0)] 34)
        have Q := Blk.new w3 34 #[.int .i64 (0), .int .u64 (0)]
        obtain ⟨c00, c01, c02, c03⟩ := N.open2
        go_wp2_with fail
        go_returns
        exact ⟨rfl, hB⟩
      · have t1 : (Wi.Hq (Lq.num k M) == 0) = false := by simpa using q1
        have t2 : (Wi.Lr (Lq.num k M) == 0) = false := by simpa using q2
        clear q1 q2
        go_wp2_with fail
        refine (least_ok _ _ _ _ _ (T.keep hB) H.out).mono ?_
        rintro e w2 ⟨rfl, hb⟩
        replace P := P.keep hb
        replace hB := bt hB hb
        clear hb
        have hz2 := hB.size
        have l2P := P.lt
        replace P := P.alloc (.cells #[.int .i64 (Wi.Hq (Lq.num k M)), .int .u64 (Wi.Lr (Lq.num k M))] 34)
        replace hB := bal hB (.cells #[.int .i64 (Wi.Hq (Lq.num k M)), .int .u64 (Wi.Lr (Lq.num k M))] 34)
        have N := Blk.new w2 34 #[.int .i64 (Wi.Hq (Lq.num k M)), .int .u64 (Wi.Lr (Lq.num k M))]
        obtain ⟨c00, c01, c02, c03⟩ := P.open2
        obtain ⟨c10, c11, c12, c13⟩ := N.open2
        go_wp2_with fail
        refine (res_no _ _ _ _ _ _ _ (T.keep hB) H2.out).mono ?_
        rintro e w3 ⟨rfl, hb⟩
        clear c00 c01 c02 c03 c10 c11 c12 c13
        replace P := P.keep hb
        replace N := N.keep hb
        replace hB := bt hB hb
        clear hb
        have hz3 := hB.size
        have l3P := P.lt
        have l3N := N.lt
        replace P := P.alloc (.cells #[.int .i64 (0), .int .u64 (0)] 34)
        replace N := N.alloc (.cells #[.int .i64 (0), .int .u64 (0)] 34)
        replace hB := bal hB (.cells #[.int .i64 (0), .int .u64 (0)] 34)
        have Q := Blk.new w3 34 #[.int .i64 (0), .int .u64 (0)]
        obtain ⟨c00, c01, c02, c03⟩ := N.open2
        go_wp2_with fail
        go_returns
        exact ⟨rfl, hB⟩
  · have h1 : (Lq.er k M != 0) = true := by simpa using h
    have h4 : (Lq.er k M == 0) = false := by simpa using h
    have H := Lib.hid h
    clear h
    by_cases h2 : Re k M px py = 0
    · have H2 := Lib.hid h2
      clear h2
      go_wp2_with fail
      refine (least_no _ _ _ _ _ (T.keep hB) H.out).mono ?_
      rintro e w2 ⟨rfl, hb⟩
      replace P := P.keep hb
      replace hB := bt hB hb
      clear hb
      have hz2 := hB.size
      have l2P := P.lt
      replace P := P.alloc (.cells #[.int .i64 (0), .int .u64 (0)] 34)
      replace hB := bal hB (.cells #[.int .i64 (0), .int .u64 (0)] 34)
      have N := Blk.new w2 34 #[.int .i64 (0), .int .u64 (0)]
      obtain ⟨c00, c01, c02, c03⟩ := P.open2
      obtain ⟨c10, c11, c12, c13⟩ := N.open2
      go_wp2_with fail
      refine (res_ok _ _ _ _ _ _ _ (T.keep hB) H2.out).mono ?_
      rintro e w3 ⟨rfl, hb⟩
      clear c00 c01 c02 c03 c10 c11 c12 c13
      replace P := P.keep hb
      replace N := N.keep hb
      replace hB := bt hB hb
      clear hb
      have hz3 := hB.size
      have l3P := P.lt
      have l3N := N.lt
      replace P := P.alloc (.cells #[.int .i64 (Wi.Hq (Lq.qf k M px py 1)), .int .u64 (Wi.Lr (Lq.qf k M px py 1))] 34)
      replace N := N.alloc (.cells #[.int .i64 (Wi.Hq (Lq.qf k M px py 1)), .int .u64 (Wi.Lr (Lq.qf k M px py 1))] 34)
      replace hB := bal hB (.cells #[.int .i64 (Wi.Hq (Lq.qf k M px py 1)), .int .u64 (Wi.Lr (Lq.qf k M px py 1))] 34)
      have Q := Blk.new w3 34 #[.int .i64 (Wi.Hq (Lq.qf k M px py 1)), .int .u64 (Wi.Lr (Lq.qf k M px py 1))]
      obtain ⟨c00, c01, c02, c03⟩ := N.open2
      go_wp2_with fail
      go_returns
      exact ⟨rfl, hB⟩
    · have H2 := Lib.hid h2
      clear h2
      go_wp2_with fail
      refine (least_no _ _ _ _ _ (T.keep hB) H.out).mono ?_
      rintro e w2 ⟨rfl, hb⟩
      replace P := P.keep hb
      replace hB := bt hB hb
      clear hb
      have hz2 := hB.size
      have l2P := P.lt
      replace P := P.alloc (.cells #[.int .i64 (0), .int .u64 (0)] 34)
      replace hB := bal hB (.cells #[.int .i64 (0), .int .u64 (0)] 34)
      have N := Blk.new w2 34 #[.int .i64 (0), .int .u64 (0)]
      obtain ⟨c00, c01, c02, c03⟩ := P.open2
      obtain ⟨c10, c11, c12, c13⟩ := N.open2
      go_wp2_with fail
      refine (res_no _ _ _ _ _ _ _ (T.keep hB) H2.out).mono ?_
      rintro e w3 ⟨rfl, hb⟩
      clear c00 c01 c02 c03 c10 c11 c12 c13
      replace P := P.keep hb
      replace N := N.keep hb
      replace hB := bt hB hb
      clear hb
      have hz3 := hB.size
      have l3P := P.lt
      have l3N := N.lt
      replace P := P.alloc (.cells #[.int .i64 (0), .int .u64 (0)] 34)
      replace N := N.alloc (.cells #[.int .i64 (0), .int .u64 (0)] 34)
      replace hB := bal hB (.cells #[.int .i64 (0), .int .u64 (0)] 34)
      have Q := Blk.new w3 34 #[.int .i64 (0), .int .u64 (0)]
      obtain ⟨c00, c01, c02, c03⟩ := N.open2
      go_wp2_with fail
      go_returns
      exact ⟨rfl, hB⟩
end Go.Proofs.Ytcgcocingfhleaa
