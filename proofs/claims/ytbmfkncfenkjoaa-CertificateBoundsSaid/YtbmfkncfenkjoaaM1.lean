/-
  The walks of CertificateCosts and CertificateBounds.
-/
import Derived.Test.YtbmfkncfenkjoaaL8
import Derived.Test.YtbmfkncfenkjoaaW9
import Derived.Test.YtbmfkncfenkjoaaInv2
namespace Go.Proofs.Ytbmfkncfenkjoaa
set_option linter.unusedVariables false
set_option linter.unusedSimpArgs false
open Go.RowKit
attribute [local irreducible] World.setCell World.cell?

set_option maxRecDepth 100000 in
set_option maxHeartbeats 4000000 in
theorem law_costs (A : Option Addr) (n : Int) (m c : Nat) (E : Ce.Tab) (w : World) (T : Rd w 3 A m c (iv E)) (n1 : -9223372036854775808 ≤ n) (n2 : n ≤ 9223372036854775807) (a b : Int) (B : Option Addr) (l d : Nat) (R : Nat → Int) (U : Rd w 1 B l d (nv R)) : Calls Try.prog 3 #[.agg #[.int .i64 n, .slice A m c], .agg #[.int .i64 a, .int .i64 b], .slice B l d] w fun e w' => e = .returned (.bool true) ∧ Below w.heap.size w w' := by
  have e1 := Lib.hid (show (Ce.ck n m E != Ce.ck n m E) = false by simp)
  have r1 := T.le
  have r2 := T.mx
  go_enter Try.func3, Try.ntmps3
  have Gb := Blk.new w 24 #[.int .i64 (n), .slice A m c]
  have hB := ba w (.cells #[.int .i64 (n), .slice A m c] 24)
  have Xb := Blk.new1 w (.cells #[.int .i64 (n), .slice A m c] 24) 26 #[.int .i64 (a), .int .i64 (b)]
  replace Gb := Gb.alloc (.cells #[.int .i64 (a), .int .i64 (b)] 26)
  replace hB := bal hB (.cells #[.int .i64 (a), .int .i64 (b)] 26)
  go_wp2_with fail
  have KA := fun W_ : World => awake_c W_
  have KC := fun (W_ : World) (T_ : Rd W_ 3 A m c (iv E)) => check_c _ _ _ _ _ W_ T_ n1 n2
  have KR := fun (W_ : World) (T_ : Rd W_ 3 A m c (iv E)) => rcheck_c _ _ _ _ _ W_ T_ n1 n2
  refine wp_region_inv (fun L x G wx => Below w.heap.size w wx
        ∧ w.heap.size < wx.heap.size
        ∧ Blk wx (w.heap.size) 24 #[.int .i64 (n), .slice A m c]
        ∧ w.heap.size + 1 < wx.heap.size
        ∧ Blk wx (w.heap.size + 1) 26 #[.int .i64 (a), .int .i64 (b)]
        ∧ (L 0 → x 11 = .bool (true))
        ∧ (L 1 → x 12 = .bool (false))
        ∧ (L 2 → x 13 = .bool (false))
        ∧ (L 3 → x 14 = .agg #[.int .i64 (n), .slice A m c])
        ∧ (L 4 → x 15 = .int .i64 (Ce.ck n m E))
        ∧ (L 5 → x 16 = .agg #[.int .i64 (n), .slice A m c])
        ∧ (L 6 → x 17 = .int .i64 (Ce.ck n m E))
        ∧ (L 7 → x 18 = .bool (false))
        ∧ (L 8 → x 19 = .bool (false))) [11, 12, 13, 14, 15, 16, 17, 18, 19] 9 (by kernel_rfl) (by kernel_rfl) (by kernel_rfl) ?h0 ?st ?fin
  case h0 =>
    exact ⟨bdr hB, Blk.lt Gb.drew, Gb.drew, Blk.lt Xb.drew, Xb.drew, fun q => q.elim, fun q => q.elim, fun q => q.elim, fun q => q.elim, fun q => q.elim, fun q => q.elim, fun q => q.elim, fun q => q.elim, fun q => q.elim⟩
  case st =>
    refine StepsOk.cons (i := 0) rfl (fun L x G w1 K Q hn hp hJ hK => ?_) ?_
    · skip
      simp only [putAll, Act.put, List.setIfInBounds_toArray, List.set_cons_zero, List.set_cons_succ]
      go_simp
      refine (KA _).mono ?_
      rintro e w2 ⟨rfl, hb⟩
      have hz := hb.size
      try go_simp
      refine hK _ G _ (by kernel_rfl) ?_
      exact ⟨bt (hJ.1) hb,
        Nat.lt_of_lt_of_le (hJ.2.1) hb.size,
        Blk.keep ((hJ.2.2.1)) hb,
        Nat.lt_of_lt_of_le (hJ.2.2.2.1) hb.size,
        Blk.keep ((hJ.2.2.2.2.1)) hb,
        fun _ => rfl,
        fun q => (hJ.2.2.2.2.2.2.1) (q.resolve_left (by decide)),
        fun q => (hJ.2.2.2.2.2.2.2.1) (q.resolve_left (by decide)),
        fun q => (hJ.2.2.2.2.2.2.2.2.1) (q.resolve_left (by decide)),
        fun q => (hJ.2.2.2.2.2.2.2.2.2.1) (q.resolve_left (by decide)),
        fun q => (hJ.2.2.2.2.2.2.2.2.2.2.1) (q.resolve_left (by decide)),
        fun q => (hJ.2.2.2.2.2.2.2.2.2.2.2.1) (q.resolve_left (by decide)),
        fun q => (hJ.2.2.2.2.2.2.2.2.2.2.2.2.1) (q.resolve_left (by decide)),
        fun q => (hJ.2.2.2.2.2.2.2.2.2.2.2.2.2) (q.resolve_left (by decide))⟩
    refine StepsOk.cons (i := 1) rfl (fun L x G w1 K Q hn hp hJ hK => ?_) ?_
    · skip
      have p0 : L 0 := hp ⟨0, .data⟩ (by simp) rfl
      have e0 := (hJ.2.2.2.2.2.1) p0
      simp only [putAll, Act.put, List.setIfInBounds_toArray, List.set_cons_zero, List.set_cons_succ]
      go_simp
      refine hK _ G _ (by kernel_rfl) ?_
      exact ⟨(hJ.1),
        (hJ.2.1),
        (hJ.2.2.1),
        (hJ.2.2.2.1),
        (hJ.2.2.2.2.1),
        fun _ => by first | exact rfl | exact e0,
        fun _ => rfl,
        fun q => (hJ.2.2.2.2.2.2.2.1) (q.resolve_left (by decide)),
        fun q => (hJ.2.2.2.2.2.2.2.2.1) (q.resolve_left (by decide)),
        fun q => (hJ.2.2.2.2.2.2.2.2.2.1) (q.resolve_left (by decide)),
        fun q => (hJ.2.2.2.2.2.2.2.2.2.2.1) (q.resolve_left (by decide)),
        fun q => (hJ.2.2.2.2.2.2.2.2.2.2.2.1) (q.resolve_left (by decide)),
        fun q => (hJ.2.2.2.2.2.2.2.2.2.2.2.2.1) (q.resolve_left (by decide)),
        fun q => (hJ.2.2.2.2.2.2.2.2.2.2.2.2.2) (q.resolve_left (by decide))⟩
    refine StepsOk.cons (i := 2) rfl (fun L x G w1 K Q hn hp hJ hK => ?_) ?_
    · skip
      have p1 : L 1 := hp ⟨1, .data⟩ (by simp) rfl
      have e1 := (hJ.2.2.2.2.2.2.1) p1
      simp only [putAll, Act.put, List.setIfInBounds_toArray, List.set_cons_zero, List.set_cons_succ]
      go_simp
      refine hK _ G _ (by kernel_rfl) ?_
      exact ⟨(hJ.1),
        (hJ.2.1),
        (hJ.2.2.1),
        (hJ.2.2.2.1),
        (hJ.2.2.2.2.1),
        fun q => (hJ.2.2.2.2.2.1) (q.resolve_left (by decide)),
        fun _ => by first | exact rfl | exact e1,
        fun _ => rfl,
        fun q => (hJ.2.2.2.2.2.2.2.2.1) (q.resolve_left (by decide)),
        fun q => (hJ.2.2.2.2.2.2.2.2.2.1) (q.resolve_left (by decide)),
        fun q => (hJ.2.2.2.2.2.2.2.2.2.2.1) (q.resolve_left (by decide)),
        fun q => (hJ.2.2.2.2.2.2.2.2.2.2.2.1) (q.resolve_left (by decide)),
        fun q => (hJ.2.2.2.2.2.2.2.2.2.2.2.2.1) (q.resolve_left (by decide)),
        fun q => (hJ.2.2.2.2.2.2.2.2.2.2.2.2.2) (q.resolve_left (by decide))⟩
    refine StepsOk.consT (i := 3) 2 13 false rfl rfl (by kernel_rfl) (fun L x G w1 hp hJ => hJ.2.2.2.2.2.2.2.1 (hp ⟨2, .guard⟩ (by simp) rfl)) (fun L x G w1 K Q hn hp hJ hK => ?_) ?_
    · skip
      have hc := Blk.open2 ((hJ.2.2.1))
      have c0 := hc.1
      have c1 := hc.2.1
      have c2 := hc.2.2.1
      have c3 := hc.2.2.2
      clear hc
      simp only [putAll, Act.put, List.setIfInBounds_toArray, List.set_cons_zero, List.set_cons_succ]
      go_simp
      refine hK _ G _ (by kernel_rfl) ?_
      exact ⟨(hJ.1),
        (hJ.2.1),
        (hJ.2.2.1),
        (hJ.2.2.2.1),
        (hJ.2.2.2.2.1),
        fun q => (hJ.2.2.2.2.2.1) (q.resolve_left (by decide)),
        fun q => (hJ.2.2.2.2.2.2.1) (q.resolve_left (by decide)),
        fun q => (hJ.2.2.2.2.2.2.2.1) (q.resolve_left (by decide)),
        fun _ => rfl,
        fun q => (hJ.2.2.2.2.2.2.2.2.2.1) (q.resolve_left (by decide)),
        fun q => (hJ.2.2.2.2.2.2.2.2.2.2.1) (q.resolve_left (by decide)),
        fun q => (hJ.2.2.2.2.2.2.2.2.2.2.2.1) (q.resolve_left (by decide)),
        fun q => (hJ.2.2.2.2.2.2.2.2.2.2.2.2.1) (q.resolve_left (by decide)),
        fun q => (hJ.2.2.2.2.2.2.2.2.2.2.2.2.2) (q.resolve_left (by decide))⟩
    refine StepsOk.consT (i := 4) 2 13 false rfl rfl (by kernel_rfl) (fun L x G w1 hp hJ => hJ.2.2.2.2.2.2.2.1 (hp ⟨2, .guard⟩ (by simp) rfl)) (fun L x G w1 K Q hn hp hJ hK => ?_) ?_
    · skip
      have p3 : L 3 := hp ⟨3, .data⟩ (by simp) rfl
      have e3 := (hJ.2.2.2.2.2.2.2.2.1) p3
      simp only [putAll, Act.put, List.setIfInBounds_toArray, List.set_cons_zero, List.set_cons_succ]
      go_simp
      refine (KC _ (T.keep ((hJ.1)))).mono ?_
      rintro e w2 ⟨rfl, hb⟩
      have hz := hb.size
      try go_simp
      refine hK _ G _ (by kernel_rfl) ?_
      exact ⟨bt (hJ.1) hb,
        Nat.lt_of_lt_of_le (hJ.2.1) hb.size,
        Blk.keep ((hJ.2.2.1)) hb,
        Nat.lt_of_lt_of_le (hJ.2.2.2.1) hb.size,
        Blk.keep ((hJ.2.2.2.2.1)) hb,
        fun q => (hJ.2.2.2.2.2.1) (q.resolve_left (by decide)),
        fun q => (hJ.2.2.2.2.2.2.1) (q.resolve_left (by decide)),
        fun q => (hJ.2.2.2.2.2.2.2.1) (q.resolve_left (by decide)),
        fun _ => by first | exact rfl | exact e3,
        fun _ => rfl,
        fun q => (hJ.2.2.2.2.2.2.2.2.2.2.1) (q.resolve_left (by decide)),
        fun q => (hJ.2.2.2.2.2.2.2.2.2.2.2.1) (q.resolve_left (by decide)),
        fun q => (hJ.2.2.2.2.2.2.2.2.2.2.2.2.1) (q.resolve_left (by decide)),
        fun q => (hJ.2.2.2.2.2.2.2.2.2.2.2.2.2) (q.resolve_left (by decide))⟩
    refine StepsOk.consT (i := 5) 2 13 false rfl rfl (by kernel_rfl) (fun L x G w1 hp hJ => hJ.2.2.2.2.2.2.2.1 (hp ⟨2, .guard⟩ (by simp) rfl)) (fun L x G w1 K Q hn hp hJ hK => ?_) ?_
    · skip
      have hc := Blk.open2 ((hJ.2.2.1))
      have c0 := hc.1
      have c1 := hc.2.1
      have c2 := hc.2.2.1
      have c3 := hc.2.2.2
      clear hc
      simp only [putAll, Act.put, List.setIfInBounds_toArray, List.set_cons_zero, List.set_cons_succ]
      go_simp
      refine hK _ G _ (by kernel_rfl) ?_
      exact ⟨(hJ.1),
        (hJ.2.1),
        (hJ.2.2.1),
        (hJ.2.2.2.1),
        (hJ.2.2.2.2.1),
        fun q => (hJ.2.2.2.2.2.1) (q.resolve_left (by decide)),
        fun q => (hJ.2.2.2.2.2.2.1) (q.resolve_left (by decide)),
        fun q => (hJ.2.2.2.2.2.2.2.1) (q.resolve_left (by decide)),
        fun q => (hJ.2.2.2.2.2.2.2.2.1) (q.resolve_left (by decide)),
        fun q => (hJ.2.2.2.2.2.2.2.2.2.1) (q.resolve_left (by decide)),
        fun _ => rfl,
        fun q => (hJ.2.2.2.2.2.2.2.2.2.2.2.1) (q.resolve_left (by decide)),
        fun q => (hJ.2.2.2.2.2.2.2.2.2.2.2.2.1) (q.resolve_left (by decide)),
        fun q => (hJ.2.2.2.2.2.2.2.2.2.2.2.2.2) (q.resolve_left (by decide))⟩
    refine StepsOk.consT (i := 6) 2 13 false rfl rfl (by kernel_rfl) (fun L x G w1 hp hJ => hJ.2.2.2.2.2.2.2.1 (hp ⟨2, .guard⟩ (by simp) rfl)) (fun L x G w1 K Q hn hp hJ hK => ?_) ?_
    · skip
      have p5 : L 5 := hp ⟨5, .data⟩ (by simp) rfl
      have e5 := (hJ.2.2.2.2.2.2.2.2.2.2.1) p5
      simp only [putAll, Act.put, List.setIfInBounds_toArray, List.set_cons_zero, List.set_cons_succ]
      go_simp
      refine (KR _ (T.keep ((hJ.1)))).mono ?_
      rintro e w2 ⟨rfl, hb⟩
      have hz := hb.size
      try go_simp
      refine hK _ G _ (by kernel_rfl) ?_
      exact ⟨bt (hJ.1) hb,
        Nat.lt_of_lt_of_le (hJ.2.1) hb.size,
        Blk.keep ((hJ.2.2.1)) hb,
        Nat.lt_of_lt_of_le (hJ.2.2.2.1) hb.size,
        Blk.keep ((hJ.2.2.2.2.1)) hb,
        fun q => (hJ.2.2.2.2.2.1) (q.resolve_left (by decide)),
        fun q => (hJ.2.2.2.2.2.2.1) (q.resolve_left (by decide)),
        fun q => (hJ.2.2.2.2.2.2.2.1) (q.resolve_left (by decide)),
        fun q => (hJ.2.2.2.2.2.2.2.2.1) (q.resolve_left (by decide)),
        fun q => (hJ.2.2.2.2.2.2.2.2.2.1) (q.resolve_left (by decide)),
        fun _ => by first | exact rfl | exact e5,
        fun _ => rfl,
        fun q => (hJ.2.2.2.2.2.2.2.2.2.2.2.2.1) (q.resolve_left (by decide)),
        fun q => (hJ.2.2.2.2.2.2.2.2.2.2.2.2.2) (q.resolve_left (by decide))⟩
    refine StepsOk.consT (i := 7) 2 13 false rfl rfl (by kernel_rfl) (fun L x G w1 hp hJ => hJ.2.2.2.2.2.2.2.1 (hp ⟨2, .guard⟩ (by simp) rfl)) (fun L x G w1 K Q hn hp hJ hK => ?_) ?_
    · skip
      have p4 : L 4 := hp ⟨4, .data⟩ (by simp) rfl
      have e4 := (hJ.2.2.2.2.2.2.2.2.2.1) p4
      have p6 : L 6 := hp ⟨6, .data⟩ (by simp) rfl
      have e6 := (hJ.2.2.2.2.2.2.2.2.2.2.2.1) p6
      simp only [putAll, Act.put, List.setIfInBounds_toArray, List.set_cons_zero, List.set_cons_succ]
      go_simp
      refine hK _ G _ (by kernel_rfl) ?_
      exact ⟨(hJ.1),
        (hJ.2.1),
        (hJ.2.2.1),
        (hJ.2.2.2.1),
        (hJ.2.2.2.2.1),
        fun q => (hJ.2.2.2.2.2.1) (q.resolve_left (by decide)),
        fun q => (hJ.2.2.2.2.2.2.1) (q.resolve_left (by decide)),
        fun q => (hJ.2.2.2.2.2.2.2.1) (q.resolve_left (by decide)),
        fun q => (hJ.2.2.2.2.2.2.2.2.1) (q.resolve_left (by decide)),
        fun _ => by first | exact rfl | exact e4,
        fun q => (hJ.2.2.2.2.2.2.2.2.2.2.1) (q.resolve_left (by decide)),
        fun _ => by first | exact rfl | exact e6,
        fun _ => rfl,
        fun q => (hJ.2.2.2.2.2.2.2.2.2.2.2.2.2) (q.resolve_left (by decide))⟩
    refine StepsOk.cons (i := 8) rfl (fun L x G w1 K Q hn hp hJ hK => ?_) ?_
    · skip
      have p2 : L 2 := hp ⟨2, .data⟩ (by simp) rfl
      have e2 := (hJ.2.2.2.2.2.2.2.1) p2
      have p7 : L 7 := hp ⟨7, .data⟩ (by simp) rfl
      have e7 := (hJ.2.2.2.2.2.2.2.2.2.2.2.2.1) p7
      simp only [putAll, Act.put, List.setIfInBounds_toArray, List.set_cons_zero, List.set_cons_succ]
      go_simp
      refine hK _ G _ (by kernel_rfl) ?_
      exact ⟨(hJ.1),
        (hJ.2.1),
        (hJ.2.2.1),
        (hJ.2.2.2.1),
        (hJ.2.2.2.2.1),
        fun q => (hJ.2.2.2.2.2.1) (q.resolve_left (by decide)),
        fun q => (hJ.2.2.2.2.2.2.1) (q.resolve_left (by decide)),
        fun _ => by first | exact rfl | exact e2,
        fun q => (hJ.2.2.2.2.2.2.2.2.1) (q.resolve_left (by decide)),
        fun q => (hJ.2.2.2.2.2.2.2.2.2.1) (q.resolve_left (by decide)),
        fun q => (hJ.2.2.2.2.2.2.2.2.2.2.1) (q.resolve_left (by decide)),
        fun q => (hJ.2.2.2.2.2.2.2.2.2.2.2.1) (q.resolve_left (by decide)),
        fun _ => by first | exact rfl | exact e7,
        fun _ => rfl⟩
    exact StepsOk.nil
  case fin =>
    intro L x G w1 hall hJ
    replace Gb := (hJ.2.2.1)
    replace Xb := (hJ.2.2.2.2.1)
    have u0 := hJ.2.2.2.2.2.1 (hall 0 (by decide))
    have u1 := hJ.2.2.2.2.2.2.1 (hall 1 (by decide))
    have u2 := hJ.2.2.2.2.2.2.2.1 (hall 2 (by decide))
    have u3 := hJ.2.2.2.2.2.2.2.2.1 (hall 3 (by decide))
    have u4 := hJ.2.2.2.2.2.2.2.2.2.1 (hall 4 (by decide))
    have u5 := hJ.2.2.2.2.2.2.2.2.2.2.1 (hall 5 (by decide))
    have u6 := hJ.2.2.2.2.2.2.2.2.2.2.2.1 (hall 6 (by decide))
    have u7 := hJ.2.2.2.2.2.2.2.2.2.2.2.2.1 (hall 7 (by decide))
    have u8 := hJ.2.2.2.2.2.2.2.2.2.2.2.2.2 (hall 8 (by decide))
    replace hB := hJ.1
    simp only [putAll, Act.put, List.setIfInBounds_toArray, List.set_cons_zero, List.set_cons_succ]
    simp only [u0, u1, u2, u3, u4, u5, u6, u7, u8]
    clear hall hJ u0 u1 u2 u3 u4 u5 u6 u7 u8
    clear KA KC KR
    obtain ⟨c00, c01, c02, c03⟩ := Gb.open2
    obtain ⟨c10, c11, c12, c13⟩ := Xb.open2
    go_wp2_with fail
    refine (cost_c _ _ _ _ _ _ (T.keep hB) n1 n2 _ _ _ _ _ _ (U.keep hB)).mono ?_
    rintro e w2 ⟨rfl, hb⟩
    clear c00 c01 c02 c03 c10 c11 c12 c13
    replace Gb := Gb.keep hb
    replace Xb := Xb.keep hb
    replace hB := bt hB hb
    clear hb
    obtain ⟨c00, c01, c02, c03⟩ := Gb.open2
    obtain ⟨c10, c11, c12, c13⟩ := Xb.open2
    go_wp2_with fail
    refine (rcost_c _ _ _ _ _ _ (T.keep hB) n1 n2 _ _ _ _ _ _ (U.keep hB)).mono ?_
    rintro e w3 ⟨rfl, hb⟩
    clear c00 c01 c02 c03 c10 c11 c12 c13
    replace Gb := Gb.keep hb
    replace Xb := Xb.keep hb
    replace hB := bt hB hb
    clear hb
    go_wp2_with fail
    go_returns
    exact ⟨rfl, hB⟩
set_option maxRecDepth 100000 in
set_option maxHeartbeats 4000000 in
theorem law_bounds (A : Option Addr) (n : Int) (m c : Nat) (E : Ce.Tab) (w : World) (T : Rd w 3 A m c (iv E)) (n1 : -9223372036854775808 ≤ n) (n2 : n ≤ 9223372036854775807) (a b : Int) (B : Option Addr) (l d : Nat) (P : Nat → Int) (U : Rd w 1 B l d (nv P)) : Calls Try.prog 4 #[.agg #[.int .i64 n, .slice A m c], .agg #[.int .i64 a, .int .i64 b], .slice B l d] w fun e w' => e = .returned (.bool true) ∧ Below w.heap.size w w' := by
  have r1 := T.le
  have r2 := T.mx
  go_enter Try.func4, Try.ntmps4
  try simp only [List.append_eq, List.cons_append, List.nil_append]
  have Gb := Blk.new w 24 #[.int .i64 (n), .slice A m c]
  have hB := ba w (.cells #[.int .i64 (n), .slice A m c] 24)
  have Xb := Blk.new1 w (.cells #[.int .i64 (n), .slice A m c] 24) 26 #[.int .i64 (a), .int .i64 (b)]
  replace Gb := Gb.alloc (.cells #[.int .i64 (a), .int .i64 (b)] 26)
  replace hB := bal hB (.cells #[.int .i64 (a), .int .i64 (b)] 26)
  go_wp2_with fail
  refine (awake_c _).mono ?_
  rintro e w1 ⟨rfl, hb⟩
  replace Gb := Gb.keep hb
  replace Xb := Xb.keep hb
  replace hB := bt hB hb
  clear hb
  obtain ⟨c00, c01, c02, c03⟩ := Gb.open2
  go_wp2_with fail
  refine (violated_c _ _ _ _ _ _ (T.keep hB) n1 n2 _ _ _ _ (U.keep hB)).mono ?_
  rintro e w2 ⟨rfl, hb⟩
  clear c00 c01 c02 c03
  replace Gb := Gb.keep hb
  replace Xb := Xb.keep hb
  replace hB := bt hB hb
  clear hb
  obtain ⟨c00, c01, c02, c03⟩ := Gb.open2
  go_wp2_with fail
  refine (rviolated_c _ _ _ _ _ _ (T.keep hB) n1 n2 _ _ _ _ (U.keep hB)).mono ?_
  rintro e w3 ⟨rfl, hb⟩
  clear c00 c01 c02 c03
  replace Gb := Gb.keep hb
  replace Xb := Xb.keep hb
  replace hB := bt hB hb
  clear hb
  obtain ⟨c00, c01, c02, c03⟩ := Gb.open2
  obtain ⟨c10, c11, c12, c13⟩ := Xb.open2
  go_wp2_with fail
  refine (bound_c _ _ _ _ _ _ (T.keep hB) n1 n2 _ _ _ _ _ _ (U.keep hB)).mono ?_
  rintro e w4 ⟨rfl, hb⟩
  clear c00 c01 c02 c03 c10 c11 c12 c13
  replace Gb := Gb.keep hb
  replace Xb := Xb.keep hb
  replace hB := bt hB hb
  clear hb
  obtain ⟨c00, c01, c02, c03⟩ := Gb.open2
  obtain ⟨c10, c11, c12, c13⟩ := Xb.open2
  go_wp2_with fail
  refine (rbound_c _ _ _ _ _ _ (T.keep hB) n1 n2 _ _ _ _ _ _ (U.keep hB)).mono ?_
  rintro e w5 ⟨rfl, hb⟩
  clear c00 c01 c02 c03 c10 c11 c12 c13
  replace Gb := Gb.keep hb
  replace Xb := Xb.keep hb
  replace hB := bt hB hb
  clear hb
  go_wp2_with fail
  go_returns
  exact ⟨rfl, hB⟩
end Go.Proofs.Ytbmfkncfenkjoaa
