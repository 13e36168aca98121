/-
  The walk of LsqEquations.
-/
import Derived.Test.YtcgcocingfhleaaQ15
import Derived.Test.YtcgcocingfhleaaQ13
namespace Go.Proofs.Ytcgcocingfhleaa
set_option linter.unusedVariables false
set_option linter.unusedSimpArgs false
open Go.RowKit
attribute [local irreducible] World.setCell World.cell?

set_option maxRecDepth 100000 in
set_option maxHeartbeats 4000000 in
theorem equation_c (h l x h2 l2 y a b c d : Int) (w : World) (HX : Wi.Wd h l x) (HY : Wi.Wd h2 l2 y) (a1 : -281474976710656 ≤ a) (a2 : a ≤ 281474976710656) (b1 : -281474976710656 ≤ b) (b2 : b ≤ 281474976710656) (c1 : -562949953421312 ≤ c) (c2 : c ≤ 562949953421312) (d1 : -562949953421312 ≤ d) (d2 : d ≤ 562949953421312)
    (hE : x * a + y * b = c * d) (e1 : Wi.rv (x * a) = x * a) (k1 : Wi.okb (x * a) = true) (e2 : Wi.rv (y * b) = y * b) (k2 : Wi.okb (y * b) = true) (e3 : Wi.rv (x * a + y * b) = x * a + y * b) (k3 : Wi.okb (x * a + y * b) = true) (O1 : Wi.Wd (Wi.Hq (x * a)) (Wi.Lr (x * a)) (x * a)) (O2 : Wi.Wd (Wi.Hq (y * b)) (Wi.Lr (y * b)) (y * b)) :
    Calls Try.prog 21 #[.agg #[.int .i64 h, .int .u64 l], .agg #[.int .i64 h2, .int .u64 l2], .int .i64 a, .int .i64 b, .int .i64 c, .int .i64 d] w fun e w' => e = .returned (.bool true) ∧ Below w.heap.size w w' := by
  have KM := fun W_ : World => mul_c c d W_ (by omega) (by omega) (by omega) (by omega)
  rw [← hE] at KM
  have E1 := Lib.hid e1
  have E2 := Lib.hid e2
  have E3 := Lib.hid e3
  have K1 := Lib.hid k1
  have K2 := Lib.hid k2
  have K3 := Lib.hid k3
  clear hE e1 e2 e3 k1 k2 k3
  go_enter Try.func21, Try.ntmps21
  try simp only [List.append_eq, List.cons_append, List.nil_append]
  have X := Blk.new w 34 #[.int .i64 (h), .int .u64 (l)]
  have hB := ba w (.cells #[.int .i64 (h), .int .u64 (l)] 34)
  have Y := Blk.new1 w (.cells #[.int .i64 (h), .int .u64 (l)] 34) 34 #[.int .i64 (h2), .int .u64 (l2)]
  replace X := X.alloc (.cells #[.int .i64 (h2), .int .u64 (l2)] 34)
  replace hB := bal hB (.cells #[.int .i64 (h2), .int .u64 (l2)] 34)
  obtain ⟨c00, c01, c02, c03⟩ := X.open2
  go_wp2_with fail
  refine (times_c _ _ _ _ _ HX (by omega) (by omega)).mono ?_
  rw [E1.out, K1.out]
  rintro e w1 ⟨rfl, hb⟩
  clear c00 c01 c02 c03
  replace X := X.keep hb
  replace Y := Y.keep hb
  replace hB := bt hB hb
  clear hb
  have hz1 := hB.size
  have l1X := X.lt
  have l1Y := Y.lt
  replace X := X.alloc (.cells #[.int .i64 (Wi.Hq (x * a)), .int .u64 (Wi.Lr (x * a))] 34)
  replace Y := Y.alloc (.cells #[.int .i64 (Wi.Hq (x * a)), .int .u64 (Wi.Lr (x * a))] 34)
  replace hB := bal hB (.cells #[.int .i64 (Wi.Hq (x * a)), .int .u64 (Wi.Lr (x * a))] 34)
  have P1 := Blk.new w1 34 #[.int .i64 (Wi.Hq (x * a)), .int .u64 (Wi.Lr (x * a))]
  obtain ⟨c00, c01, c02, c03⟩ := Y.open2
  go_wp2_with fail
  refine (times_c _ _ _ _ _ HY (by omega) (by omega)).mono ?_
  rw [E2.out, K2.out]
  rintro e w2 ⟨rfl, hb⟩
  clear c00 c01 c02 c03
  replace X := X.keep hb
  replace Y := Y.keep hb
  replace P1 := P1.keep hb
  replace hB := bt hB hb
  clear hb
  have hz2 := hB.size
  have l2X := X.lt
  have l2Y := Y.lt
  have l2P1 := P1.lt
  replace X := X.alloc (.cells #[.int .i64 (Wi.Hq (y * b)), .int .u64 (Wi.Lr (y * b))] 34)
  replace Y := Y.alloc (.cells #[.int .i64 (Wi.Hq (y * b)), .int .u64 (Wi.Lr (y * b))] 34)
  replace P1 := P1.alloc (.cells #[.int .i64 (Wi.Hq (y * b)), .int .u64 (Wi.Lr (y * b))] 34)
  replace hB := bal hB (.cells #[.int .i64 (Wi.Hq (y * b)), .int .u64 (Wi.Lr (y * b))] 34)
  have P2 := Blk.new w2 34 #[.int .i64 (Wi.Hq (y * b)), .int .u64 (Wi.Lr (y * b))]
  obtain ⟨c00, c01, c02, c03⟩ := P1.open2
  obtain ⟨c10, c11, c12, c13⟩ := P2.open2
  go_wp2_with fail
  refine (add_c _ _ _ _ _ _ _ O1 O2).mono ?_
  rw [E3.out, K3.out]
  rintro e w3 ⟨rfl, hb⟩
  clear c00 c01 c02 c03 c10 c11 c12 c13
  replace X := X.keep hb
  replace Y := Y.keep hb
  replace P1 := P1.keep hb
  replace P2 := P2.keep hb
  replace hB := bt hB hb
  clear hb
  have hz3 := hB.size
  have l3X := X.lt
  have l3Y := Y.lt
  have l3P1 := P1.lt
  have l3P2 := P2.lt
  replace X := X.alloc (.cells #[.int .i64 (Wi.Hq (x * a + y * b)), .int .u64 (Wi.Lr (x * a + y * b))] 34)
  replace Y := Y.alloc (.cells #[.int .i64 (Wi.Hq (x * a + y * b)), .int .u64 (Wi.Lr (x * a + y * b))] 34)
  replace P1 := P1.alloc (.cells #[.int .i64 (Wi.Hq (x * a + y * b)), .int .u64 (Wi.Lr (x * a + y * b))] 34)
  replace P2 := P2.alloc (.cells #[.int .i64 (Wi.Hq (x * a + y * b)), .int .u64 (Wi.Lr (x * a + y * b))] 34)
  replace hB := bal hB (.cells #[.int .i64 (Wi.Hq (x * a + y * b)), .int .u64 (Wi.Lr (x * a + y * b))] 34)
  have P3 := Blk.new w3 34 #[.int .i64 (Wi.Hq (x * a + y * b)), .int .u64 (Wi.Lr (x * a + y * b))]
  go_wp2_with fail
  generalize World.alloc w3 _ = W0 at P3 hB ⊢
  have hreg : ∀ w', Below W0.heap.size W0 w' → Below W0.heap.size W0 w' ∧ w'.cell? ⟨w3.heap.size, 0, none⟩ = some (.int .i64 (Wi.Hq (x * a + y * b))) ∧ w'.cell? ⟨w3.heap.size, 1, none⟩ = some (.int .u64 (Wi.Lr (x * a + y * b))) := fun w' h => ⟨h, (P3.keep h).cell 0, (P3.keep h).cell 1⟩
  go_region_held3 (fun w' => Below W0.heap.size W0 w' ∧ w'.cell? ⟨w3.heap.size, 0, none⟩ = some (.int .i64 (Wi.Hq (x * a + y * b))) ∧ w'.cell? ⟨w3.heap.size, 1, none⟩ = some (.int .u64 (Wi.Lr (x * a + y * b)))) (first | exact hreg _ (Below.refl _ _).drew | exact keepR hreg hbn (by assumption)) (first | (go_at_call 33; (first | with_reducible refine (KM _).mono ?_); rintro e wn ⟨rfl, hbn⟩))
  rename_i hS
  replace P3 := P3.keep hS.1
  replace hB := bt hB hS.1
  clear hS hreg
  go_wp2_with fail
  go_returns
  exact ⟨rfl, hB⟩
theorem eq_facts {n : Nat} {M : Lq.Tab} (O : Lq.Ok n M) (x y a b : Int) (hx : -9444732965739290427392 ≤ x ∧ x ≤ 9444732965739290427392) (hy : -9444732965739290427392 ≤ y ∧ y ≤ 9444732965739290427392) (ha : -16777216 ≤ a ∧ a ≤ 16777216) (hb : -16777216 ≤ b ∧ b ≤ 16777216) :
    Wi.rv (x * a) = x * a ∧ Wi.okb (x * a) = true ∧ Wi.rv (y * b) = y * b ∧ Wi.okb (y * b) = true ∧ Wi.rv (x * a + y * b) = x * a + y * b ∧ Wi.okb (x * a + y * b) = true ∧ Wi.Wd (Wi.Hq (x * a)) (Wi.Lr (x * a)) (x * a) ∧ Wi.Wd (Wi.Hq (y * b)) (Wi.Lr (y * b)) (y * b) := by
  have p := Lq.mul_bd hx ha
  have q := Lq.mul_bd hy hb
  have i1 : Wi.inW (x * a) := by unfold Wi.inW; omega
  have i2 : Wi.inW (y * b) := by unfold Wi.inW; omega
  have i3 : Wi.inW (x * a + y * b) := by unfold Wi.inW; omega
  exact ⟨Wi.rv_yes i1, Wi.okb_yes i1, Wi.rv_yes i2, Wi.okb_yes i2, Wi.rv_yes i3, Wi.okb_yes i3, Wi.wd_self i1, Wi.wd_self i2⟩
set_option maxRecDepth 100000 in
set_option maxHeartbeats 4000000 in
theorem law_equations (A : Option Addr) (n c : Nat) (M : Lq.Tab) (w : World) (T : Rd w 6 A n c (iv M)) :
    Calls Try.prog 5 #[.slice A n c] w fun e w' => e = .returned (.bool true) ∧ Below w.heap.size w w' := by
  have KC := fun W_ (T_ : Rd W_ 6 A n c (iv M)) => cut_c A n c M W_ T_
  have T0 := T
  have hk : (if n ≤ 20 then n else 20) ≤ n := by split <;> omega
  generalize hk2 : (if n ≤ 20 then n else 20) = k at hk
  replace hk2 := Lib.hid hk2
  simp only [hk2.out] at KC
  have T := T0.short hk
  go_enter Try.func5, Try.ntmps5
  try simp only [List.append_eq, List.cons_append, List.nil_append]
  have hB := Below.refl w.heap.size w
  go_wp2_with fail
  refine (awake_c _).mono ?_
  rintro e w1 ⟨rfl, hb⟩
  replace hB := bt hB hb
  clear hb
  go_wp2_with fail
  refine (KC _ (T0.keep hB)).mono ?_
  rintro e wq ⟨rfl, rfl⟩
  clear KC
  by_cases h : Lq.er k M = 0
  · have S := Lq.er_ok.1 h
    have O := S.ok
    have hd0 := S.d
    clear S
    have H := Lib.hid h
    clear h
    obtain ⟨bxx, bxy, byy, bxz, byz⟩ := O.bd
    have cxx := bxx k (Nat.le_refl _)
    have cxy := bxy k (Nat.le_refl _)
    have cyy := byy k (Nat.le_refl _)
    have cxz := bxz k (Nat.le_refl _)
    have cyz := byz k (Nat.le_refl _)
    clear bxx bxy byy bxz byz
    obtain ⟨csx, csy, dt1, dt2⟩ := O.sxb
    have OX : Wi.Wd (Wi.Hq (Lq.sx k M)) (Wi.Lr (Lq.sx k M)) (Lq.sx k M) := Wi.wd_self (by unfold Wi.inW; omega)
    have OY : Wi.Wd (Wi.Hq (Lq.sy k M)) (Wi.Lr (Lq.sy k M)) (Lq.sy k M) := Wi.wd_self (by unfold Wi.inW; omega)
    have F1 := Lib.hid (eq_facts O _ _ _ _ csx csy cxx cxy)
    have F2 := Lib.hid (eq_facts O _ _ _ _ csx csy cxy cyy)
    go_wp2_with fail
    refine (solve_ok _ _ _ _ _ (T.keep hB) H.out).mono ?_
    rintro e w2 ⟨rfl, hb⟩
    replace hB := bt hB hb
    clear hb
    have hz2 := hB.size
    replace hB := bal hB (.cells #[.int .i64 (Wi.Hq (Lq.sx k M)), .int .u64 (Wi.Lr (Lq.sx k M)), .int .i64 (Wi.Hq (Lq.sy k M)), .int .u64 (Wi.Lr (Lq.sy k M)), .int .i64 (Lq.det k M), .int .i64 (Lq.nr (Lq.sx k M) (Lq.det k M)), .int .i64 (Lq.nr (Lq.sy k M) (Lq.det k M))] 38)
    have S := Blk.new w2 38 #[.int .i64 (Wi.Hq (Lq.sx k M)), .int .u64 (Wi.Lr (Lq.sx k M)), .int .i64 (Wi.Hq (Lq.sy k M)), .int .u64 (Wi.Lr (Lq.sy k M)), .int .i64 (Lq.det k M), .int .i64 (Lq.nr (Lq.sx k M) (Lq.det k M)), .int .i64 (Lq.nr (Lq.sy k M) (Lq.det k M))]
    obtain ⟨c00, c01, c02, c03, c04, c05, c06, c07, c08⟩ := S.open7
    go_wp2_with fail
    refine (normal_ok _ _ _ _ _ (T.keep hB) O).mono ?_
    rintro e w3 ⟨rfl, hb⟩
    clear c00 c01 c02 c03 c04 c05 c06 c07 c08
    replace S := S.keep hb
    replace hB := bt hB hb
    clear hb
    have hz3 := hB.size
    have l3S := S.lt
    replace S := S.alloc (.cells #[.int .i64 (Lq.xx k M), .int .i64 (Lq.xy k M), .int .i64 (Lq.yy k M), .int .i64 (Lq.xz k M), .int .i64 (Lq.yz k M)] 26)
    replace hB := bal hB (.cells #[.int .i64 (Lq.xx k M), .int .i64 (Lq.xy k M), .int .i64 (Lq.yy k M), .int .i64 (Lq.xz k M), .int .i64 (Lq.yz k M)] 26)
    have N := Blk.new w3 26 #[.int .i64 (Lq.xx k M), .int .i64 (Lq.xy k M), .int .i64 (Lq.yy k M), .int .i64 (Lq.xz k M), .int .i64 (Lq.yz k M)]
    obtain ⟨c00, c01, c02, c03, c04, c05, c06, c07, c08⟩ := S.open7
    obtain ⟨c10, c11, c12, c13, c14, c15, c16⟩ := N.open5
    go_wp2_with fail
    refine (equation_c _ _ _ _ _ _ _ _ _ _ _ OX OY (by omega) (by omega) (by omega) (by omega) (by omega) (by omega) (by omega) (by omega) (Lq.eq1 k M) F1.out.1 F1.out.2.1 F1.out.2.2.1 F1.out.2.2.2.1 F1.out.2.2.2.2.1 F1.out.2.2.2.2.2.1 F1.out.2.2.2.2.2.2.1 F1.out.2.2.2.2.2.2.2).mono ?_
    rintro e w4 ⟨rfl, hb⟩
    clear c00 c01 c02 c03 c04 c05 c06 c07 c08 c10 c11 c12 c13 c14 c15 c16
    replace S := S.keep hb
    replace N := N.keep hb
    replace hB := bt hB hb
    clear hb
    obtain ⟨c00, c01, c02, c03, c04, c05, c06, c07, c08⟩ := S.open7
    obtain ⟨c10, c11, c12, c13, c14, c15, c16⟩ := N.open5
    go_wp2_with fail
    refine (equation_c _ _ _ _ _ _ _ _ _ _ _ OX OY (by omega) (by omega) (by omega) (by omega) (by omega) (by omega) (by omega) (by omega) (Lq.eq2 k M) F2.out.1 F2.out.2.1 F2.out.2.2.1 F2.out.2.2.2.1 F2.out.2.2.2.2.1 F2.out.2.2.2.2.2.1 F2.out.2.2.2.2.2.2.1 F2.out.2.2.2.2.2.2.2).mono ?_
    rintro e w5 ⟨rfl, hb⟩
    clear c00 c01 c02 c03 c04 c05 c06 c07 c08 c10 c11 c12 c13 c14 c15 c16
    replace S := S.keep hb
    replace N := N.keep hb
    replace hB := bt hB hb
    clear hb
    go_wp2_with fail
    go_returns
    exact ⟨rfl, hB⟩
  · have h1 : (Lq.er k M != 0) = true := by simpa using h
    have hrel := Lq.er_rel k M h
    have H := Lib.hid h
    clear h
    rcases hrel with ⟨q1, q2⟩ | ⟨q1, q2⟩
    · have h2 : (Lq.ck k M != 0) = true := by simpa using q1
      have hee : (Lq.er k M == Lq.ck k M) = true := by simpa using q2
      have Q1 := Lib.hid q1
      clear q1 q2
      go_wp2_with fail
      refine (solve_no _ _ _ _ _ (T.keep hB) H.out).mono ?_
      rintro e w2 ⟨rfl, hb⟩
      replace hB := bt hB hb
      clear hb
      have hz2 := hB.size
      replace hB := bal hB (.cells #[.int .i64 (0), .int .u64 (0), .int .i64 (0), .int .u64 (0), .int .i64 (0), .int .i64 (0), .int .i64 (0)] 38)
      have S := Blk.new w2 38 #[.int .i64 (0), .int .u64 (0), .int .i64 (0), .int .u64 (0), .int .i64 (0), .int .i64 (0), .int .i64 (0)]
      obtain ⟨c00, c01, c02, c03, c04, c05, c06, c07, c08⟩ := S.open7
      go_wp2_with fail
      refine (normal_no _ _ _ _ _ (T.keep hB) Q1.out).mono ?_
      rintro e w3 ⟨rfl, hb⟩
      clear c00 c01 c02 c03 c04 c05 c06 c07 c08
      replace S := S.keep hb
      replace hB := bt hB hb
      clear hb
      have hz3 := hB.size
      have l3S := S.lt
      replace S := S.alloc (.cells #[.int .i64 (0), .int .i64 (0), .int .i64 (0), .int .i64 (0), .int .i64 (0)] 26)
      replace hB := bal hB (.cells #[.int .i64 (0), .int .i64 (0), .int .i64 (0), .int .i64 (0), .int .i64 (0)] 26)
      have N := Blk.new w3 26 #[.int .i64 (0), .int .i64 (0), .int .i64 (0), .int .i64 (0), .int .i64 (0)]
      go_wp2_with fail
      go_returns
      exact ⟨rfl, hB⟩
    · have O := Lq.ck_ok.1 q1
      clear q1
      rcases q2 with q2 | q2
      · have q3 := Lib.hid q2
        clear q2 h1
        go_wp2_with fail
        refine (solve_no _ _ _ _ _ (T.keep hB) H.out).mono ?_
        rw [q3.out]
        rintro e w2 ⟨rfl, hb⟩
        replace hB := bt hB hb
        clear hb
        have hz2 := hB.size
        replace hB := bal hB (.cells #[.int .i64 (0), .int .u64 (0), .int .i64 (0), .int .u64 (0), .int .i64 (0), .int .i64 (0), .int .i64 (0)] 38)
        have S := Blk.new w2 38 #[.int .i64 (0), .int .u64 (0), .int .i64 (0), .int .u64 (0), .int .i64 (0), .int .i64 (0), .int .i64 (0)]
        obtain ⟨c00, c01, c02, c03, c04, c05, c06, c07, c08⟩ := S.open7
        go_wp2_with fail
        refine (normal_ok _ _ _ _ _ (T.keep hB) O).mono ?_
        rintro e w3 ⟨rfl, hb⟩
        clear c00 c01 c02 c03 c04 c05 c06 c07 c08
        replace S := S.keep hb
        replace hB := bt hB hb
        clear hb
        have hz3 := hB.size
        have l3S := S.lt
        replace S := S.alloc (.cells #[.int .i64 (Lq.xx k M), .int .i64 (Lq.xy k M), .int .i64 (Lq.yy k M), .int .i64 (Lq.xz k M), .int .i64 (Lq.yz k M)] 26)
        replace hB := bal hB (.cells #[.int .i64 (Lq.xx k M), .int .i64 (Lq.xy k M), .int .i64 (Lq.yy k M), .int .i64 (Lq.xz k M), .int .i64 (Lq.yz k M)] 26)
        have N := Blk.new w3 26 #[.int .i64 (Lq.xx k M), .int .i64 (Lq.xy k M), .int .i64 (Lq.yy k M), .int .i64 (Lq.xz k M), .int .i64 (Lq.yz k M)]
        go_wp2_with fail
        go_returns
        exact ⟨rfl, hB⟩
      · have q3 := Lib.hid q2
        clear q2 h1
        go_wp2_with fail
        refine (solve_no _ _ _ _ _ (T.keep hB) H.out).mono ?_
        rw [q3.out]
        rintro e w2 ⟨rfl, hb⟩
        replace hB := bt hB hb
        clear hb
        have hz2 := hB.size
        replace hB := bal hB (.cells #[.int .i64 (0), .int .u64 (0), .int .i64 (0), .int .u64 (0), .int .i64 (0), .int .i64 (0), .int .i64 (0)] 38)
        have S := Blk.new w2 38 #[.int .i64 (0), .int .u64 (0), .int .i64 (0), .int .u64 (0), .int .i64 (0), .int .i64 (0), .int .i64 (0)]
        obtain ⟨c00, c01, c02, c03, c04, c05, c06, c07, c08⟩ := S.open7
        go_wp2_with fail
        refine (normal_ok _ _ _ _ _ (T.keep hB) O).mono ?_
        rintro e w3 ⟨rfl, hb⟩
        clear c00 c01 c02 c03 c04 c05 c06 c07 c08
        replace S := S.keep hb
        replace hB := bt hB hb
        clear hb
        have hz3 := hB.size
        have l3S := S.lt
        replace S := S.alloc (.cells #[.int .i64 (Lq.xx k M), .int .i64 (Lq.xy k M), .int .i64 (Lq.yy k M), .int .i64 (Lq.xz k M), .int .i64 (Lq.yz k M)] 26)
        replace hB := bal hB (.cells #[.int .i64 (Lq.xx k M), .int .i64 (Lq.xy k M), .int .i64 (Lq.yy k M), .int .i64 (Lq.xz k M), .int .i64 (Lq.yz k M)] 26)
        have N := Blk.new w3 26 #[.int .i64 (Lq.xx k M), .int .i64 (Lq.xy k M), .int .i64 (Lq.yy k M), .int .i64 (Lq.xz k M), .int .i64 (Lq.yz k M)]
        go_wp2_with fail
        go_returns
        exact ⟨rfl, hB⟩
end Go.Proofs.Ytcgcocingfhleaa
