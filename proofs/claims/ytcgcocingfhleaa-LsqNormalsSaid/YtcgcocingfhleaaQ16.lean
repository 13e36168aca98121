/-
  The walks of LsqNormals and LsqSolves.
-/
import Derived.Test.YtcgcocingfhleaaQ15
import Derived.Test.YtcgcocingfhleaaQ13
namespace Go.Proofs.Ytcgcocingfhleaa
set_option linter.unusedVariables false
set_option linter.unusedSimpArgs false
open Go.RowKit
attribute [local irreducible] World.setCell World.cell?

set_option maxRecDepth 100000 in
set_option maxHeartbeats 4000000 in
theorem law_normals (A : Option Addr) (n c : Nat) (M : Lq.Tab) (w : World) (T : Rd w 6 A n c (iv M)) :
    Calls Try.prog 3 #[.slice A n c] w fun e w' => e = .returned (.bool true) ∧ Below w.heap.size w w' := by
  have KC := fun W_ (T_ : Rd W_ 6 A n c (iv M)) => cut_c A n c M W_ T_
  have T0 := T
  have hk : (if n ≤ 20 then n else 20) ≤ n := by split <;> omega
  generalize hk2 : (if n ≤ 20 then n else 20) = k at hk
  replace hk2 := Lib.hid hk2
  simp only [hk2.out] at KC
  have T := T0.short hk
  go_enter Try.func3, Try.ntmps3
  try simp only [List.append_eq, List.cons_append, List.nil_append]
  have hB := Below.refl w.heap.size w
  go_wp2_with fail
  refine (awake_c _).mono ?_
  rintro e w1 ⟨rfl, hb⟩
  replace hB := bt hB hb
  clear hb
  go_wp2_with fail
  refine (KC _ (T0.keep hB)).mono ?_
  rintro e wq ⟨rfl, rfl⟩
  clear KC
  by_cases h : Lq.ck k M = 0
  · have O := Lq.ck_ok.1 h
    have H := Lib.hid h
    clear h
    go_wp2_with fail
    refine (normal_ok _ _ _ _ _ (T.keep hB) O).mono ?_
    rintro e w2 ⟨rfl, hb⟩
    replace hB := bt hB hb
    clear hb
    have hz2 := hB.size
    replace hB := bal hB (.cells #[.int .i64 (Lq.xx k M), .int .i64 (Lq.xy k M), .int .i64 (Lq.yy k M), .int .i64 (Lq.xz k M), .int .i64 (Lq.yz k M)] 26)
    have N := Blk.new w2 26 #[.int .i64 (Lq.xx k M), .int .i64 (Lq.xy k M), .int .i64 (Lq.yy k M), .int .i64 (Lq.xz k M), .int .i64 (Lq.yz k M)]
    obtain ⟨c00, c01, c02, c03, c04, c05, c06⟩ := N.open5
    go_wp2_with fail
    refine (rnormal_ok _ _ _ _ _ (T.keep hB) O).mono ?_
    rintro e w3 ⟨rfl, hb⟩
    clear c00 c01 c02 c03 c04 c05 c06
    replace N := N.keep hb
    replace hB := bt hB hb
    clear hb
    have hz3 := hB.size
    have l3N := N.lt
    replace N := N.alloc (.cells #[.int .i64 (Lq.xx k M), .int .i64 (Lq.xy k M), .int .i64 (Lq.yy k M), .int .i64 (Lq.xz k M), .int .i64 (Lq.yz k M)] 26)
    replace hB := bal hB (.cells #[.int .i64 (Lq.xx k M), .int .i64 (Lq.xy k M), .int .i64 (Lq.yy k M), .int .i64 (Lq.xz k M), .int .i64 (Lq.yz k M)] 26)
    have N2 := Blk.new w3 26 #[.int .i64 (Lq.xx k M), .int .i64 (Lq.xy k M), .int .i64 (Lq.yy k M), .int .i64 (Lq.xz k M), .int .i64 (Lq.yz k M)]
    obtain ⟨c00, c01, c02, c03, c04, c05, c06⟩ := N.open5
    obtain ⟨c10, c11, c12, c13, c14, c15, c16⟩ := N2.open5
    go_wp2_with fail
    refine (check_c _ _ _ _ _ (T.keep hB)).mono ?_
    rw [H.out]
    rintro e w4 ⟨rfl, hb⟩
    clear c00 c01 c02 c03 c04 c05 c06 c10 c11 c12 c13 c14 c15 c16
    replace N := N.keep hb
    replace N2 := N2.keep hb
    replace hB := bt hB hb
    clear hb
    go_wp2_with fail
    refine (rcheck_c _ _ _ _ _ (T.keep hB)).mono ?_
    rw [H.out]
    rintro e w5 ⟨rfl, hb⟩
    replace N := N.keep hb
    replace N2 := N2.keep hb
    replace hB := bt hB hb
    clear hb
    go_wp2_with fail
    go_returns
    exact ⟨rfl, hB⟩
  · have H := Lib.hid h
    clear h
    have hee : (Lq.ck k M == Lq.ck k M) = true := by simp
    go_wp2_with fail
    refine (normal_no _ _ _ _ _ (T.keep hB) H.out).mono ?_
    rintro e w2 ⟨rfl, hb⟩
    replace hB := bt hB hb
    clear hb
    have hz2 := hB.size
    replace hB := bal hB (.cells #[.int .i64 (0), .int .i64 (0), .int .i64 (0), .int .i64 (0), .int .i64 (0)] 26)
    have N := Blk.new w2 26 #[.int .i64 (0), .int .i64 (0), .int .i64 (0), .int .i64 (0), .int .i64 (0)]
    obtain ⟨c00, c01, c02, c03, c04, c05, c06⟩ := N.open5
    go_wp2_with fail
    refine (rnormal_no _ _ _ _ _ (T.keep hB) H.out).mono ?_
    rintro e w3 ⟨rfl, hb⟩
    clear c00 c01 c02 c03 c04 c05 c06
    replace N := N.keep hb
    replace hB := bt hB hb
    clear hb
    have hz3 := hB.size
    have l3N := N.lt
    replace N := N.alloc (.cells #[.int .i64 (0), .int .i64 (0), .int .i64 (0), .int .i64 (0), .int .i64 (0)] 26)
    replace hB := bal hB (.cells #[.int .i64 (0), .int .i64 (0), .int .i64 (0), .int .i64 (0), .int .i64 (0)] 26)
    have N2 := Blk.new w3 26 #[.int .i64 (0), .int .i64 (0), .int .i64 (0), .int .i64 (0), .int .i64 (0)]
    obtain ⟨c00, c01, c02, c03, c04, c05, c06⟩ := N.open5
    obtain ⟨c10, c11, c12, c13, c14, c15, c16⟩ := N2.open5
    go_wp2_with fail
    refine (check_c _ _ _ _ _ (T.keep hB)).mono ?_
    rintro e w4 ⟨rfl, hb⟩
    clear c00 c01 c02 c03 c04 c05 c06 c10 c11 c12 c13 c14 c15 c16
    replace N := N.keep hb
    replace N2 := N2.keep hb
    replace hB := bt hB hb
    clear hb
    go_wp2_with fail
    refine (rcheck_c _ _ _ _ _ (T.keep hB)).mono ?_
    rintro e w5 ⟨rfl, hb⟩
    replace N := N.keep hb
    replace N2 := N2.keep hb
    replace hB := bt hB hb
    clear hb
    go_wp2_with fail
    go_returns
    exact ⟨rfl, hB⟩
set_option maxRecDepth 100000 in
set_option maxHeartbeats 4000000 in
theorem law_solves (A : Option Addr) (n c : Nat) (M : Lq.Tab) (w : World) (T : Rd w 6 A n c (iv M)) :
    Calls Try.prog 4 #[.slice A n c] w fun e w' => e = .returned (.bool true) ∧ Below w.heap.size w w' := by
  have KC := fun W_ (T_ : Rd W_ 6 A n c (iv M)) => cut_c A n c M W_ T_
  have T0 := T
  have hk : (if n ≤ 20 then n else 20) ≤ n := by split <;> omega
  generalize hk2 : (if n ≤ 20 then n else 20) = k at hk
  replace hk2 := Lib.hid hk2
  simp only [hk2.out] at KC
  have T := T0.short hk
  go_enter Try.func4, Try.ntmps4
  try simp only [List.append_eq, List.cons_append, List.nil_append]
  have hB := Below.refl w.heap.size w
  go_wp2_with fail
  refine (awake_c _).mono ?_
  rintro e w1 ⟨rfl, hb⟩
  replace hB := bt hB hb
  clear hb
  go_wp2_with fail
  refine (KC _ (T0.keep hB)).mono ?_
  rintro e wq ⟨rfl, rfl⟩
  clear KC
  by_cases h : Lq.er k M = 0
  · have H := Lib.hid h
    clear h
    go_wp2_with fail
    refine (solve_ok _ _ _ _ _ (T.keep hB) H.out).mono ?_
    rintro e w2 ⟨rfl, hb⟩
    replace hB := bt hB hb
    clear hb
    have hz2 := hB.size
    replace hB := bal hB (.cells #[.int .i64 (Wi.Hq (Lq.sx k M)), .int .u64 (Wi.Lr (Lq.sx k M)), .int .i64 (Wi.Hq (Lq.sy k M)), .int .u64 (Wi.Lr (Lq.sy k M)), .int .i64 (Lq.det k M), .int .i64 (Lq.nr (Lq.sx k M) (Lq.det k M)), .int .i64 (Lq.nr (Lq.sy k M) (Lq.det k M))] 38)
    have N := Blk.new w2 38 #[.int .i64 (Wi.Hq (Lq.sx k M)), .int .u64 (Wi.Lr (Lq.sx k M)), .int .i64 (Wi.Hq (Lq.sy k M)), .int .u64 (Wi.Lr (Lq.sy k M)), .int .i64 (Lq.det k M), .int .i64 (Lq.nr (Lq.sx k M) (Lq.det k M)), .int .i64 (Lq.nr (Lq.sy k M) (Lq.det k M))]
    obtain ⟨c00, c01, c02, c03, c04, c05, c06, c07, c08⟩ := N.open7
    go_wp2_with fail
    refine (rsolve_ok _ _ _ _ _ (T.keep hB) H.out).mono ?_
    rintro e w3 ⟨rfl, hb⟩
    clear c00 c01 c02 c03 c04 c05 c06 c07 c08
    replace N := N.keep hb
    replace hB := bt hB hb
    clear hb
    have hz3 := hB.size
    have l3N := N.lt
    replace N := N.alloc (.cells #[.int .i64 (Wi.Hq (Lq.sx k M)), .int .u64 (Wi.Lr (Lq.sx k M)), .int .i64 (Wi.Hq (Lq.sy k M)), .int .u64 (Wi.Lr (Lq.sy k M)), .int .i64 (Lq.det k M), .int .i64 (Lq.nr (Lq.sx k M) (Lq.det k M)), .int .i64 (Lq.nr (Lq.sy k M) (Lq.det k M))] 38)
    replace hB := bal hB (.cells #[.int .i64 (Wi.Hq (Lq.sx k M)), .int .u64 (Wi.Lr (Lq.sx k M)), .int .i64 (Wi.Hq (Lq.sy k M)), .int .u64 (Wi.Lr (Lq.sy k M)), .int .i64 (Lq.det k M), .int .i64 (Lq.nr (Lq.sx k M) (Lq.det k M)), .int .i64 (Lq.nr (Lq.sy k M) (Lq.det k M))] 38)
    have N2 := Blk.new w3 38 #[.int .i64 (Wi.Hq (Lq.sx k M)), .int .u64 (Wi.Lr (Lq.sx k M)), .int .i64 (Wi.Hq (Lq.sy k M)), .int .u64 (Wi.Lr (Lq.sy k M)), .int .i64 (Lq.det k M), .int .i64 (Lq.nr (Lq.sx k M) (Lq.det k M)), .int .i64 (Lq.nr (Lq.sy k M) (Lq.det k M))]
    obtain ⟨c00, c01, c02, c03, c04, c05, c06, c07, c08⟩ := N.open7
    obtain ⟨c10, c11, c12, c13, c14, c15, c16, c17, c18⟩ := N2.open7
    go_wp2_with fail
    go_returns
    exact ⟨rfl, hB⟩
  · have H := Lib.hid h
    clear h
    have hee : (Lq.er k M == Lq.er k M) = true := by simp
    go_wp2_with fail
    refine (solve_no _ _ _ _ _ (T.keep hB) H.out).mono ?_
    rintro e w2 ⟨rfl, hb⟩
    replace hB := bt hB hb
    clear hb
    have hz2 := hB.size
    replace hB := bal hB (.cells #[.int .i64 (0), .int .u64 (0), .int .i64 (0), .int .u64 (0), .int .i64 (0), .int .i64 (0), .int .i64 (0)] 38)
    have N := Blk.new w2 38 #[.int .i64 (0), .int .u64 (0), .int .i64 (0), .int .u64 (0), .int .i64 (0), .int .i64 (0), .int .i64 (0)]
    obtain ⟨c00, c01, c02, c03, c04, c05, c06, c07, c08⟩ := N.open7
    go_wp2_with fail
    refine (rsolve_no _ _ _ _ _ (T.keep hB) H.out).mono ?_
    rintro e w3 ⟨rfl, hb⟩
    clear c00 c01 c02 c03 c04 c05 c06 c07 c08
    replace N := N.keep hb
    replace hB := bt hB hb
    clear hb
    have hz3 := hB.size
    have l3N := N.lt
    replace N := N.alloc (.cells #[.int .i64 (0), .int .u64 (0), .int .i64 (0), .int .u64 (0), .int .i64 (0), .int .i64 (0), .int .i64 (0)] 38)
    replace hB := bal hB (.cells #[.int .i64 (0), .int .u64 (0), .int .i64 (0), .int .u64 (0), .int .i64 (0), .int .i64 (0), .int .i64 (0)] 38)
    have N2 := Blk.new w3 38 #[.int .i64 (0), .int .u64 (0), .int .i64 (0), .int .u64 (0), .int .i64 (0), .int .i64 (0), .int .i64 (0)]
    obtain ⟨c00, c01, c02, c03, c04, c05, c06, c07, c08⟩ := N.open7
    obtain ⟨c10, c11, c12, c13, c14, c15, c16, c17, c18⟩ := N2.open7
    go_wp2_with fail
    go_returns
    exact ⟨rfl, hB⟩
end Go.Proofs.Ytcgcocingfhleaa
