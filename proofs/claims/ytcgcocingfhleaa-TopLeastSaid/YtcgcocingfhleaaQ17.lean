/-
  The walk of LsqLeasts.
-/
import Derived.Test.YtcgcocingfhleaaQ15
import Derived.Test.YtcgcocingfhleaaQ13
import Derived.Test.YtcgcocingfhleaaW4
namespace Go.Proofs.Ytcgcocingfhleaa
set_option linter.unusedVariables false
set_option linter.unusedSimpArgs false
open Go.RowKit
attribute [local irreducible] World.setCell World.cell?

theorem least_ok (A : Option Addr) (n c : Nat) (M : Lq.Tab) (w : World) (T : Rd w 6 A n c (iv M)) (h : Lq.er n M = 0) : Calls Try.prog 23 #[.slice A n c] w fun e w' => e = .returned (.tuple #[.agg #[.int .i64 (Wi.Hq (Lq.num n M)), .int .u64 (Wi.Lr (Lq.num n M))], .int .i64 (Lq.det n M), .int .i64 0]) ∧ Below w.heap.size w w' := (least_c A n c M w T).mono fun _ _ q => ⟨q.1.1 h, q.2⟩
theorem least_no (A : Option Addr) (n c : Nat) (M : Lq.Tab) (w : World) (T : Rd w 6 A n c (iv M)) (h : Lq.er n M ≠ 0) : Calls Try.prog 23 #[.slice A n c] w fun e w' => e = .returned (.tuple #[.agg #[.int .i64 (0), .int .u64 (0)], .int .i64 0, .int .i64 (Lq.er n M)]) ∧ Below w.heap.size w w' := (least_c A n c M w T).mono fun _ _ q => ⟨q.1.2 h, q.2⟩
theorem rleast_ok (A : Option Addr) (n c : Nat) (M : Lq.Tab) (w : World) (T : Rd w 6 A n c (iv M)) (h : Lq.er n M = 0) : Calls Try.prog 24 #[.slice A n c] w fun e w' => e = .returned (.tuple #[.agg #[.int .i64 (Wi.Hq (Lq.num n M)), .int .u64 (Wi.Lr (Lq.num n M))], .int .i64 (Lq.det n M), .int .i64 0]) ∧ Below w.heap.size w w' := (rleast_c A n c M w T).mono fun _ _ q => ⟨q.1.1 h, q.2⟩
theorem rleast_no (A : Option Addr) (n c : Nat) (M : Lq.Tab) (w : World) (T : Rd w 6 A n c (iv M)) (h : Lq.er n M ≠ 0) : Calls Try.prog 24 #[.slice A n c] w fun e w' => e = .returned (.tuple #[.agg #[.int .i64 (0), .int .u64 (0)], .int .i64 0, .int .i64 (Lq.er n M)]) ∧ Below w.heap.size w w' := (rleast_c A n c M w T).mono fun _ _ q => ⟨q.1.2 h, q.2⟩
set_option maxRecDepth 100000 in
set_option maxHeartbeats 4000000 in
theorem law_leasts (A : Option Addr) (n c : Nat) (M : Lq.Tab) (w : World) (T : Rd w 6 A n c (iv M)) :
    Calls Try.prog 8 #[.slice A n c] w fun e w' => e = .returned (.bool true) ∧ Below w.heap.size w w' := by
  have KC := fun W_ (T_ : Rd W_ 6 A n c (iv M)) => cut_c A n c M W_ T_
  have T0 := T
  have hk : (if n ≤ 20 then n else 20) ≤ n := by split <;> omega
  generalize hk2 : (if n ≤ 20 then n else 20) = k at hk
  replace hk2 := Lib.hid hk2
  simp only [hk2.out] at KC
  have T := T0.short hk
  go_enter Try.func8, Try.ntmps8
  try simp only [List.append_eq, List.cons_append, List.nil_append]
  have hB := Below.refl w.heap.size w
  go_wp2_with fail
  refine (awake_c _).mono ?_
  rintro e w1 ⟨rfl, hb⟩
  replace hB := bt hB hb
  clear hb
  go_wp2_with fail
  refine (KC _ (T0.keep hB)).mono ?_
  rintro e wq ⟨rfl, rfl⟩
  clear KC
  by_cases h : Lq.er k M = 0
  · have S := Lq.er_ok.1 h
    have hn := Lq.num_nn S.ok S.d
    have q1 := Lq.num_bd S.ok
    have hw : Wi.inW (Lq.num k M) := by unfold Lq.num; unfold Wi.inW; omega
    have ON := Wi.wd_self hw
    have hs : (0 : Int) ≤ Wi.cm (Lq.num k M) 0 := by unfold Wi.cm; split <;> (try split) <;> omega
    clear S hn q1 hw
    have H := Lib.hid h
    clear h
    go_wp2_with fail
    refine (least_ok _ _ _ _ _ (T.keep hB) H.out).mono ?_
    rintro e w2 ⟨rfl, hb⟩
    replace hB := bt hB hb
    clear hb
    have hz2 := hB.size
    replace hB := bal hB (.cells #[.int .i64 (Wi.Hq (Lq.num k M)), .int .u64 (Wi.Lr (Lq.num k M))] 34)
    have N := Blk.new w2 34 #[.int .i64 (Wi.Hq (Lq.num k M)), .int .u64 (Wi.Lr (Lq.num k M))]
    obtain ⟨c00, c01, c02, c03⟩ := N.open2
    go_wp2_with fail
    refine (rleast_ok _ _ _ _ _ (T.keep hB) H.out).mono ?_
    rintro e w3 ⟨rfl, hb⟩
    clear c00 c01 c02 c03
    replace N := N.keep hb
    replace hB := bt hB hb
    clear hb
    have hz3 := hB.size
    have l3N := N.lt
    replace N := N.alloc (.cells #[.int .i64 (Wi.Hq (Lq.num k M)), .int .u64 (Wi.Lr (Lq.num k M))] 34)
    replace hB := bal hB (.cells #[.int .i64 (Wi.Hq (Lq.num k M)), .int .u64 (Wi.Lr (Lq.num k M))] 34)
    have N2 := Blk.new w3 34 #[.int .i64 (Wi.Hq (Lq.num k M)), .int .u64 (Wi.Lr (Lq.num k M))]
    obtain ⟨c00, c01, c02, c03⟩ := N.open2
    obtain ⟨c10, c11, c12, c13⟩ := N2.open2
    go_wp2_with fail
    refine (sign_c _ _ _ _ ON).mono ?_
    rintro e w4 ⟨rfl, hb⟩
    clear c00 c01 c02 c03 c10 c11 c12 c13
    replace N := N.keep hb
    replace N2 := N2.keep hb
    replace hB := bt hB hb
    clear hb
    go_wp2_with fail
    go_returns
    exact ⟨rfl, hB⟩
  · have H := Lib.hid h
    clear h
    have hee : (Lq.er k M == Lq.er k M) = true := by simp
    have ON : Wi.Wd 0 0 0 := Wi.wd_mk (h := 0) (l := 0) (by omega) (by omega) (by omega) (by omega)
    have hs : (0 : Int) ≤ Wi.cm 0 0 := by decide
    go_wp2_with fail
    refine (least_no _ _ _ _ _ (T.keep hB) H.out).mono ?_
    rintro e w2 ⟨rfl, hb⟩
    replace hB := bt hB hb
    clear hb
    have hz2 := hB.size
    replace hB := bal hB (.cells #[.int .i64 (0), .int .u64 (0)] 34)
    have N := Blk.new w2 34 #[.int .i64 (0), .int .u64 (0)]
    obtain ⟨c00, c01, c02, c03⟩ := N.open2
    go_wp2_with fail
    refine (rleast_no _ _ _ _ _ (T.keep hB) H.out).mono ?_
    rintro e w3 ⟨rfl, hb⟩
    clear c00 c01 c02 c03
    replace N := N.keep hb
    replace hB := bt hB hb
    clear hb
    have hz3 := hB.size
    have l3N := N.lt
    replace N := N.alloc (.cells #[.int .i64 (0), .int .u64 (0)] 34)
    replace hB := bal hB (.cells #[.int .i64 (0), .int .u64 (0)] 34)
    have N2 := Blk.new w3 34 #[.int .i64 (0), .int .u64 (0)]
    obtain ⟨c00, c01, c02, c03⟩ := N.open2
    obtain ⟨c10, c11, c12, c13⟩ := N2.open2
    go_wp2_with fail
    refine (sign_c _ _ _ _ ON).mono ?_
    rintro e w4 ⟨rfl, hb⟩
    clear c00 c01 c02 c03 c10 c11 c12 c13
    replace N := N.keep hb
    replace N2 := N2.keep hb
    replace hB := bt hB hb
    clear hb
    go_wp2_with fail
    go_returns
    exact ⟨rfl, hB⟩
end Go.Proofs.Ytcgcocingfhleaa
