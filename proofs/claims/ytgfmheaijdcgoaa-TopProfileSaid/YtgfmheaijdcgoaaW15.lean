/-
  The walks of ConstraintMeets, ConstraintFinds, ConstraintTight.
-/
import Derived.Test.YtgfmheaijdcgoaaW14
namespace Go.Proofs.Ytgfmheaijdcgoaa
set_option linter.unusedVariables false
set_option linter.unusedSimpArgs false
open Go.RowKit

set_option maxHeartbeats 1000000 in
theorem law_meets (A B E : Option Addr) (n c m d l f : Nat) (N S : Nat → Nat → Int) (v : Nat → Int) (w : World) (R : Rd w 2 A n c (iv N)) (T : Rd w 2 B m d (iv S)) (L : Rd w 1 E l f (nv v)) :
    Calls Try.prog 3 #[.slice A n c, .slice B m d, .slice E l f] w fun e w' => e = .returned (.bool true) ∧ Below w.heap.size w w' := by
  go_enter Try.func3, Try.ntmps3
  go_wp2_with fail
  refine (awake_c _).mono ?_
  rintro e w1 ⟨rfl, h1⟩
  go_wp2_with fail
  refine (check_c _ _ _ _ _ _ _ _ _ (R.keep h1) (T.keep h1)).mono ?_
  rintro e w2 ⟨rfl, h2⟩
  replace h2 := bt h1 h2
  go_wp2_with fail
  refine (rcheck_c _ _ _ _ _ _ _ _ _ (R.keep h2) (T.keep h2)).mono ?_
  rintro e w3 ⟨rfl, h3⟩
  replace h3 := bt h2 h3
  go_wp2_with fail
  refine (meets_c _ _ _ _ _ _ _ _ _ _ _ _ _ (R.keep h3) (T.keep h3) (L.keep h3)).mono ?_
  rintro e w4 ⟨rfl, h4⟩
  replace h4 := bt h3 h4
  go_wp2_with fail
  refine (rmeets_c _ _ _ _ _ _ _ _ _ _ _ _ _ (R.keep h4) (T.keep h4) (L.keep h4)).mono ?_
  rintro e w5 ⟨rfl, h5⟩
  replace h5 := bt h4 h5
  go_wp2_with fail
  go_returns
  exact ⟨rfl, h5⟩

set_option maxHeartbeats 1000000 in
theorem law_tight (A B : Option Addr) (n c m d : Nat) (N S : Nat → Nat → Int) (w : World) (R : Rd w 2 A n c (iv N)) (T : Rd w 2 B m d (iv S)) :
    Calls Try.prog 5 #[.slice A n c, .slice B m d] w fun e w' => e = .returned (.bool true) ∧ Below w.heap.size w w' := by
  go_enter Try.func5, Try.ntmps5
  go_wp2_with fail
  refine (awake_c _).mono ?_
  rintro e w1 ⟨rfl, h1⟩
  go_wp2_with fail
  refine (tighten_c _ _ _ _ _ _ _ _ _ (R.keep h1) (T.keep h1)).mono ?_
  rintro e w2 ⟨A1, c1, rfl, o1, h2⟩
  replace h2 := bt h1 h2
  go_wp2_with fail
  refine (rtighten_c _ _ _ _ _ _ _ _ _ (R.keep h2) (T.keep h2)).mono ?_
  rintro e w3 ⟨A2, c2, rfl, o2, h3⟩
  replace o1 := o1.keep h3
  replace h3 := bt h2 h3
  go_wp2_with fail
  refine (windows_c _ _ _ _ _ _ _ o1.rd o2.rd).mono ?_
  rintro e w4 ⟨rfl, h4⟩
  replace h4 := bt h3 h4
  go_wp2_with fail
  go_returns
  exact ⟨rfl, h4⟩

set_option maxRecDepth 100000 in
set_option maxHeartbeats 2000000 in
theorem law_finds (A B : Option Addr) (n c m d : Nat) (N S : Nat → Nat → Int) (I J : Int) (w : World) (R : Rd w 2 A n c (iv N)) (T : Rd w 2 B m d (iv S)) :
    Calls Try.prog 4 #[.slice A n c, .slice B m d, .agg #[.int .i64 I, .int .i64 J]] w fun e w' => e = .returned (.bool true) ∧ Below w.heap.size w w' := by
  have hL : (Co.cfl n N m S).length ≤ 4160 := by
    unfold Co.cfl
    split
    · rename_i h; exact Co.cfs_len N S (Co.ck_ok.1 h).hn
    · simp
  have X := Blk.new w 30 #[.int .i64 I, .int .i64 J]
  have hX := ba w (.cells #[.int .i64 I, .int .i64 J] 30)
  go_enter Try.func4, Try.ntmps4
  go_wp2_with fail
  refine (awake_c _).mono ?_
  rintro e w1 ⟨rfl, h1⟩
  replace X := X.keep h1
  replace h1 := bt hX h1
  clear hX
  go_wp2_with fail
  refine (all_c _ _ _ _ _ _ _ _ _ (R.keep h1) (T.keep h1)).mono ?_
  rintro e w2 ⟨A1, c1, rfl, o1, h2⟩
  replace X := X.keep h2
  replace h2 := bt h1 h2
  go_wp2_with fail
  refine (rall_c _ _ _ _ _ _ _ _ _ (R.keep h2) (T.keep h2)).mono ?_
  rintro e w3 ⟨A2, c2, rfl, o2, h3⟩
  replace o1 := o1.keep h3
  replace X := X.keep h3
  replace h3 := bt h2 h3
  have P := o1.rd
  have Q := o2.rd
  clear o1 o2 h1 h2
  generalize Co.cfl n N m S = l at P Q hL ⊢
  go_wp2_with fail
  go_loopw [44] (fun i wr => ∃ k : Nat, k ≤ l.length ∧ i = .int .i64 k ∧ Blk wr w.heap.size 30 #[.int .i64 I, .int .i64 J] ∧ Below w3.heap.size w3 wr) (fun i _ => l.length - (intOf i).toNat)
  case atStart => exact ⟨0, Nat.zero_le _, rfl, X, Below.refl _ _⟩
  case round =>
    clear X
    obtain ⟨k, hk, rfl, X, hB⟩ := hrel
    by_cases hlt : k < l.length
    · obtain ⟨b, off, eA, hbl, u0, u1⟩ := (P.keep hB).at2 hlt
      obtain ⟨b2, off2, eB, hbl2, v0, v1⟩ := (Q.keep hB).at2 hlt
      have HA := Lib.hid eA
      have HB := Lib.hid eB
      rw [HA.out, HB.out]
      clear eA eB
      have i1 : (0 : Int) ≤ (k : Int) := by omega
      have i2 : (k : Int) < (l.length : Int) := by omega
      generalize Co.cf l k 0 = p at u0 v0
      generalize Co.cf l k 1 = q at u1 v1
      go_wp2
      go_quiet (fail)
      go_wp2
      go_roundw
      case rel => exact ⟨k + 1, by omega, by go_num, X.drewN _, bdnl hB _⟩
      case measure => simp [intOf]; omega
    · have ek : (k : Int) = (l.length : Int) := by omega
      rw [ek]
      clear ek
      replace hB := bt h3 hB
      clear P Q h3
      go_wp2_with fail
      refine (conflicts_c _ _ _ _ _ _ _ _ _ (R.keep hB) (T.keep hB)).mono ?_
      rintro e w4 ⟨rfl, h4⟩
      replace X := X.keep h4
      replace h4 := bt hB h4
      clear hB
      have C := Blk.new w4 30 #[.int .i64 (Co.fI n N m S), .int .i64 (Co.fJ n N m S)]
      replace X := X.alloc (.cells #[.int .i64 (Co.fI n N m S), .int .i64 (Co.fJ n N m S)] 30)
      replace h4 := bal h4 (.cells #[.int .i64 (Co.fI n N m S), .int .i64 (Co.fJ n N m S)] 30)
      go_wp2_with fail
      refine (rconflicts_c _ _ _ _ _ _ _ _ _ (R.keep h4) (T.keep h4)).mono ?_
      rintro e w5 ⟨rfl, h5⟩
      replace X := (X.keep h5).alloc (.cells #[.int .i64 (Co.fI n N m S), .int .i64 (Co.fJ n N m S)] 30)
      replace C := (C.keep h5).alloc (.cells #[.int .i64 (Co.fI n N m S), .int .i64 (Co.fJ n N m S)] 30)
      have D := Blk.new w5 30 #[.int .i64 (Co.fI n N m S), .int .i64 (Co.fJ n N m S)]
      replace h5 := bal (bt h4 h5) (.cells #[.int .i64 (Co.fI n N m S), .int .i64 (Co.fJ n N m S)] 30)
      clear h4
      obtain ⟨c0, c1, c2, c3⟩ := C.open2
      obtain ⟨d0, d1, d2, d3⟩ := D.open2
      obtain ⟨x0, x1, x2, x3⟩ := X.open2
      go_wp2_with fail
      refine (excess_c _ _ _ _ _ _ _ _ _ _ _ (R.keep h5) (T.keep h5)).mono ?_
      rintro e w6 ⟨rfl, h6⟩
      clear c0 c1 c2 c3 d0 d1 d2 d3 x0 x1 x2 x3
      replace X := X.keep h6
      replace h6 := bt h5 h6
      obtain ⟨x0, x1, x2, x3⟩ := X.open2
      go_wp2_with fail
      refine (rexcess_c _ _ _ _ _ _ _ _ _ _ _ (R.keep h6) (T.keep h6)).mono ?_
      rintro e w7 ⟨rfl, h7⟩
      replace h7 := bt h6 h7
      go_wp2_with fail
      go_returns
      exact ⟨rfl, h7⟩
end Go.Proofs.Ytgfmheaijdcgoaa
