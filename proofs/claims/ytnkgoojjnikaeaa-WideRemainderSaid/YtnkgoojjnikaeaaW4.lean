/-
  Contracts: negated numbers, absolute values, comparisons; Mul64.
-/
import Derived.Test.YtnkgoojjnikaeaaW3
namespace Go.Proofs.Ytnkgoojjnikaeaa
set_option linter.unusedVariables false
set_option linter.unusedSimpArgs false
open Go.RowKit

theorem wd0 : Wi.Wd 0 0 0 := ⟨rfl, rfl, by unfold Wi.inW; omega⟩
set_option maxHeartbeats 1000000 in
theorem neg_c (h l x : Int) (w : World) (H : Wi.Wd h l x) : Calls Try.prog 32 #[.agg #[.int .i64 h, .int .u64 l]] w fun e w' =>
    e = .returned (.tuple #[.agg #[.int .i64 (Wi.Hq (Wi.rv (-x))), .int .u64 (Wi.Lr (Wi.rv (-x)))], .bool (Wi.okb (-x))]) ∧ Below w.heap.size w w' := by
  go_enter Try.func32, Try.ntmps32
  go_wp2_with fail
  refine (sub_c _ _ _ _ _ _ _ wd0 H).mono ?_
  rw [Int.zero_sub]
  rintro e w1 ⟨rfl, hb⟩
  have R := (Blk.new1 w _ _ _).keep hb
  obtain ⟨r0, r1, r2, r3⟩ := R.open2
  go_wp2_with fail
  refine bodyPost_ret (by simp [results, Try.results32, go_sem, r0, r1, r2, r3]; try rfl) rfl ?_
  exact ⟨rfl, by repeat (first | exact Below.refl _ _ | (with_reducible assumption) | (with_reducible apply bal) | (with_reducible apply bdr) | (with_reducible apply bdnl) | (with_reducible refine bst ?_ (by first | (simp; done) | (simp; omega) | omega) _) | (with_reducible refine bt ?_ (by with_reducible assumption)))⟩

set_option maxHeartbeats 1000000 in
theorem absw_c (h l x : Int) (w : World) (H : Wi.Wd h l x) : Calls Try.prog 34 #[.agg #[.int .i64 h, .int .u64 l]] w fun e w' =>
    e = .returned (.tuple #[.agg #[.int .i64 (Wi.Hq (Wi.rv (Wi.ab x))), .int .u64 (Wi.Lr (Wi.rv (Wi.ab x)))], .bool (Wi.okb (Wi.ab x))]) ∧ Below w.heap.size w w' := by
  obtain ⟨h1, h2, h3, h4, hv⟩ := H.bd
  by_cases hs : h < 0
  · rw [Wi.ab_neg (by omega)]
    clear hv
    go_enter Try.func34, Try.ntmps34
    go_wp2_with fail
    refine (neg_c _ _ _ _ H).mono ?_
    rintro e w1 ⟨rfl, hb⟩
    have R := (Blk.new1 w _ _ _).keep hb
    obtain ⟨r0, r1, r2, r3⟩ := R.open2
    go_wp2_with fail
    refine bodyPost_ret (by simp [results, Try.results34, go_sem, r0, r1, r2, r3]; try rfl) rfl ?_
    exact ⟨rfl, by repeat (first | exact Below.refl _ _ | (with_reducible assumption) | (with_reducible apply bal) | (with_reducible apply bdr) | (with_reducible apply bdnl) | (with_reducible refine bst ?_ (by first | (simp; done) | (simp; omega) | omega) _) | (with_reducible refine bt ?_ (by with_reducible assumption)))⟩
  · rw [Wi.ab_pos (by omega)]
    clear hv
    go_enter Try.func34, Try.ntmps34
    go_wp2_with fail
    go_returns
    exact ⟨ret_w (Wi.w_yes h1 h2 h3 h4 H.bd.2.2.2.2), by go_grown⟩

set_option maxHeartbeats 1000000 in
theorem cmp_c (h l x h' l' y : Int) (w : World) (H : Wi.Wd h l x) (H' : Wi.Wd h' l' y) : Calls Try.prog 36 #[.agg #[.int .i64 h, .int .u64 l], .agg #[.int .i64 h', .int .u64 l']] w fun e w' =>
    e = .returned (.int .i64 (Wi.cm x y)) ∧ Below w.heap.size w w' := by
  have b1 := H.bd
  have b2 := H'.bd
  by_cases hh : h = h'
  · subst hh
    by_cases hl : l = l'
    · subst hl
      have e : Wi.cm x y = 0 := Wi.cm_eq (by omega)
      rw [e]
      clear b1 b2 e
      go_enter Try.func36, Try.ntmps36
      go_wp2_with fail
      go_returns
      exact ⟨rfl, by go_grown⟩
    · have e : Wi.cm l l' = Wi.cm x y := by
        rcases Int.lt_trichotomy l l' with q | q | q
        · rw [Wi.cm_lt q, Wi.cm_lt (by omega)]
        · rw [Wi.cm_eq q, Wi.cm_eq (by omega)]
        · rw [Wi.cm_gt q, Wi.cm_gt (by omega)]
      have E := Lib.hid e
      have hb : (l == l') = false := by simpa using hl
      clear e b1 b2 hl
      go_enter Try.func36, Try.ntmps36
      go_wp2_with (go_at_call 62; refine (cmpu_c _ _ _).mono ?_; rintro e w' ⟨rfl, rfl⟩)
      go_returns
      exact ⟨ret_int E.out, by go_grown⟩
  · have e : Wi.cm h h' = Wi.cm x y := by
      rcases Int.lt_trichotomy h h' with q | q | q
      · rw [Wi.cm_lt q, Wi.cm_lt (by omega)]
      · exact absurd q hh
      · rw [Wi.cm_gt q, Wi.cm_gt (by omega)]
    have hb : (h == h') = false := by simpa using hh
    have E := Lib.hid e
    clear e b1 b2 hh
    go_enter Try.func36, Try.ntmps36
    go_wp2_with (go_at_call 61; refine (cmpi_c _ _ _).mono ?_; rintro e w' ⟨rfl, rfl⟩)
    go_returns
    exact ⟨ret_int E.out, by go_grown⟩
set_option maxHeartbeats 1000000 in
theorem sign_c (h l x : Int) (w : World) (H : Wi.Wd h l x) : Calls Try.prog 38 #[.agg #[.int .i64 h, .int .u64 l]] w fun e w' =>
    e = .returned (.int .i64 (Wi.cm x 0)) ∧ Below w.heap.size w w' := by
  go_enter Try.func38, Try.ntmps38
  go_wp2_with fail
  refine (cmp_c _ _ _ _ _ _ _ H wd0).mono ?_
  rintro e w1 ⟨rfl, hb⟩
  go_wp2_with fail
  go_returns
  exact ⟨rfl, by repeat (first | exact Below.refl _ _ | (with_reducible assumption) | (with_reducible apply bal) | (with_reducible apply bdr) | (with_reducible apply bdnl) | (with_reducible refine bst ?_ (by first | (simp; done) | (simp; omega) | omega) _) | (with_reducible refine bt ?_ (by with_reducible assumption)))⟩
end Go.Proofs.Ytnkgoojjnikaeaa
