/-
  Contracts: the reference's negated numbers, absolute values, comparisons, multiples.
-/
import Derived.Test.YtnkgoojjnikaeaaW8
namespace Go.Proofs.Ytnkgoojjnikaeaa
set_option linter.unusedVariables false
set_option linter.unusedSimpArgs false
open Go.RowKit

set_option maxHeartbeats 1000000 in
theorem rneg_c (h l x : Int) (w : World) (H : Wi.Wd h l x) : Calls Try.prog 33 #[.agg #[.int .i64 h, .int .u64 l]] w fun e w' =>
    e = .returned (.tuple #[.agg #[.int .i64 (Wi.Hq (Wi.rv (-x))), .int .u64 (Wi.Lr (Wi.rv (-x)))], .bool (Wi.okb (-x))]) ∧ Below w.heap.size w w' := by
  go_enter Try.func33, Try.ntmps33
  go_wp2_with fail
  refine (rsub_c _ _ _ _ _ _ _ wd0 H).mono ?_
  rw [Int.zero_sub]
  rintro e w1 ⟨rfl, hb⟩
  have R := (Blk.new1 w _ _ _).keep hb
  obtain ⟨r0, r1, r2, r3⟩ := R.open2
  go_wp2_with fail
  refine bodyPost_ret (by simp [results, Try.results33, go_sem, r0, r1, r2, r3]; try rfl) rfl ?_
  exact ⟨rfl, by repeat (first | exact Below.refl _ _ | (with_reducible assumption) | (with_reducible apply bal) | (with_reducible apply bdr) | (with_reducible apply bdnl) | (with_reducible refine bst ?_ (by first | (simp; done) | (simp; omega) | omega) _) | (with_reducible refine bt ?_ (by with_reducible assumption)))⟩

set_option maxHeartbeats 1000000 in
theorem rabsw_c (h l x : Int) (w : World) (H : Wi.Wd h l x) : Calls Try.prog 35 #[.agg #[.int .i64 h, .int .u64 l]] w fun e w' =>
    e = .returned (.tuple #[.agg #[.int .i64 (Wi.Hq (Wi.rv (Wi.ab x))), .int .u64 (Wi.Lr (Wi.rv (Wi.ab x)))], .bool (Wi.okb (Wi.ab x))]) ∧ Below w.heap.size w w' := by
  obtain ⟨h1, h2, h3, h4, hv⟩ := H.bd
  by_cases hs : h < 0
  · rw [Wi.ab_neg (by omega)]
    clear hv
    go_enter Try.func35, Try.ntmps35
    go_wp2_with fail
    refine (rneg_c _ _ _ _ H).mono ?_
    rintro e w1 ⟨rfl, hb⟩
    have R := (Blk.new1 w _ _ _).keep hb
    obtain ⟨r0, r1, r2, r3⟩ := R.open2
    go_wp2_with fail
    refine bodyPost_ret (by simp [results, Try.results35, go_sem, r0, r1, r2, r3]; try rfl) rfl ?_
    exact ⟨rfl, by repeat (first | exact Below.refl _ _ | (with_reducible assumption) | (with_reducible apply bal) | (with_reducible apply bdr) | (with_reducible apply bdnl) | (with_reducible refine bst ?_ (by first | (simp; done) | (simp; omega) | omega) _) | (with_reducible refine bt ?_ (by with_reducible assumption)))⟩
  · rw [Wi.ab_pos (by omega)]
    clear hv
    go_enter Try.func35, Try.ntmps35
    go_wp2_with fail
    go_returns
    exact ⟨ret_w (Wi.w_yes h1 h2 h3 h4 H.bd.2.2.2.2), by go_grown⟩

set_option maxHeartbeats 1000000 in
theorem rcmp_c (h l x h' l' y : Int) (w : World) (H : Wi.Wd h l x) (H' : Wi.Wd h' l' y) : Calls Try.prog 37 #[.agg #[.int .i64 h, .int .u64 l], .agg #[.int .i64 h', .int .u64 l']] w fun e w' =>
    e = .returned (.int .i64 (Wi.cm x y)) ∧ Below w.heap.size w w' := by
  have b1 := H.bd
  have b2 := H'.bd
  rcases Int.lt_trichotomy h h' with q | q | q
  · have E := Lib.hid (@Wi.cm_lt x y (by omega))
    clear b1 b2
    go_enter Try.func37, Try.ntmps37
    go_wp2_with fail
    go_returns
    exact ⟨ret_int E.out.symm, by go_grown⟩
  · subst q
    rcases Int.lt_trichotomy l l' with q | q | q
    · have E := Lib.hid (@Wi.cm_lt x y (by omega))
      clear b1 b2
      go_enter Try.func37, Try.ntmps37
      go_wp2_with fail
      go_returns
      exact ⟨ret_int E.out.symm, by go_grown⟩
    · subst q
      have E := Lib.hid (@Wi.cm_eq x y (by omega))
      clear b1 b2
      go_enter Try.func37, Try.ntmps37
      go_wp2_with fail
      go_returns
      exact ⟨ret_int E.out.symm, by go_grown⟩
    · have E := Lib.hid (@Wi.cm_gt x y (by omega))
      have hb : (l == l') = false := by simp; omega
      have hb2 : ¬ l < l' := by omega
      clear b1 b2
      go_enter Try.func37, Try.ntmps37
      go_wp2_with fail
      go_returns
      exact ⟨ret_int E.out.symm, by go_grown⟩
  · have E := Lib.hid (@Wi.cm_gt x y (by omega))
    have hb : (h == h') = false := by simp; omega
    have hb2 : ¬ h < h' := by omega
    clear b1 b2
    go_enter Try.func37, Try.ntmps37
    go_wp2_with fail
    go_returns
    exact ⟨ret_int E.out.symm, by go_grown⟩
set_option maxHeartbeats 1000000 in
theorem rsign_c (h l x : Int) (w : World) (H : Wi.Wd h l x) : Calls Try.prog 39 #[.agg #[.int .i64 h, .int .u64 l]] w fun e w' =>
    e = .returned (.int .i64 (Wi.cm x 0)) ∧ Below w.heap.size w w' := by
  go_enter Try.func39, Try.ntmps39
  go_wp2_with fail
  refine (rcmp_c _ _ _ _ _ _ _ H wd0).mono ?_
  rintro e w1 ⟨rfl, hb⟩
  go_wp2_with fail
  go_returns
  exact ⟨rfl, by repeat (first | exact Below.refl _ _ | (with_reducible assumption) | (with_reducible apply bal) | (with_reducible apply bdr) | (with_reducible apply bdnl) | (with_reducible refine bst ?_ (by first | (simp; done) | (simp; omega) | omega) _) | (with_reducible refine bt ?_ (by with_reducible assumption)))⟩

theorem sg_zero (n : Bool) : Wi.sg 0 n = 0 := by cases n <;> rfl
set_option maxHeartbeats 3000000 in
theorem rtimes_c (h l x a : Int) (w : World) (H : Wi.Wd h l x) (h1 : -9223372036854775808 ≤ a) (h2 : a ≤ 9223372036854775807) : Calls Try.prog 41 #[.agg #[.int .i64 h, .int .u64 l], .int .i64 a] w fun e w' =>
    e = .returned (.tuple #[.agg #[.int .i64 (Wi.Hq (Wi.rv (x * a))), .int .u64 (Wi.Lr (Wi.rv (x * a)))], .bool (Wi.okb (x * a))]) ∧ Below w.heap.size w w' := by
  obtain ⟨f1, f2, f3, f4, f5, f6, f7, f8, f9, f10, f11, f12, f13, f14⟩ := times_facts H.hv h1 h2
  obtain ⟨s, k, s1, s2, hs1, q1⟩ := wadd_ex (Wi.Hq (Wi.Lr (Wi.ab x) * Wi.ab a)) (Wi.Lr (Wi.Hq (Wi.ab x) * Wi.ab a)) f7 f8 f13 f14
  have S := Lib.hid (times_sum x a)
  have E := Lib.hid (ab_times x a)
  have B0 := Lib.hid H.bd
  generalize hlo : Wi.Lr (Wi.Lr (Wi.ab x) * Wi.ab a) = lo at *
  generalize hmi : Wi.Hq (Wi.Lr (Wi.ab x) * Wi.ab a) = mi at *
  generalize hto : Wi.Hq (Wi.Hq (Wi.ab x) * Wi.ab a) = tp at *
  have HLO := Lib.hid hlo
  have HMI := Lib.hid hmi
  have HTO := Lib.hid hto
  clear hlo hmi hto
  go_enter Try.func41, Try.ntmps41
  go_wp2_with fail
  refine (rsize_c _ _ _ _ H).mono ?_
  rintro e w1 ⟨rfl, hb1⟩
  have X := (Blk.new w 24 #[.int .i64 h, .int .u64 l]).alloc (.cells #[.int .i64 0, .int .u64 0] 24) |>.keep hb1
  have R := (Blk.new1 w _ _ _).keep hb1
  obtain ⟨r0, r1, r2, r3⟩ := R.open2
  obtain ⟨c0, c1, c2, c3⟩ := X.open2
  go_wp2_with fail
  refine (rsize1_c _ _ h1 h2).mono ?_
  rintro e w2 ⟨rfl, rfl⟩
  go_wp2_with fail
  refine (product_c _ _ _ f3 f4 f5 (by omega)).mono ?_
  rw [HLO.out, HMI.out]
  rintro e w2 ⟨rfl, rfl⟩
  go_wp2_with fail
  refine (product_c _ _ _ f1 (by omega) f5 (by omega)).mono ?_
  rw [HTO.out]
  rintro e w2 ⟨rfl, rfl⟩
  by_cases ht : tp = 0
  · subst ht
    by_cases hk : s < mi
    · have B := Lib.hid (sg_big (s := Wi.ab x * Wi.ab a) (!Wi.ngb x == decide (a < 0)) (by have := S.out; have := hs1.out; omega))
      go_wp2_with fail
      refine bodyPost_ret (by simp [results, Try.results41, go_sem, r0, r1, r2, r3]; try rfl) rfl ?_
      exact ⟨ret_w (Wi.w_no (by rw [← E.out]; exact B.out)), by repeat (first | exact Below.refl _ _ | (with_reducible assumption) | (with_reducible apply bal) | (with_reducible apply bdr) | (with_reducible apply bdnl) | (with_reducible refine bst ?_ (by first | (simp; done) | (simp; omega) | omega) _) | (with_reducible refine bt ?_ (by with_reducible assumption)))⟩
    · have hz : Wi.Sz s lo (Wi.ab x * Wi.ab a) := Wi.sz_of s1 s2 f9 f10 (by have := S.out; have := hs1.out; omega)
      by_cases g : (h < 0 ↔ a < 0)
      · have E2 : Wi.sg (Wi.ab x * Wi.ab a) false = x * a := by
          have B0 := B0.out
          rw [← E.out]; congr 1
          unfold Wi.ngb
          by_cases a1 : a < 0
          · have := g.2 a1
            have : x < 0 := by omega
            simp [a1, this]
          · have : ¬ x < 0 := fun q => a1 (g.1 (by omega))
            simp [a1, this]
        have E3 := Lib.hid E2
        clear E2
        by_cases a1 : a < 0
        · have a2 := g.2 a1
          clear g
          go_wp2_with fail
          refine (signed_c _ _ _ _ _ hz).mono ?_
          rw [E3.out]
          rintro e w2 ⟨rfl, hb2⟩
          have R2 := R.keep hb2
          obtain ⟨r0, r1, r2, r3⟩ := R2.open2
          go_wp2_with fail
          refine bodyPost_ret (by simp [results, Try.results41, go_sem, r0, r1, r2, r3]; try rfl) rfl ?_
          exact ⟨rfl, by repeat (first | exact Below.refl _ _ | (with_reducible assumption) | (with_reducible apply bal) | (with_reducible apply bdr) | (with_reducible apply bdnl) | (with_reducible refine bst ?_ (by first | (simp; done) | (simp; omega) | omega) _) | (with_reducible refine bt ?_ (by with_reducible assumption)))⟩
        · have a2 : ¬ h < 0 := fun q => a1 (g.1 q)
          clear g
          go_wp2_with fail
          refine (signed_c _ _ _ _ _ hz).mono ?_
          rw [E3.out]
          rintro e w2 ⟨rfl, hb2⟩
          have R2 := R.keep hb2
          obtain ⟨r0, r1, r2, r3⟩ := R2.open2
          go_wp2_with fail
          refine bodyPost_ret (by simp [results, Try.results41, go_sem, r0, r1, r2, r3]; try rfl) rfl ?_
          exact ⟨rfl, by repeat (first | exact Below.refl _ _ | (with_reducible assumption) | (with_reducible apply bal) | (with_reducible apply bdr) | (with_reducible apply bdnl) | (with_reducible refine bst ?_ (by first | (simp; done) | (simp; omega) | omega) _) | (with_reducible refine bt ?_ (by with_reducible assumption)))⟩
      · have E2 : Wi.sg (Wi.ab x * Wi.ab a) true = x * a := by
          have B0 := B0.out
          rw [← E.out]; congr 1
          unfold Wi.ngb
          by_cases a1 : a < 0
          · have : ¬ x < 0 := fun q => g ⟨fun _ => a1, fun _ => by omega⟩
            simp [a1, this]
          · have : x < 0 := by
              apply Classical.byContradiction
              intro q
              exact g ⟨fun _ => absurd (by omega) q, fun q => absurd q a1⟩
            simp [a1, this]
        have E3 := Lib.hid E2
        have G := Lib.hid g
        clear E2 g
        have g2 : (h < 0 ∧ ¬ a < 0) ∨ (¬ h < 0 ∧ a < 0) := by
          have := G.out
          by_cases a1 : h < 0 <;> by_cases a2 : a < 0 <;> simp [a1, a2] at this ⊢
        have g3 : (s = 0 ∧ lo = 0) ∨ (s = 0 ∧ (lo != 0) = true) ∨ ((s != 0) = true) := by
          by_cases a1 : s = 0
          · by_cases a2 : lo = 0
            · exact Or.inl ⟨a1, a2⟩
            · exact Or.inr (Or.inl ⟨a1, by simpa using a2⟩)
          · exact Or.inr (Or.inr (by simpa using a1))
        clear E
        rcases g3 with ⟨rfl, rfl⟩ | ⟨rfl, z2⟩ | z1
        · have E4 : Wi.sg (Wi.ab x * Wi.ab a) false = x * a := by
            have z := hz.bd
            have : Wi.ab x * Wi.ab a = 0 := by omega
            have e := E3.out
            rw [this] at e ⊢
            rw [sg_zero] at e ⊢
            exact e
          have E5 := Lib.hid E4
          clear E4 E3
          rcases g2 with ⟨a1, a2⟩ | ⟨a1, a2⟩
          all_goals
            first | have d := decide_eq_false a2 | have d := decide_eq_true a2
            first | have d' := decide_eq_false a1 | have d' := decide_eq_true a1
            go_wp2_with fail
            refine (signed_c _ _ _ _ _ hz).mono ?_
            rw [E5.out]
            rintro e w2 ⟨rfl, hb2⟩
            have R2 := R.keep hb2
            obtain ⟨r0, r1, r2, r3⟩ := R2.open2
            go_wp2_with fail
            refine bodyPost_ret (by simp [results, Try.results41, go_sem, r0, r1, r2, r3]; try rfl) rfl ?_
            exact ⟨rfl, by repeat (first | exact Below.refl _ _ | (with_reducible assumption) | (with_reducible apply bal) | (with_reducible apply bdr) | (with_reducible apply bdnl) | (with_reducible refine bst ?_ (by first | (simp; done) | (simp; omega) | omega) _) | (with_reducible refine bt ?_ (by with_reducible assumption)))⟩
        · rcases g2 with ⟨a1, a2⟩ | ⟨a1, a2⟩
          all_goals
            first | have d := decide_eq_false a2 | have d := decide_eq_true a2
            first | have d' := decide_eq_false a1 | have d' := decide_eq_true a1
            go_wp2_with fail
            refine (signed_c _ _ _ _ _ hz).mono ?_
            rw [E3.out]
            rintro e w2 ⟨rfl, hb2⟩
            have R2 := R.keep hb2
            obtain ⟨r0, r1, r2, r3⟩ := R2.open2
            go_wp2_with fail
            refine bodyPost_ret (by simp [results, Try.results41, go_sem, r0, r1, r2, r3]; try rfl) rfl ?_
            exact ⟨rfl, by repeat (first | exact Below.refl _ _ | (with_reducible assumption) | (with_reducible apply bal) | (with_reducible apply bdr) | (with_reducible apply bdnl) | (with_reducible refine bst ?_ (by first | (simp; done) | (simp; omega) | omega) _) | (with_reducible refine bt ?_ (by with_reducible assumption)))⟩
        · rcases g2 with ⟨a1, a2⟩ | ⟨a1, a2⟩
          all_goals
            first | have d := decide_eq_false a2 | have d := decide_eq_true a2
            first | have d' := decide_eq_false a1 | have d' := decide_eq_true a1
            go_wp2_with fail
            refine (signed_c _ _ _ _ _ hz).mono ?_
            rw [E3.out]
            rintro e w2 ⟨rfl, hb2⟩
            have R2 := R.keep hb2
            obtain ⟨r0, r1, r2, r3⟩ := R2.open2
            go_wp2_with fail
            refine bodyPost_ret (by simp [results, Try.results41, go_sem, r0, r1, r2, r3]; try rfl) rfl ?_
            exact ⟨rfl, by repeat (first | exact Below.refl _ _ | (with_reducible assumption) | (with_reducible apply bal) | (with_reducible apply bdr) | (with_reducible apply bdnl) | (with_reducible refine bst ?_ (by first | (simp; done) | (simp; omega) | omega) _) | (with_reducible refine bt ?_ (by with_reducible assumption)))⟩
  · have hb : (tp != 0) = true := by simpa using ht
    have B := Lib.hid (sg_big (s := Wi.ab x * Wi.ab a) (!Wi.ngb x == decide (a < 0)) (by have := S.out; have := hs1.out; omega))
    clear ht
    go_wp2_with fail
    refine bodyPost_ret (by simp [results, Try.results41, go_sem, r0, r1, r2, r3]; try rfl) rfl ?_
    exact ⟨ret_w (Wi.w_no (by rw [← E.out]; exact B.out)), by repeat (first | exact Below.refl _ _ | (with_reducible assumption) | (with_reducible apply bal) | (with_reducible apply bdr) | (with_reducible apply bdnl) | (with_reducible refine bst ?_ (by first | (simp; done) | (simp; omega) | omega) _) | (with_reducible refine bt ?_ (by with_reducible assumption)))⟩
end Go.Proofs.Ytnkgoojjnikaeaa
