/-
  Contracts: quotients, rounded.
-/
import Derived.Test.YtnkgoojjnikaeaaW4
import Derived.Test.YtnkgoojjnikaeaaW10
import Derived.Test.YtnkgoojjnikaeaaPlain3
namespace Go.Proofs.Ytnkgoojjnikaeaa
set_option linter.unusedVariables false
set_option linter.unusedSimpArgs false
open Go.RowKit

theorem pre_facts {x y : Int} (hx : Wi.inW x) (hy : Wi.inW y) (h0 : y ≠ 0) : Wi.inS (Wi.ab x) ∧ Wi.inS (Wi.ab y) ∧ 0 < Wi.ab y ∧ Wi.ab y ≤ 170141183460469231731687303715884105728 ∧ Wi.inS (Wi.ab x % Wi.ab y) ∧ Wi.inS (Wi.ab x / Wi.ab y) ∧ Wi.ab x / Wi.ab y < 340282366920938463463374607431768211455 ∧ Wi.ab x % Wi.ab y < Wi.ab y ∧ Wi.zb (Wi.ab y) = false := by
  have a := Wi.ab_bd hx
  have b := Wi.ab_bd hy
  have p := Wi.ab_pos' h0
  have m := Wi.rem_bd (x := x) h0
  have q := Wi.quo_bd (x := x) h0
  have a1 := a.1
  have b1 := b.1
  unfold Wi.inS at *
  exact ⟨a1, b1, p, b.2, ⟨m.1, by omega⟩, ⟨q.1, by omega⟩, by omega, m.2, decide_eq_false (by omega)⟩
set_option maxRecDepth 100000 in
set_option maxHeartbeats 2000000 in
theorem divide_0 (h l x h' l' way : Int) (w : World) (H : Wi.Wd h l x) (H' : Wi.Wd h' l' 0) : Calls Try.prog 47 #[.agg #[.int .i64 h, .int .u64 l], .agg #[.int .i64 h', .int .u64 l'], .int .i64 way] w fun e w' =>
    e = .returned (.tuple #[.agg #[.int .i64 0, .int .u64 0], .bool false]) ∧ Below w.heap.size w w' := by
  obtain ⟨y, hy⟩ : ∃ y : Int, y = 0 := ⟨0, rfl⟩
  rw [← hy] at H'
  have dS := (Wi.ab_bd H'.hv).1
  have z : Wi.zb (Wi.ab y) = true := by rw [hy]; decide
  have HY := Lib.hid hy
  clear hy
  go_enter Try.func47, Try.ntmps47
  go_wp2_with fail
  refine (split_c _ _ _ _ H).mono ?_
  rintro e w1 ⟨rfl, hb1⟩
  have Y := (Blk.new1 w _ _ _).alloc _ |>.keep hb1 |>.alloc (.cells #[.int .u64 (Wi.Hq (Wi.ab x)), .int .u64 (Wi.Lr (Wi.ab x))] 54)
  have R := (Blk.new2 w _ _ _ _).keep hb1 |>.alloc (.cells #[.int .u64 (Wi.Hq (Wi.ab x)), .int .u64 (Wi.Lr (Wi.ab x))] 54)
  have S := Blk.new w1 54 #[.int .u64 (Wi.Hq (Wi.ab x)), .int .u64 (Wi.Lr (Wi.ab x))]
  have hB := bal (bt (bal (bal (ba w _) _) _) hb1) (.cells #[.int .u64 (Wi.Hq (Wi.ab x)), .int .u64 (Wi.Lr (Wi.ab x))] 54)
  clear hb1
  obtain ⟨y0, y1, y2, y3⟩ := Y.open2
  go_wp2_with fail
  refine (split_c _ _ _ _ H').mono ?_
  rintro e w2 ⟨rfl, hb1⟩
  replace R := (R.keep hb1).alloc (.cells #[.int .u64 (Wi.Hq (Wi.ab y)), .int .u64 (Wi.Lr (Wi.ab y))] 54)
  replace S := (S.keep hb1).alloc (.cells #[.int .u64 (Wi.Hq (Wi.ab y)), .int .u64 (Wi.Lr (Wi.ab y))] 54)
  have E := Blk.new w2 54 #[.int .u64 (Wi.Hq (Wi.ab y)), .int .u64 (Wi.Lr (Wi.ab y))]
  replace hB := bal (bt hB hb1) (.cells #[.int .u64 (Wi.Hq (Wi.ab y)), .int .u64 (Wi.Lr (Wi.ab y))] 54)
  clear hb1 y0 y1 y2 y3 Y
  go_wp2_with fail
  refine (zero_c _ _ _ _ (Wi.sz_self dS)).mono ?_
  rintro e w3 ⟨rfl, hb1⟩
  replace R := R.keep hb1
  replace S := S.keep hb1
  replace E := E.keep hb1
  replace hB := bt hB hb1
  clear hb1
  obtain ⟨r0, r1, r2, r3⟩ := R.open2
  go_wp2_with fail
  refine bodyPost_ret (by simp [results, Try.results47, go_sem, r0, r1, r2, r3]; try rfl) rfl ?_
  exact ⟨rfl, by repeat (first | exact Below.refl _ _ | (with_reducible assumption) | (with_reducible apply bal) | (with_reducible apply bdr) | (with_reducible apply bdnl) | (with_reducible refine bst ?_ (by first | (simp; done) | (simp; omega) | omega) _) | (with_reducible refine bt ?_ (by with_reducible assumption)))⟩
set_option maxRecDepth 100000 in
set_option maxHeartbeats 4000000 in
theorem div_n (h l x h' l' y : Int) (w : World) (H : Wi.Wd h l x) (H' : Wi.Wd h' l' y) (h0 : y ≠ 0) : Calls Try.prog 47 #[.agg #[.int .i64 h, .int .u64 l], .agg #[.int .i64 h', .int .u64 l'], .int .i64 (-1)] w fun e w' =>
    e = .returned (.tuple #[.agg #[.int .i64 (Wi.Hq (Wi.rv (Wi.dv x y (-1)))), .int .u64 (Wi.Lr (Wi.rv (Wi.dv x y (-1))))], .bool (Wi.okb (Wi.dv x y (-1)))]) ∧ Below w.heap.size w w' := by
  obtain ⟨sS, dS, dp, dm, mS, qS, qm, ml, hzd⟩ := pre_facts H.hv H'.hv h0
  have hm0 := mS.1
  have HD := Lib.hid h0
  clear h0
  go_enter Try.func47, Try.ntmps47
  go_wp2_with fail
  refine (split_c _ _ _ _ H).mono ?_
  rintro e w1 ⟨rfl, hb1⟩
  have Y := (Blk.new1 w _ _ _).alloc _ |>.keep hb1 |>.alloc (.cells #[.int .u64 (Wi.Hq (Wi.ab x)), .int .u64 (Wi.Lr (Wi.ab x))] 54)
  have R := (Blk.new2 w _ _ _ _).keep hb1 |>.alloc (.cells #[.int .u64 (Wi.Hq (Wi.ab x)), .int .u64 (Wi.Lr (Wi.ab x))] 54)
  have S := Blk.new w1 54 #[.int .u64 (Wi.Hq (Wi.ab x)), .int .u64 (Wi.Lr (Wi.ab x))]
  have hB := bal (bt (bal (bal (ba w _) _) _) hb1) (.cells #[.int .u64 (Wi.Hq (Wi.ab x)), .int .u64 (Wi.Lr (Wi.ab x))] 54)
  clear hb1
  obtain ⟨y0, y1, y2, y3⟩ := Y.open2
  go_wp2_with fail
  refine (split_c _ _ _ _ H').mono ?_
  rintro e w2 ⟨rfl, hb1⟩
  replace R := (R.keep hb1).alloc (.cells #[.int .u64 (Wi.Hq (Wi.ab y)), .int .u64 (Wi.Lr (Wi.ab y))] 54)
  replace S := (S.keep hb1).alloc (.cells #[.int .u64 (Wi.Hq (Wi.ab y)), .int .u64 (Wi.Lr (Wi.ab y))] 54)
  have E := Blk.new w2 54 #[.int .u64 (Wi.Hq (Wi.ab y)), .int .u64 (Wi.Lr (Wi.ab y))]
  replace hB := bal (bt hB hb1) (.cells #[.int .u64 (Wi.Hq (Wi.ab y)), .int .u64 (Wi.Lr (Wi.ab y))] 54)
  clear hb1 y0 y1 y2 y3 Y
  go_wp2_with fail
  refine (zero_c _ _ _ _ (Wi.sz_self dS)).mono ?_
  rintro e w3 ⟨rfl, hb1⟩
  replace R := R.keep hb1
  replace S := S.keep hb1
  replace E := E.keep hb1
  replace hB := bt hB hb1
  clear hb1
  obtain ⟨s0, s1, s2, s3⟩ := S.open2
  obtain ⟨d0, d1, d2, d3⟩ := E.open2
  go_wp2_with fail
  refine (over_c _ _ _ _ _ _ _ (Wi.sz_self sS) (Wi.sz_self dS) dp dm).mono ?_
  rintro e w4 ⟨rfl, hb1⟩
  clear s0 s1 s2 s3 d0 d1 d2 d3 S
  have hR4 := (R.keep hb1).lt
  replace R := (R.keep hb1).alloc (.cells #[.int .u64 (Wi.Hq (Wi.ab x / Wi.ab y)), .int .u64 (Wi.Lr (Wi.ab x / Wi.ab y))] 54) |>.alloc (.cells #[.int .u64 (Wi.Hq (Wi.ab x % Wi.ab y)), .int .u64 (Wi.Lr (Wi.ab x % Wi.ab y))] 54)
  replace E := (E.keep hb1).alloc (.cells #[.int .u64 (Wi.Hq (Wi.ab x / Wi.ab y)), .int .u64 (Wi.Lr (Wi.ab x / Wi.ab y))] 54) |>.alloc (.cells #[.int .u64 (Wi.Hq (Wi.ab x % Wi.ab y)), .int .u64 (Wi.Lr (Wi.ab x % Wi.ab y))] 54)
  have Q := (Blk.new w4 54 #[.int .u64 (Wi.Hq (Wi.ab x / Wi.ab y)), .int .u64 (Wi.Lr (Wi.ab x / Wi.ab y))]).alloc (.cells #[.int .u64 (Wi.Hq (Wi.ab x % Wi.ab y)), .int .u64 (Wi.Lr (Wi.ab x % Wi.ab y))] 54)
  have M := Blk.new1 w4 (.cells #[.int .u64 (Wi.Hq (Wi.ab x / Wi.ab y)), .int .u64 (Wi.Lr (Wi.ab x / Wi.ab y))] 54) 54 #[.int .u64 (Wi.Hq (Wi.ab x % Wi.ab y)), .int .u64 (Wi.Lr (Wi.ab x % Wi.ab y))]
  replace hB := bal (bal (bt hB hb1) (.cells #[.int .u64 (Wi.Hq (Wi.ab x / Wi.ab y)), .int .u64 (Wi.Lr (Wi.ab x / Wi.ab y))] 54)) (.cells #[.int .u64 (Wi.Hq (Wi.ab x % Wi.ab y)), .int .u64 (Wi.Lr (Wi.ab x % Wi.ab y))] 54)
  clear hb1
  go_wp2_with fail
  refine (zero_c _ _ _ _ (Wi.sz_self mS)).mono ?_
  rintro e w5 ⟨rfl, hb1⟩
  replace R := R.keep hb1
  replace E := E.keep hb1
  replace Q := Q.keep hb1
  replace M := M.keep hb1
  replace hB := bt hB hb1
  clear hb1
  obtain ⟨q0, q1, q2, q3⟩ := Q.open2
  obtain ⟨m0, m1, m2, m3⟩ := M.open2
  obtain ⟨d0, d1, d2, d3⟩ := E.open2
  rcases hzb : Wi.zb (Wi.ab x % Wi.ab y) with _ | _
  · rcases hng : (!Wi.ngb x == Wi.ngb y) with _ | _
    · have HA := Lib.hid (show Wi.awb x y (-1) = false from by unfold Wi.awb; rw [if_neg (by decide), hzb, show Wi.ngq x y = false from hng]; simp)
      have hz := Wi.sz_self qS
      have JE := Lib.hid (show Wi.sg (Wi.ab x / Wi.ab y) false = Wi.dv x y (-1) from by unfold Wi.dv; rw [Wi.qs_f HA.out, show Wi.ngq x y = false from hng])
      go_wp2_with fail
      refine (join_c _ _ _ _ _ hz).mono ?_
      rw [JE.out]
      rintro e w7 ⟨rfl, hb1⟩
      replace R := R.keep hb1
      obtain ⟨r0, r1, r2, r3⟩ := R.open2
      replace hB := bt hB hb1
      clear hb1
      go_wp2_with fail
      refine bodyPost_ret (by simp [results, Try.results47, go_sem, r0, r1, r2, r3]; try rfl) rfl ?_
      exact ⟨rfl, by repeat (first | exact Below.refl _ _ | (with_reducible assumption) | (with_reducible apply bal) | (with_reducible apply bdr) | (with_reducible apply bdnl) | (with_reducible refine bst ?_ (by first | (simp; done) | (simp; omega) | omega) _) | (with_reducible refine bt ?_ (by with_reducible assumption)))⟩
    · have HA := Lib.hid (show Wi.awb x y (-1) = true from by unfold Wi.awb; rw [if_neg (by decide), hzb, show Wi.ngq x y = true from hng]; simp)
      have JE := Lib.hid (show Wi.sg (Wi.ab x / Wi.ab y + 1) true = Wi.dv x y (-1) from by unfold Wi.dv; rw [Wi.qs_t HA.out, show Wi.ngq x y = true from hng])
      obtain ⟨t, k, t1, t2, k1, k2, ht, eq⟩ := add_ex (Wi.Lr (Wi.ab x / Wi.ab y)) 1 0 (Wi.Lr_bd _).1 (Wi.Lr_bd _).2 (by omega) (by omega) (by omega) (by omega)
      have hh : 0 ≤ Wi.Hq (Wi.ab x / Wi.ab y) ∧ Wi.Hq (Wi.ab x / Wi.ab y) + k ≤ 18446744073709551615 := by have e := ht.out; have e2 := Wi.HL (Wi.ab x / Wi.ab y); have e3 := Wi.Lr_bd (Wi.ab x / Wi.ab y); have := qS.1; omega
      have hh1 := hh.1
      have hh2 := hh.2
      have hz : Wi.Sz (Wi.Hq (Wi.ab x / Wi.ab y) + k) t (Wi.ab x / Wi.ab y + 1) := Wi.sz_of (by omega) hh2 t1 t2 (by have e := ht.out; have e2 := Wi.HL (Wi.ab x / Wi.ab y); omega)
      clear hh
      go_wp2_with (simp only [eq])
      replace hB := bst (bst hB (p := ⟨w4.heap.size, 0, none⟩) (by show w.heap.size ≤ w4.heap.size; omega) (.int .u64 (Wi.Hq (Wi.ab x / Wi.ab y) + k))) (p := ⟨w4.heap.size, 1, none⟩) (by show w.heap.size ≤ w4.heap.size; omega) (.int .u64 t)
      replace R := (R.far (p := ⟨w4.heap.size, 0, none⟩) (by show w.heap.size + 1 + 1 ≠ w4.heap.size; omega) (.int .u64 (Wi.Hq (Wi.ab x / Wi.ab y) + k))).far (p := ⟨w4.heap.size, 1, none⟩) (by show w.heap.size + 1 + 1 ≠ w4.heap.size; omega) (.int .u64 t)
      refine (join_c _ _ _ _ _ hz).mono ?_
      rw [JE.out]
      rintro e w7 ⟨rfl, hb1⟩
      replace R := R.keep hb1
      obtain ⟨r0, r1, r2, r3⟩ := R.open2
      replace hB := bt hB hb1
      clear hb1
      go_wp2_with fail
      refine bodyPost_ret (by simp [results, Try.results47, go_sem, r0, r1, r2, r3]; try rfl) rfl ?_
      exact ⟨rfl, by repeat (first | exact Below.refl _ _ | (with_reducible assumption) | (with_reducible apply bal) | (with_reducible apply bdr) | (with_reducible apply bdnl) | (with_reducible refine bst ?_ (by first | (simp; done) | (simp; omega) | omega) _) | (with_reducible refine bt ?_ (by with_reducible assumption)))⟩
  · have HA := Lib.hid (show Wi.awb x y (-1) = false from by unfold Wi.awb; rw [if_neg (by decide), hzb]; simp)
    have hz := Wi.sz_self qS
    have JE := Lib.hid (show Wi.sg (Wi.ab x / Wi.ab y) (!Wi.ngb x == Wi.ngb y) = Wi.dv x y (-1) from by unfold Wi.dv; rw [Wi.qs_f HA.out]; rfl)
    go_wp2_with fail
    refine (join_c _ _ _ _ _ hz).mono ?_
    rw [JE.out]
    rintro e w7 ⟨rfl, hb1⟩
    replace R := R.keep hb1
    obtain ⟨r0, r1, r2, r3⟩ := R.open2
    replace hB := bt hB hb1
    clear hb1
    go_wp2_with fail
    refine bodyPost_ret (by simp [results, Try.results47, go_sem, r0, r1, r2, r3]; try rfl) rfl ?_
    exact ⟨rfl, by repeat (first | exact Below.refl _ _ | (with_reducible assumption) | (with_reducible apply bal) | (with_reducible apply bdr) | (with_reducible apply bdnl) | (with_reducible refine bst ?_ (by first | (simp; done) | (simp; omega) | omega) _) | (with_reducible refine bt ?_ (by with_reducible assumption)))⟩
set_option maxRecDepth 100000 in
set_option maxHeartbeats 4000000 in
theorem divup_n (h l x h' l' y : Int) (w : World) (H : Wi.Wd h l x) (H' : Wi.Wd h' l' y) (h0 : y ≠ 0) : Calls Try.prog 47 #[.agg #[.int .i64 h, .int .u64 l], .agg #[.int .i64 h', .int .u64 l'], .int .i64 (1)] w fun e w' =>
    e = .returned (.tuple #[.agg #[.int .i64 (Wi.Hq (Wi.rv (Wi.dv x y (1)))), .int .u64 (Wi.Lr (Wi.rv (Wi.dv x y (1))))], .bool (Wi.okb (Wi.dv x y (1)))]) ∧ Below w.heap.size w w' := by
  obtain ⟨sS, dS, dp, dm, mS, qS, qm, ml, hzd⟩ := pre_facts H.hv H'.hv h0
  have hm0 := mS.1
  have HD := Lib.hid h0
  clear h0
  go_enter Try.func47, Try.ntmps47
  go_wp2_with fail
  refine (split_c _ _ _ _ H).mono ?_
  rintro e w1 ⟨rfl, hb1⟩
  have Y := (Blk.new1 w _ _ _).alloc _ |>.keep hb1 |>.alloc (.cells #[.int .u64 (Wi.Hq (Wi.ab x)), .int .u64 (Wi.Lr (Wi.ab x))] 54)
  have R := (Blk.new2 w _ _ _ _).keep hb1 |>.alloc (.cells #[.int .u64 (Wi.Hq (Wi.ab x)), .int .u64 (Wi.Lr (Wi.ab x))] 54)
  have S := Blk.new w1 54 #[.int .u64 (Wi.Hq (Wi.ab x)), .int .u64 (Wi.Lr (Wi.ab x))]
  have hB := bal (bt (bal (bal (ba w _) _) _) hb1) (.cells #[.int .u64 (Wi.Hq (Wi.ab x)), .int .u64 (Wi.Lr (Wi.ab x))] 54)
  clear hb1
  obtain ⟨y0, y1, y2, y3⟩ := Y.open2
  go_wp2_with fail
  refine (split_c _ _ _ _ H').mono ?_
  rintro e w2 ⟨rfl, hb1⟩
  replace R := (R.keep hb1).alloc (.cells #[.int .u64 (Wi.Hq (Wi.ab y)), .int .u64 (Wi.Lr (Wi.ab y))] 54)
  replace S := (S.keep hb1).alloc (.cells #[.int .u64 (Wi.Hq (Wi.ab y)), .int .u64 (Wi.Lr (Wi.ab y))] 54)
  have E := Blk.new w2 54 #[.int .u64 (Wi.Hq (Wi.ab y)), .int .u64 (Wi.Lr (Wi.ab y))]
  replace hB := bal (bt hB hb1) (.cells #[.int .u64 (Wi.Hq (Wi.ab y)), .int .u64 (Wi.Lr (Wi.ab y))] 54)
  clear hb1 y0 y1 y2 y3 Y
  go_wp2_with fail
  refine (zero_c _ _ _ _ (Wi.sz_self dS)).mono ?_
  rintro e w3 ⟨rfl, hb1⟩
  replace R := R.keep hb1
  replace S := S.keep hb1
  replace E := E.keep hb1
  replace hB := bt hB hb1
  clear hb1
  obtain ⟨s0, s1, s2, s3⟩ := S.open2
  obtain ⟨d0, d1, d2, d3⟩ := E.open2
  go_wp2_with fail
  refine (over_c _ _ _ _ _ _ _ (Wi.sz_self sS) (Wi.sz_self dS) dp dm).mono ?_
  rintro e w4 ⟨rfl, hb1⟩
  clear s0 s1 s2 s3 d0 d1 d2 d3 S
  have hR4 := (R.keep hb1).lt
  replace R := (R.keep hb1).alloc (.cells #[.int .u64 (Wi.Hq (Wi.ab x / Wi.ab y)), .int .u64 (Wi.Lr (Wi.ab x / Wi.ab y))] 54) |>.alloc (.cells #[.int .u64 (Wi.Hq (Wi.ab x % Wi.ab y)), .int .u64 (Wi.Lr (Wi.ab x % Wi.ab y))] 54)
  replace E := (E.keep hb1).alloc (.cells #[.int .u64 (Wi.Hq (Wi.ab x / Wi.ab y)), .int .u64 (Wi.Lr (Wi.ab x / Wi.ab y))] 54) |>.alloc (.cells #[.int .u64 (Wi.Hq (Wi.ab x % Wi.ab y)), .int .u64 (Wi.Lr (Wi.ab x % Wi.ab y))] 54)
  have Q := (Blk.new w4 54 #[.int .u64 (Wi.Hq (Wi.ab x / Wi.ab y)), .int .u64 (Wi.Lr (Wi.ab x / Wi.ab y))]).alloc (.cells #[.int .u64 (Wi.Hq (Wi.ab x % Wi.ab y)), .int .u64 (Wi.Lr (Wi.ab x % Wi.ab y))] 54)
  have M := Blk.new1 w4 (.cells #[.int .u64 (Wi.Hq (Wi.ab x / Wi.ab y)), .int .u64 (Wi.Lr (Wi.ab x / Wi.ab y))] 54) 54 #[.int .u64 (Wi.Hq (Wi.ab x % Wi.ab y)), .int .u64 (Wi.Lr (Wi.ab x % Wi.ab y))]
  replace hB := bal (bal (bt hB hb1) (.cells #[.int .u64 (Wi.Hq (Wi.ab x / Wi.ab y)), .int .u64 (Wi.Lr (Wi.ab x / Wi.ab y))] 54)) (.cells #[.int .u64 (Wi.Hq (Wi.ab x % Wi.ab y)), .int .u64 (Wi.Lr (Wi.ab x % Wi.ab y))] 54)
  clear hb1
  go_wp2_with fail
  refine (zero_c _ _ _ _ (Wi.sz_self mS)).mono ?_
  rintro e w5 ⟨rfl, hb1⟩
  replace R := R.keep hb1
  replace E := E.keep hb1
  replace Q := Q.keep hb1
  replace M := M.keep hb1
  replace hB := bt hB hb1
  clear hb1
  obtain ⟨q0, q1, q2, q3⟩ := Q.open2
  obtain ⟨m0, m1, m2, m3⟩ := M.open2
  obtain ⟨d0, d1, d2, d3⟩ := E.open2
  rcases hzb : Wi.zb (Wi.ab x % Wi.ab y) with _ | _
  · rcases hng : (!Wi.ngb x == Wi.ngb y) with _ | _
    · have HA := Lib.hid (show Wi.awb x y (1) = true from by unfold Wi.awb; rw [if_neg (by decide), hzb, show Wi.ngq x y = false from hng]; simp)
      have JE := Lib.hid (show Wi.sg (Wi.ab x / Wi.ab y + 1) false = Wi.dv x y (1) from by unfold Wi.dv; rw [Wi.qs_t HA.out, show Wi.ngq x y = false from hng])
      obtain ⟨t, k, t1, t2, k1, k2, ht, eq⟩ := add_ex (Wi.Lr (Wi.ab x / Wi.ab y)) 1 0 (Wi.Lr_bd _).1 (Wi.Lr_bd _).2 (by omega) (by omega) (by omega) (by omega)
      have hh : 0 ≤ Wi.Hq (Wi.ab x / Wi.ab y) ∧ Wi.Hq (Wi.ab x / Wi.ab y) + k ≤ 18446744073709551615 := by have e := ht.out; have e2 := Wi.HL (Wi.ab x / Wi.ab y); have e3 := Wi.Lr_bd (Wi.ab x / Wi.ab y); have := qS.1; omega
      have hh1 := hh.1
      have hh2 := hh.2
      have hz : Wi.Sz (Wi.Hq (Wi.ab x / Wi.ab y) + k) t (Wi.ab x / Wi.ab y + 1) := Wi.sz_of (by omega) hh2 t1 t2 (by have e := ht.out; have e2 := Wi.HL (Wi.ab x / Wi.ab y); omega)
      clear hh
      go_wp2_with (simp only [eq])
      replace hB := bst (bst hB (p := ⟨w4.heap.size, 0, none⟩) (by show w.heap.size ≤ w4.heap.size; omega) (.int .u64 (Wi.Hq (Wi.ab x / Wi.ab y) + k))) (p := ⟨w4.heap.size, 1, none⟩) (by show w.heap.size ≤ w4.heap.size; omega) (.int .u64 t)
      replace R := (R.far (p := ⟨w4.heap.size, 0, none⟩) (by show w.heap.size + 1 + 1 ≠ w4.heap.size; omega) (.int .u64 (Wi.Hq (Wi.ab x / Wi.ab y) + k))).far (p := ⟨w4.heap.size, 1, none⟩) (by show w.heap.size + 1 + 1 ≠ w4.heap.size; omega) (.int .u64 t)
      refine (join_c _ _ _ _ _ hz).mono ?_
      rw [JE.out]
      rintro e w7 ⟨rfl, hb1⟩
      replace R := R.keep hb1
      obtain ⟨r0, r1, r2, r3⟩ := R.open2
      replace hB := bt hB hb1
      clear hb1
      go_wp2_with fail
      refine bodyPost_ret (by simp [results, Try.results47, go_sem, r0, r1, r2, r3]; try rfl) rfl ?_
      exact ⟨rfl, by repeat (first | exact Below.refl _ _ | (with_reducible assumption) | (with_reducible apply bal) | (with_reducible apply bdr) | (with_reducible apply bdnl) | (with_reducible refine bst ?_ (by first | (simp; done) | (simp; omega) | omega) _) | (with_reducible refine bt ?_ (by with_reducible assumption)))⟩
    · have HA := Lib.hid (show Wi.awb x y (1) = false from by unfold Wi.awb; rw [if_neg (by decide), hzb, show Wi.ngq x y = true from hng]; simp)
      have hz := Wi.sz_self qS
      have JE := Lib.hid (show Wi.sg (Wi.ab x / Wi.ab y) true = Wi.dv x y (1) from by unfold Wi.dv; rw [Wi.qs_f HA.out, show Wi.ngq x y = true from hng])
      go_wp2_with fail
      refine (join_c _ _ _ _ _ hz).mono ?_
      rw [JE.out]
      rintro e w7 ⟨rfl, hb1⟩
      replace R := R.keep hb1
      obtain ⟨r0, r1, r2, r3⟩ := R.open2
      replace hB := bt hB hb1
      clear hb1
      go_wp2_with fail
      refine bodyPost_ret (by simp [results, Try.results47, go_sem, r0, r1, r2, r3]; try rfl) rfl ?_
      exact ⟨rfl, by repeat (first | exact Below.refl _ _ | (with_reducible assumption) | (with_reducible apply bal) | (with_reducible apply bdr) | (with_reducible apply bdnl) | (with_reducible refine bst ?_ (by first | (simp; done) | (simp; omega) | omega) _) | (with_reducible refine bt ?_ (by with_reducible assumption)))⟩
  · have HA := Lib.hid (show Wi.awb x y (1) = false from by unfold Wi.awb; rw [if_neg (by decide), hzb]; simp)
    have hz := Wi.sz_self qS
    have JE := Lib.hid (show Wi.sg (Wi.ab x / Wi.ab y) (!Wi.ngb x == Wi.ngb y) = Wi.dv x y (1) from by unfold Wi.dv; rw [Wi.qs_f HA.out]; rfl)
    go_wp2_with fail
    refine (join_c _ _ _ _ _ hz).mono ?_
    rw [JE.out]
    rintro e w7 ⟨rfl, hb1⟩
    replace R := R.keep hb1
    obtain ⟨r0, r1, r2, r3⟩ := R.open2
    replace hB := bt hB hb1
    clear hb1
    go_wp2_with fail
    refine bodyPost_ret (by simp [results, Try.results47, go_sem, r0, r1, r2, r3]; try rfl) rfl ?_
    exact ⟨rfl, by repeat (first | exact Below.refl _ _ | (with_reducible assumption) | (with_reducible apply bal) | (with_reducible apply bdr) | (with_reducible apply bdnl) | (with_reducible refine bst ?_ (by first | (simp; done) | (simp; omega) | omega) _) | (with_reducible refine bt ?_ (by with_reducible assumption)))⟩
set_option maxRecDepth 100000 in
set_option maxHeartbeats 4000000 in
theorem near_n (h l x h' l' y : Int) (w : World) (H : Wi.Wd h l x) (H' : Wi.Wd h' l' y) (h0 : y ≠ 0) : Calls Try.prog 47 #[.agg #[.int .i64 h, .int .u64 l], .agg #[.int .i64 h', .int .u64 l'], .int .i64 (0)] w fun e w' =>
    e = .returned (.tuple #[.agg #[.int .i64 (Wi.Hq (Wi.rv (Wi.dv x y (0)))), .int .u64 (Wi.Lr (Wi.rv (Wi.dv x y (0))))], .bool (Wi.okb (Wi.dv x y (0)))]) ∧ Below w.heap.size w w' := by
  obtain ⟨sS, dS, dp, dm, mS, qS, qm, ml, hzd⟩ := pre_facts H.hv H'.hv h0
  have hm0 := mS.1
  have HD := Lib.hid h0
  clear h0
  go_enter Try.func47, Try.ntmps47
  go_wp2_with fail
  refine (split_c _ _ _ _ H).mono ?_
  rintro e w1 ⟨rfl, hb1⟩
  have Y := (Blk.new1 w _ _ _).alloc _ |>.keep hb1 |>.alloc (.cells #[.int .u64 (Wi.Hq (Wi.ab x)), .int .u64 (Wi.Lr (Wi.ab x))] 54)
  have R := (Blk.new2 w _ _ _ _).keep hb1 |>.alloc (.cells #[.int .u64 (Wi.Hq (Wi.ab x)), .int .u64 (Wi.Lr (Wi.ab x))] 54)
  have S := Blk.new w1 54 #[.int .u64 (Wi.Hq (Wi.ab x)), .int .u64 (Wi.Lr (Wi.ab x))]
  have hB := bal (bt (bal (bal (ba w _) _) _) hb1) (.cells #[.int .u64 (Wi.Hq (Wi.ab x)), .int .u64 (Wi.Lr (Wi.ab x))] 54)
  clear hb1
  obtain ⟨y0, y1, y2, y3⟩ := Y.open2
  go_wp2_with fail
  refine (split_c _ _ _ _ H').mono ?_
  rintro e w2 ⟨rfl, hb1⟩
  replace R := (R.keep hb1).alloc (.cells #[.int .u64 (Wi.Hq (Wi.ab y)), .int .u64 (Wi.Lr (Wi.ab y))] 54)
  replace S := (S.keep hb1).alloc (.cells #[.int .u64 (Wi.Hq (Wi.ab y)), .int .u64 (Wi.Lr (Wi.ab y))] 54)
  have E := Blk.new w2 54 #[.int .u64 (Wi.Hq (Wi.ab y)), .int .u64 (Wi.Lr (Wi.ab y))]
  replace hB := bal (bt hB hb1) (.cells #[.int .u64 (Wi.Hq (Wi.ab y)), .int .u64 (Wi.Lr (Wi.ab y))] 54)
  clear hb1 y0 y1 y2 y3 Y
  go_wp2_with fail
  refine (zero_c _ _ _ _ (Wi.sz_self dS)).mono ?_
  rintro e w3 ⟨rfl, hb1⟩
  replace R := R.keep hb1
  replace S := S.keep hb1
  replace E := E.keep hb1
  replace hB := bt hB hb1
  clear hb1
  obtain ⟨s0, s1, s2, s3⟩ := S.open2
  obtain ⟨d0, d1, d2, d3⟩ := E.open2
  go_wp2_with fail
  refine (over_c _ _ _ _ _ _ _ (Wi.sz_self sS) (Wi.sz_self dS) dp dm).mono ?_
  rintro e w4 ⟨rfl, hb1⟩
  clear s0 s1 s2 s3 d0 d1 d2 d3 S
  have hR4 := (R.keep hb1).lt
  replace R := (R.keep hb1).alloc (.cells #[.int .u64 (Wi.Hq (Wi.ab x / Wi.ab y)), .int .u64 (Wi.Lr (Wi.ab x / Wi.ab y))] 54) |>.alloc (.cells #[.int .u64 (Wi.Hq (Wi.ab x % Wi.ab y)), .int .u64 (Wi.Lr (Wi.ab x % Wi.ab y))] 54)
  replace E := (E.keep hb1).alloc (.cells #[.int .u64 (Wi.Hq (Wi.ab x / Wi.ab y)), .int .u64 (Wi.Lr (Wi.ab x / Wi.ab y))] 54) |>.alloc (.cells #[.int .u64 (Wi.Hq (Wi.ab x % Wi.ab y)), .int .u64 (Wi.Lr (Wi.ab x % Wi.ab y))] 54)
  have Q := (Blk.new w4 54 #[.int .u64 (Wi.Hq (Wi.ab x / Wi.ab y)), .int .u64 (Wi.Lr (Wi.ab x / Wi.ab y))]).alloc (.cells #[.int .u64 (Wi.Hq (Wi.ab x % Wi.ab y)), .int .u64 (Wi.Lr (Wi.ab x % Wi.ab y))] 54)
  have M := Blk.new1 w4 (.cells #[.int .u64 (Wi.Hq (Wi.ab x / Wi.ab y)), .int .u64 (Wi.Lr (Wi.ab x / Wi.ab y))] 54) 54 #[.int .u64 (Wi.Hq (Wi.ab x % Wi.ab y)), .int .u64 (Wi.Lr (Wi.ab x % Wi.ab y))]
  replace hB := bal (bal (bt hB hb1) (.cells #[.int .u64 (Wi.Hq (Wi.ab x / Wi.ab y)), .int .u64 (Wi.Lr (Wi.ab x / Wi.ab y))] 54)) (.cells #[.int .u64 (Wi.Hq (Wi.ab x % Wi.ab y)), .int .u64 (Wi.Lr (Wi.ab x % Wi.ab y))] 54)
  clear hb1
  go_wp2_with fail
  refine (zero_c _ _ _ _ (Wi.sz_self mS)).mono ?_
  rintro e w5 ⟨rfl, hb1⟩
  replace R := R.keep hb1
  replace E := E.keep hb1
  replace Q := Q.keep hb1
  replace M := M.keep hb1
  replace hB := bt hB hb1
  clear hb1
  obtain ⟨q0, q1, q2, q3⟩ := Q.open2
  obtain ⟨m0, m1, m2, m3⟩ := M.open2
  obtain ⟨d0, d1, d2, d3⟩ := E.open2
  have SM := Lib.hid (show Wi.ab x % Wi.ab y ≤ Wi.ab y by omega)
  have SS := Lib.hid (show Wi.inS (Wi.ab y - Wi.ab x % Wi.ab y) from ⟨by omega, by have := dS.2; omega⟩)
  rcases hzb : Wi.zb (Wi.ab x % Wi.ab y) with _ | _
  · rcases Int.lt_trichotomy (Wi.ab x % Wi.ab y) (Wi.ab y - Wi.ab x % Wi.ab y) with hc | hc | hc
    · have hcm : Wi.cm (Wi.ab x % Wi.ab y) (Wi.ab y - Wi.ab x % Wi.ab y) = -1 := Wi.cm_lt (by omega)
      have HA := Lib.hid (show Wi.awb x y 0 = false from by
        have a1 : decide (Wi.ab y - Wi.ab x % Wi.ab y < Wi.ab x % Wi.ab y) = false := decide_eq_false (by omega)
        have a2 : decide (Wi.ab x % Wi.ab y = Wi.ab y - Wi.ab x % Wi.ab y) = false := decide_eq_false (by omega)
        unfold Wi.awb; rw [if_pos rfl, a1, a2]; rfl)
      clear hc
      go_wp2_with fail
      clear q0 q1 q2 q3 m0 m1 m2 m3 d0 d1 d2 d3
      have hreg : ∀ w', Below w5.heap.size w5 w' → Below w5.heap.size w5 w' ∧ w'.cell? ⟨w4.heap.size + 1, 0, none⟩ = some (.int .u64 (Wi.Hq (Wi.ab x % Wi.ab y))) ∧ w'.cell? ⟨w4.heap.size + 1, 1, none⟩ = some (.int .u64 (Wi.Lr (Wi.ab x % Wi.ab y))) ∧ w'.cell? ⟨w2.heap.size, 0, none⟩ = some (.int .u64 (Wi.Hq (Wi.ab y))) ∧ w'.cell? ⟨w2.heap.size, 1, none⟩ = some (.int .u64 (Wi.Lr (Wi.ab y))) := fun w' h => ⟨h, (M.keep h).cell 0, (M.keep h).cell 1, (E.keep h).cell 0, (E.keep h).cell 1⟩
      go_region_held3 (fun w' => Below w5.heap.size w5 w' ∧ w'.cell? ⟨w4.heap.size + 1, 0, none⟩ = some (.int .u64 (Wi.Hq (Wi.ab x % Wi.ab y))) ∧ w'.cell? ⟨w4.heap.size + 1, 1, none⟩ = some (.int .u64 (Wi.Lr (Wi.ab x % Wi.ab y))) ∧ w'.cell? ⟨w2.heap.size, 0, none⟩ = some (.int .u64 (Wi.Hq (Wi.ab y))) ∧ w'.cell? ⟨w2.heap.size, 1, none⟩ = some (.int .u64 (Wi.Lr (Wi.ab y)))) (first | exact hreg _ (Below.refl _ _).drew | exact keepR hreg hbn (by assumption)) (first | (go_at_call 67; refine (less_c _ _ _ _ _ _ _ (Wi.sz_self dS) (Wi.sz_self mS) SM.out).mono ?_; rintro e wn ⟨rfl, hbn⟩) | (go_at_call 50; refine (scmp_c _ _ _ _ _ _ _ (Wi.sz_self mS) (Wi.sz_self SS.out)).mono ?_; rintro e wn ⟨rfl, hbn⟩))
      rename_i hSS
      have hb5 := hSS.1
      clear hSS hreg
      replace R := R.keep hb5
      replace Q := Q.keep hb5
      replace hB := bt hB hb5
      clear hb5 E M
      obtain ⟨q0, q1, q2, q3⟩ := Q.open2
      have hz := Wi.sz_self qS
      have JE := Lib.hid (show Wi.sg (Wi.ab x / Wi.ab y) (!Wi.ngb x == Wi.ngb y) = Wi.dv x y (0) from by unfold Wi.dv; rw [Wi.qs_f HA.out]; rfl)
      go_wp2_with fail
      refine (join_c _ _ _ _ _ hz).mono ?_
      rw [JE.out]
      rintro e w7 ⟨rfl, hb1⟩
      replace R := R.keep hb1
      obtain ⟨r0, r1, r2, r3⟩ := R.open2
      replace hB := bt hB hb1
      clear hb1
      go_wp2_with fail
      refine bodyPost_ret (by simp [results, Try.results47, go_sem, r0, r1, r2, r3]; try rfl) rfl ?_
      exact ⟨rfl, by repeat (first | exact Below.refl _ _ | (with_reducible assumption) | (with_reducible apply bal) | (with_reducible apply bdr) | (with_reducible apply bdnl) | (with_reducible refine bst ?_ (by first | (simp; done) | (simp; omega) | omega) _) | (with_reducible refine bt ?_ (by with_reducible assumption)))⟩
    · rcases hng : (!Wi.ngb x == Wi.ngb y) with _ | _
      · have hcm : Wi.cm (Wi.ab x % Wi.ab y) (Wi.ab y - Wi.ab x % Wi.ab y) = 0 := Wi.cm_eq (by omega)
        have HA := Lib.hid (show Wi.awb x y 0 = true from by
          have a1 : decide (Wi.ab y - Wi.ab x % Wi.ab y < Wi.ab x % Wi.ab y) = false := decide_eq_false (by omega)
          have a2 : decide (Wi.ab x % Wi.ab y = Wi.ab y - Wi.ab x % Wi.ab y) = true := decide_eq_true (by omega)
          unfold Wi.awb; rw [if_pos rfl, a1, a2, show Wi.ngq x y = false from hng]; rfl)
        clear hc
        go_wp2_with fail
        clear q0 q1 q2 q3 m0 m1 m2 m3 d0 d1 d2 d3
        have hreg : ∀ w', Below w5.heap.size w5 w' → Below w5.heap.size w5 w' ∧ w'.cell? ⟨w4.heap.size + 1, 0, none⟩ = some (.int .u64 (Wi.Hq (Wi.ab x % Wi.ab y))) ∧ w'.cell? ⟨w4.heap.size + 1, 1, none⟩ = some (.int .u64 (Wi.Lr (Wi.ab x % Wi.ab y))) ∧ w'.cell? ⟨w2.heap.size, 0, none⟩ = some (.int .u64 (Wi.Hq (Wi.ab y))) ∧ w'.cell? ⟨w2.heap.size, 1, none⟩ = some (.int .u64 (Wi.Lr (Wi.ab y))) := fun w' h => ⟨h, (M.keep h).cell 0, (M.keep h).cell 1, (E.keep h).cell 0, (E.keep h).cell 1⟩
        go_region_held3 (fun w' => Below w5.heap.size w5 w' ∧ w'.cell? ⟨w4.heap.size + 1, 0, none⟩ = some (.int .u64 (Wi.Hq (Wi.ab x % Wi.ab y))) ∧ w'.cell? ⟨w4.heap.size + 1, 1, none⟩ = some (.int .u64 (Wi.Lr (Wi.ab x % Wi.ab y))) ∧ w'.cell? ⟨w2.heap.size, 0, none⟩ = some (.int .u64 (Wi.Hq (Wi.ab y))) ∧ w'.cell? ⟨w2.heap.size, 1, none⟩ = some (.int .u64 (Wi.Lr (Wi.ab y)))) (first | exact hreg _ (Below.refl _ _).drew | exact keepR hreg hbn (by assumption)) (first | (go_at_call 67; refine (less_c _ _ _ _ _ _ _ (Wi.sz_self dS) (Wi.sz_self mS) SM.out).mono ?_; rintro e wn ⟨rfl, hbn⟩) | (go_at_call 50; refine (scmp_c _ _ _ _ _ _ _ (Wi.sz_self mS) (Wi.sz_self SS.out)).mono ?_; rintro e wn ⟨rfl, hbn⟩))
        rename_i hSS
        have hb5 := hSS.1
        clear hSS hreg
        replace R := R.keep hb5
        replace Q := Q.keep hb5
        replace hB := bt hB hb5
        clear hb5 E M
        obtain ⟨q0, q1, q2, q3⟩ := Q.open2
        have JE := Lib.hid (show Wi.sg (Wi.ab x / Wi.ab y + 1) false = Wi.dv x y (0) from by unfold Wi.dv; rw [Wi.qs_t HA.out, show Wi.ngq x y = false from hng])
        obtain ⟨t, k, t1, t2, k1, k2, ht, eq⟩ := add_ex (Wi.Lr (Wi.ab x / Wi.ab y)) 1 0 (Wi.Lr_bd _).1 (Wi.Lr_bd _).2 (by omega) (by omega) (by omega) (by omega)
        have hh : 0 ≤ Wi.Hq (Wi.ab x / Wi.ab y) ∧ Wi.Hq (Wi.ab x / Wi.ab y) + k ≤ 18446744073709551615 := by have e := ht.out; have e2 := Wi.HL (Wi.ab x / Wi.ab y); have e3 := Wi.Lr_bd (Wi.ab x / Wi.ab y); have := qS.1; omega
        have hh1 := hh.1
        have hh2 := hh.2
        have hz : Wi.Sz (Wi.Hq (Wi.ab x / Wi.ab y) + k) t (Wi.ab x / Wi.ab y + 1) := Wi.sz_of (by omega) hh2 t1 t2 (by have e := ht.out; have e2 := Wi.HL (Wi.ab x / Wi.ab y); omega)
        clear hh
        go_wp2_with (simp only [eq])
        replace hB := bst (bst hB (p := ⟨w4.heap.size, 0, none⟩) (by show w.heap.size ≤ w4.heap.size; omega) (.int .u64 (Wi.Hq (Wi.ab x / Wi.ab y) + k))) (p := ⟨w4.heap.size, 1, none⟩) (by show w.heap.size ≤ w4.heap.size; omega) (.int .u64 t)
        replace R := (R.far (p := ⟨w4.heap.size, 0, none⟩) (by show w.heap.size + 1 + 1 ≠ w4.heap.size; omega) (.int .u64 (Wi.Hq (Wi.ab x / Wi.ab y) + k))).far (p := ⟨w4.heap.size, 1, none⟩) (by show w.heap.size + 1 + 1 ≠ w4.heap.size; omega) (.int .u64 t)
        refine (join_c _ _ _ _ _ hz).mono ?_
        rw [JE.out]
        rintro e w7 ⟨rfl, hb1⟩
        replace R := R.keep hb1
        obtain ⟨r0, r1, r2, r3⟩ := R.open2
        replace hB := bt hB hb1
        clear hb1
        go_wp2_with fail
        refine bodyPost_ret (by simp [results, Try.results47, go_sem, r0, r1, r2, r3]; try rfl) rfl ?_
        exact ⟨rfl, by repeat (first | exact Below.refl _ _ | (with_reducible assumption) | (with_reducible apply bal) | (with_reducible apply bdr) | (with_reducible apply bdnl) | (with_reducible refine bst ?_ (by first | (simp; done) | (simp; omega) | omega) _) | (with_reducible refine bt ?_ (by with_reducible assumption)))⟩
      · have hcm : Wi.cm (Wi.ab x % Wi.ab y) (Wi.ab y - Wi.ab x % Wi.ab y) = 0 := Wi.cm_eq (by omega)
        have HA := Lib.hid (show Wi.awb x y 0 = false from by
          have a1 : decide (Wi.ab y - Wi.ab x % Wi.ab y < Wi.ab x % Wi.ab y) = false := decide_eq_false (by omega)
          have a2 : decide (Wi.ab x % Wi.ab y = Wi.ab y - Wi.ab x % Wi.ab y) = true := decide_eq_true (by omega)
          unfold Wi.awb; rw [if_pos rfl, a1, a2, show Wi.ngq x y = true from hng]; rfl)
        clear hc
        go_wp2_with fail
        clear q0 q1 q2 q3 m0 m1 m2 m3 d0 d1 d2 d3
        have hreg : ∀ w', Below w5.heap.size w5 w' → Below w5.heap.size w5 w' ∧ w'.cell? ⟨w4.heap.size + 1, 0, none⟩ = some (.int .u64 (Wi.Hq (Wi.ab x % Wi.ab y))) ∧ w'.cell? ⟨w4.heap.size + 1, 1, none⟩ = some (.int .u64 (Wi.Lr (Wi.ab x % Wi.ab y))) ∧ w'.cell? ⟨w2.heap.size, 0, none⟩ = some (.int .u64 (Wi.Hq (Wi.ab y))) ∧ w'.cell? ⟨w2.heap.size, 1, none⟩ = some (.int .u64 (Wi.Lr (Wi.ab y))) := fun w' h => ⟨h, (M.keep h).cell 0, (M.keep h).cell 1, (E.keep h).cell 0, (E.keep h).cell 1⟩
        go_region_held3 (fun w' => Below w5.heap.size w5 w' ∧ w'.cell? ⟨w4.heap.size + 1, 0, none⟩ = some (.int .u64 (Wi.Hq (Wi.ab x % Wi.ab y))) ∧ w'.cell? ⟨w4.heap.size + 1, 1, none⟩ = some (.int .u64 (Wi.Lr (Wi.ab x % Wi.ab y))) ∧ w'.cell? ⟨w2.heap.size, 0, none⟩ = some (.int .u64 (Wi.Hq (Wi.ab y))) ∧ w'.cell? ⟨w2.heap.size, 1, none⟩ = some (.int .u64 (Wi.Lr (Wi.ab y)))) (first | exact hreg _ (Below.refl _ _).drew | exact keepR hreg hbn (by assumption)) (first | (go_at_call 67; refine (less_c _ _ _ _ _ _ _ (Wi.sz_self dS) (Wi.sz_self mS) SM.out).mono ?_; rintro e wn ⟨rfl, hbn⟩) | (go_at_call 50; refine (scmp_c _ _ _ _ _ _ _ (Wi.sz_self mS) (Wi.sz_self SS.out)).mono ?_; rintro e wn ⟨rfl, hbn⟩))
        rename_i hSS
        have hb5 := hSS.1
        clear hSS hreg
        replace R := R.keep hb5
        replace Q := Q.keep hb5
        replace hB := bt hB hb5
        clear hb5 E M
        obtain ⟨q0, q1, q2, q3⟩ := Q.open2
        have hz := Wi.sz_self qS
        have JE := Lib.hid (show Wi.sg (Wi.ab x / Wi.ab y) true = Wi.dv x y (0) from by unfold Wi.dv; rw [Wi.qs_f HA.out, show Wi.ngq x y = true from hng])
        go_wp2_with fail
        refine (join_c _ _ _ _ _ hz).mono ?_
        rw [JE.out]
        rintro e w7 ⟨rfl, hb1⟩
        replace R := R.keep hb1
        obtain ⟨r0, r1, r2, r3⟩ := R.open2
        replace hB := bt hB hb1
        clear hb1
        go_wp2_with fail
        refine bodyPost_ret (by simp [results, Try.results47, go_sem, r0, r1, r2, r3]; try rfl) rfl ?_
        exact ⟨rfl, by repeat (first | exact Below.refl _ _ | (with_reducible assumption) | (with_reducible apply bal) | (with_reducible apply bdr) | (with_reducible apply bdnl) | (with_reducible refine bst ?_ (by first | (simp; done) | (simp; omega) | omega) _) | (with_reducible refine bt ?_ (by with_reducible assumption)))⟩
    · have hcm : Wi.cm (Wi.ab x % Wi.ab y) (Wi.ab y - Wi.ab x % Wi.ab y) = 1 := Wi.cm_gt (by omega)
      have HA := Lib.hid (show Wi.awb x y 0 = true from by
        have a1 : decide (Wi.ab y - Wi.ab x % Wi.ab y < Wi.ab x % Wi.ab y) = true := decide_eq_true (by omega)
        have a2 : decide (Wi.ab x % Wi.ab y = Wi.ab y - Wi.ab x % Wi.ab y) = false := decide_eq_false (by omega)
        unfold Wi.awb; rw [if_pos rfl, a1, a2]; rfl)
      clear hc
      go_wp2_with fail
      clear q0 q1 q2 q3 m0 m1 m2 m3 d0 d1 d2 d3
      have hreg : ∀ w', Below w5.heap.size w5 w' → Below w5.heap.size w5 w' ∧ w'.cell? ⟨w4.heap.size + 1, 0, none⟩ = some (.int .u64 (Wi.Hq (Wi.ab x % Wi.ab y))) ∧ w'.cell? ⟨w4.heap.size + 1, 1, none⟩ = some (.int .u64 (Wi.Lr (Wi.ab x % Wi.ab y))) ∧ w'.cell? ⟨w2.heap.size, 0, none⟩ = some (.int .u64 (Wi.Hq (Wi.ab y))) ∧ w'.cell? ⟨w2.heap.size, 1, none⟩ = some (.int .u64 (Wi.Lr (Wi.ab y))) := fun w' h => ⟨h, (M.keep h).cell 0, (M.keep h).cell 1, (E.keep h).cell 0, (E.keep h).cell 1⟩
      go_region_held3 (fun w' => Below w5.heap.size w5 w' ∧ w'.cell? ⟨w4.heap.size + 1, 0, none⟩ = some (.int .u64 (Wi.Hq (Wi.ab x % Wi.ab y))) ∧ w'.cell? ⟨w4.heap.size + 1, 1, none⟩ = some (.int .u64 (Wi.Lr (Wi.ab x % Wi.ab y))) ∧ w'.cell? ⟨w2.heap.size, 0, none⟩ = some (.int .u64 (Wi.Hq (Wi.ab y))) ∧ w'.cell? ⟨w2.heap.size, 1, none⟩ = some (.int .u64 (Wi.Lr (Wi.ab y)))) (first | exact hreg _ (Below.refl _ _).drew | exact keepR hreg hbn (by assumption)) (first | (go_at_call 67; refine (less_c _ _ _ _ _ _ _ (Wi.sz_self dS) (Wi.sz_self mS) SM.out).mono ?_; rintro e wn ⟨rfl, hbn⟩) | (go_at_call 50; refine (scmp_c _ _ _ _ _ _ _ (Wi.sz_self mS) (Wi.sz_self SS.out)).mono ?_; rintro e wn ⟨rfl, hbn⟩))
      rename_i hSS
      have hb5 := hSS.1
      clear hSS hreg
      replace R := R.keep hb5
      replace Q := Q.keep hb5
      replace hB := bt hB hb5
      clear hb5 E M
      obtain ⟨q0, q1, q2, q3⟩ := Q.open2
      have JE := Lib.hid (show Wi.sg (Wi.ab x / Wi.ab y + 1) (!Wi.ngb x == Wi.ngb y) = Wi.dv x y (0) from by unfold Wi.dv; rw [Wi.qs_t HA.out]; rfl)
      obtain ⟨t, k, t1, t2, k1, k2, ht, eq⟩ := add_ex (Wi.Lr (Wi.ab x / Wi.ab y)) 1 0 (Wi.Lr_bd _).1 (Wi.Lr_bd _).2 (by omega) (by omega) (by omega) (by omega)
      have hh : 0 ≤ Wi.Hq (Wi.ab x / Wi.ab y) ∧ Wi.Hq (Wi.ab x / Wi.ab y) + k ≤ 18446744073709551615 := by have e := ht.out; have e2 := Wi.HL (Wi.ab x / Wi.ab y); have e3 := Wi.Lr_bd (Wi.ab x / Wi.ab y); have := qS.1; omega
      have hh1 := hh.1
      have hh2 := hh.2
      have hz : Wi.Sz (Wi.Hq (Wi.ab x / Wi.ab y) + k) t (Wi.ab x / Wi.ab y + 1) := Wi.sz_of (by omega) hh2 t1 t2 (by have e := ht.out; have e2 := Wi.HL (Wi.ab x / Wi.ab y); omega)
      clear hh
      go_wp2_with (simp only [eq])
      replace hB := bst (bst hB (p := ⟨w4.heap.size, 0, none⟩) (by show w.heap.size ≤ w4.heap.size; omega) (.int .u64 (Wi.Hq (Wi.ab x / Wi.ab y) + k))) (p := ⟨w4.heap.size, 1, none⟩) (by show w.heap.size ≤ w4.heap.size; omega) (.int .u64 t)
      replace R := (R.far (p := ⟨w4.heap.size, 0, none⟩) (by show w.heap.size + 1 + 1 ≠ w4.heap.size; omega) (.int .u64 (Wi.Hq (Wi.ab x / Wi.ab y) + k))).far (p := ⟨w4.heap.size, 1, none⟩) (by show w.heap.size + 1 + 1 ≠ w4.heap.size; omega) (.int .u64 t)
      refine (join_c _ _ _ _ _ hz).mono ?_
      rw [JE.out]
      rintro e w7 ⟨rfl, hb1⟩
      replace R := R.keep hb1
      obtain ⟨r0, r1, r2, r3⟩ := R.open2
      replace hB := bt hB hb1
      clear hb1
      go_wp2_with fail
      refine bodyPost_ret (by simp [results, Try.results47, go_sem, r0, r1, r2, r3]; try rfl) rfl ?_
      exact ⟨rfl, by repeat (first | exact Below.refl _ _ | (with_reducible assumption) | (with_reducible apply bal) | (with_reducible apply bdr) | (with_reducible apply bdnl) | (with_reducible refine bst ?_ (by first | (simp; done) | (simp; omega) | omega) _) | (with_reducible refine bt ?_ (by with_reducible assumption)))⟩
  · have hc : Wi.ab x % Wi.ab y < Wi.ab y - Wi.ab x % Wi.ab y := by have : Wi.ab x % Wi.ab y = 0 := of_decide_eq_true hzb; omega
    have hcm : Wi.cm (Wi.ab x % Wi.ab y) (Wi.ab y - Wi.ab x % Wi.ab y) = -1 := Wi.cm_lt (by omega)
    have HA := Lib.hid (show Wi.awb x y 0 = false from by
      have a1 : decide (Wi.ab y - Wi.ab x % Wi.ab y < Wi.ab x % Wi.ab y) = false := decide_eq_false (by omega)
      have a2 : decide (Wi.ab x % Wi.ab y = Wi.ab y - Wi.ab x % Wi.ab y) = false := decide_eq_false (by omega)
      unfold Wi.awb; rw [if_pos rfl, a1, a2]; rfl)
    clear hc
    go_wp2_with fail
    clear q0 q1 q2 q3 m0 m1 m2 m3 d0 d1 d2 d3
    have hreg : ∀ w', Below w5.heap.size w5 w' → Below w5.heap.size w5 w' ∧ w'.cell? ⟨w4.heap.size + 1, 0, none⟩ = some (.int .u64 (Wi.Hq (Wi.ab x % Wi.ab y))) ∧ w'.cell? ⟨w4.heap.size + 1, 1, none⟩ = some (.int .u64 (Wi.Lr (Wi.ab x % Wi.ab y))) ∧ w'.cell? ⟨w2.heap.size, 0, none⟩ = some (.int .u64 (Wi.Hq (Wi.ab y))) ∧ w'.cell? ⟨w2.heap.size, 1, none⟩ = some (.int .u64 (Wi.Lr (Wi.ab y))) := fun w' h => ⟨h, (M.keep h).cell 0, (M.keep h).cell 1, (E.keep h).cell 0, (E.keep h).cell 1⟩
    go_region_held3 (fun w' => Below w5.heap.size w5 w' ∧ w'.cell? ⟨w4.heap.size + 1, 0, none⟩ = some (.int .u64 (Wi.Hq (Wi.ab x % Wi.ab y))) ∧ w'.cell? ⟨w4.heap.size + 1, 1, none⟩ = some (.int .u64 (Wi.Lr (Wi.ab x % Wi.ab y))) ∧ w'.cell? ⟨w2.heap.size, 0, none⟩ = some (.int .u64 (Wi.Hq (Wi.ab y))) ∧ w'.cell? ⟨w2.heap.size, 1, none⟩ = some (.int .u64 (Wi.Lr (Wi.ab y)))) (first | exact hreg _ (Below.refl _ _).drew | exact keepR hreg hbn (by assumption)) (first | (go_at_call 67; refine (less_c _ _ _ _ _ _ _ (Wi.sz_self dS) (Wi.sz_self mS) SM.out).mono ?_; rintro e wn ⟨rfl, hbn⟩) | (go_at_call 50; refine (scmp_c _ _ _ _ _ _ _ (Wi.sz_self mS) (Wi.sz_self SS.out)).mono ?_; rintro e wn ⟨rfl, hbn⟩))
    rename_i hSS
    have hb5 := hSS.1
    clear hSS hreg
    replace R := R.keep hb5
    replace Q := Q.keep hb5
    replace hB := bt hB hb5
    clear hb5 E M
    obtain ⟨q0, q1, q2, q3⟩ := Q.open2
    have hz := Wi.sz_self qS
    have JE := Lib.hid (show Wi.sg (Wi.ab x / Wi.ab y) (!Wi.ngb x == Wi.ngb y) = Wi.dv x y (0) from by unfold Wi.dv; rw [Wi.qs_f HA.out]; rfl)
    go_wp2_with fail
    refine (join_c _ _ _ _ _ hz).mono ?_
    rw [JE.out]
    rintro e w7 ⟨rfl, hb1⟩
    replace R := R.keep hb1
    obtain ⟨r0, r1, r2, r3⟩ := R.open2
    replace hB := bt hB hb1
    clear hb1
    go_wp2_with fail
    refine bodyPost_ret (by simp [results, Try.results47, go_sem, r0, r1, r2, r3]; try rfl) rfl ?_
    exact ⟨rfl, by repeat (first | exact Below.refl _ _ | (with_reducible assumption) | (with_reducible apply bal) | (with_reducible apply bdr) | (with_reducible apply bdnl) | (with_reducible refine bst ?_ (by first | (simp; done) | (simp; omega) | omega) _) | (with_reducible refine bt ?_ (by with_reducible assumption)))⟩
end Go.Proofs.Ytnkgoojjnikaeaa
