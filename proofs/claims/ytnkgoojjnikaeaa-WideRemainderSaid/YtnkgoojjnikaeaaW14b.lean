/-
  Contracts: the reference's quotient rounded to the nearest, one sign.
-/
import Derived.Test.YtnkgoojjnikaeaaW13
import Derived.Deep.DeepCutAuto
namespace Go.Proofs.Ytnkgoojjnikaeaa
set_option linter.unusedVariables false
set_option linter.unusedSimpArgs false
open Go.RowKit

set_option maxRecDepth 100000 in
set_option maxHeartbeats 6000000 in
theorem rnear_b (h l x h' l' y : Int) (w : World) (H : Wi.Wd h l x) (H' : Wi.Wd h' l' y) (h0 : y ≠ 0) (hn : (!Wi.ngb x == Wi.ngb y) = true) : Calls Try.prog 48 #[.agg #[.int .i64 h, .int .u64 l], .agg #[.int .i64 h', .int .u64 l'], .int .i64 2] w fun e w' =>
    e = .returned (.tuple #[.agg #[.int .i64 (Wi.Hq (Wi.rv (Wi.dv x y (0)))), .int .u64 (Wi.Lr (Wi.rv (Wi.dv x y (0))))], .bool (Wi.okb (Wi.dv x y (0)))]) ∧ Below w.heap.size w w' := by
  obtain ⟨sS, dS, dp, dm, mS, qS, qm, ml, hzd⟩ := pre_facts H.hv H'.hv h0
  have hc0 := cm_ne h0
  have hd1 := dec_ng H
  have hd2 := dec_ng H'
  clear hzd h0
  go_enter Try.func48, Try.ntmps48
  go_wp2_with fail
  refine (rsign_c _ _ _ _ H').mono ?_
  rintro e w1 ⟨rfl, hb1⟩
  have X := ((Blk.new w 24 #[.int .i64 h, .int .u64 l]).alloc (.cells #[.int .i64 h', .int .u64 l'] 24)).alloc (.cells #[.int .i64 0, .int .u64 0] 24) |>.keep hb1
  have Y := (Blk.new1 w _ _ _).alloc _ |>.keep hb1
  have R := (Blk.new2 w _ _ _ _).keep hb1
  have hB := bt (bal (bal (ba w _) _) _) hb1
  clear hb1
  obtain ⟨r0, r1, r2, r3⟩ := R.open2
  obtain ⟨x0, x1, x2, x3⟩ := X.open2
  obtain ⟨y0, y1, y2, y3⟩ := Y.open2
  try rw [hn]
  · have hng := Lib.hid hn
    go_wp2_with fail
    refine (rsize_c _ _ _ _ H).mono ?_
    rintro e w2 ⟨rfl, hb1⟩
    clear r0 r1 r2 r3 x0 x1 x2 x3 y0 y1 y2 y3 X
    replace R := R.keep hb1
    replace Y := Y.keep hb1
    replace hB := bt hB hb1
    clear hb1
    obtain ⟨y0, y1, y2, y3⟩ := Y.open2
    go_wp2_with fail
    refine (rsize_c _ _ _ _ H').mono ?_
    rintro e w3 ⟨rfl, hb1⟩
    clear y0 y1 y2 y3 Y
    replace R := R.keep hb1
    replace hB := bt hB hb1
    clear hb1
    go_wp2_with fail
    refine (rdivide_c _ _ _ _ _ _ _ (Wi.sz_self sS) (Wi.sz_self dS) dp dm).mono ?_
    rintro e w4 ⟨rfl, hw4⟩
    have HW4 := Lib.hid hw4
    clear hw4
    rw [← HW4.out]
    clear HW4 w4
    generalize hmh : Wi.Hq (Wi.ab x % Wi.ab y) = mh at *
    generalize hml : Wi.Lr (Wi.ab x % Wi.ab y) = mo at *
    generalize hqh : Wi.Hq (Wi.ab x / Wi.ab y) = qh at *
    generalize hql : Wi.Lr (Wi.ab x / Wi.ab y) = ql at *
    have HM : Wi.Sz mh mo (Wi.ab x % Wi.ab y) := ⟨hmh.symm, hml.symm, mS⟩
    have HQ : Wi.Sz qh ql (Wi.ab x / Wi.ab y) := ⟨hqh.symm, hql.symm, qS⟩
    clear hmh hml hqh hql
    have hzm := zb_mod HM
    go_upto_region 7 with fail
    go_cut [17] (fun s17 wx => s17 = .bool (!Wi.zb (Wi.ab x % Wi.ab y)) ∧ w3 = wx)
    case first =>
      by_cases z1 : mh = 0
      · subst z1
        by_cases z2 : mo = 0
        · subst z2
          go_wp2_with fail
          go_meet
          exact ⟨by rw [hzm]; rfl, rfl⟩
        · have z3 : (mo != 0) = true := by simpa using z2
          go_wp2_with fail
          go_meet
          exact ⟨by rw [hzm, z3]; rfl, rfl⟩
      · have z3 : (mh != 0) = true := by simpa using z1
        go_wp2_with fail
        go_meet
        exact ⟨by rw [hzm, z3]; rfl, rfl⟩
    obtain ⟨rfl, rfl⟩ := hcut
    clear hzm
    generalize hdh : Wi.Hq (Wi.ab y) = dh at *
    generalize hdl : Wi.Lr (Wi.ab y) = dl at *
    have HDD : Wi.Sz dh dl (Wi.ab y) := ⟨hdh.symm, hdl.symm, dS⟩
    clear hdh hdl
    obtain ⟨i1, i2, i3, i4, iv⟩ := HDD.bd
    obtain ⟨j1, j2, j3, j4, jv⟩ := HM.bd
    have IV := Lib.hid iv
    have JV := Lib.hid jv
    have hle : mh ≤ dh := by omega
    clear iv jv
    go_upto_if 71 with fail
    go_cut [18, 19, 20, 21] (fun s18 s19 s20 s21 wx => s18 = .bool (Wi.awb x y 0) ∧ w3 = wx)
    case first =>
      by_cases c : dl < mo
      · have c1 : mh + 1 ≤ dh := by have := IV.out; have := JV.out; omega
        obtain ⟨sl, k, l1, l2, hsl, esl⟩ := wsub_ex dl mo i3 i4 j3 j4
        obtain ⟨sh, esh, hsh⟩ : ∃ sh : Int, dh - mh - 1 = sh ∧ Hid (sh = dh - mh - 1) := ⟨_, rfl, Lib.hid rfl⟩
        rcases Int.lt_trichotomy mh sh with q | q | q
        · go_wp2_with fail
          go_meet
          refine ⟨?_, rfl⟩
          have iv := IV.out
          have jv := JV.out
          have e1 := hsl.out
          have e2 := hsh.out
          try have q := Q.out
          try have p := P.out
          first
          | (refine congrArg Value.bool (Eq.trans ?_ (near_gt (by omega)).symm); first | rfl | exact decide_eq_true (by omega) | exact decide_eq_false (by omega) | (rw [decide_eq_false (show ¬ sh < mh by omega), decide_eq_false (show ¬ sl < mo by omega)]; done) | (rw [decide_eq_false (show ¬ sh < mh by omega), decide_eq_false (show ¬ sl < mo by omega)]; rfl))
          | (refine congrArg Value.bool (Eq.trans ?_ (near_lt (by omega)).symm); first | rfl | exact decide_eq_true (by omega) | exact decide_eq_false (by omega) | (rw [decide_eq_false (show ¬ sh < mh by omega), decide_eq_false (show ¬ sl < mo by omega)]; done) | (rw [decide_eq_false (show ¬ sh < mh by omega), decide_eq_false (show ¬ sl < mo by omega)]; rfl))
          | (refine congrArg Value.bool (Eq.trans ?_ ((near_eq (by omega)).trans (congrArg Bool.not (show Wi.ngq x y = true from hng.out))).symm); first | rfl | exact decide_eq_true (by omega) | exact decide_eq_false (by omega) | (rw [decide_eq_false (show ¬ sh < mh by omega), decide_eq_false (show ¬ sl < mo by omega)]; done) | (rw [decide_eq_false (show ¬ sh < mh by omega), decide_eq_false (show ¬ sl < mo by omega)]; rfl))
        · have q1 : mh ≤ sh := by omega
          have q2 : (mh == sh) = true := by simp [q]
          have Q := Lib.hid q
          clear q
          rcases Int.lt_trichotomy mo sl with p | p | p
          · go_wp2_with fail
            go_meet
            refine ⟨?_, rfl⟩
            have iv := IV.out
            have jv := JV.out
            have e1 := hsl.out
            have e2 := hsh.out
            try have q := Q.out
            try have p := P.out
            first
            | (refine congrArg Value.bool (Eq.trans ?_ (near_gt (by omega)).symm); first | rfl | exact decide_eq_true (by omega) | exact decide_eq_false (by omega) | (rw [decide_eq_false (show ¬ sh < mh by omega), decide_eq_false (show ¬ sl < mo by omega)]; done) | (rw [decide_eq_false (show ¬ sh < mh by omega), decide_eq_false (show ¬ sl < mo by omega)]; rfl))
            | (refine congrArg Value.bool (Eq.trans ?_ (near_lt (by omega)).symm); first | rfl | exact decide_eq_true (by omega) | exact decide_eq_false (by omega) | (rw [decide_eq_false (show ¬ sh < mh by omega), decide_eq_false (show ¬ sl < mo by omega)]; done) | (rw [decide_eq_false (show ¬ sh < mh by omega), decide_eq_false (show ¬ sl < mo by omega)]; rfl))
            | (refine congrArg Value.bool (Eq.trans ?_ ((near_eq (by omega)).trans (congrArg Bool.not (show Wi.ngq x y = true from hng.out))).symm); first | rfl | exact decide_eq_true (by omega) | exact decide_eq_false (by omega) | (rw [decide_eq_false (show ¬ sh < mh by omega), decide_eq_false (show ¬ sl < mo by omega)]; done) | (rw [decide_eq_false (show ¬ sh < mh by omega), decide_eq_false (show ¬ sl < mo by omega)]; rfl))
          · have p1 : mo ≤ sl := by omega
            have p2 : (mo == sl) = true := by simp [p]
            have P := Lib.hid p
            clear p
            go_wp2_with fail
            go_meet
            refine ⟨?_, rfl⟩
            have iv := IV.out
            have jv := JV.out
            have e1 := hsl.out
            have e2 := hsh.out
            try have q := Q.out
            try have p := P.out
            first
            | (refine congrArg Value.bool (Eq.trans ?_ (near_gt (by omega)).symm); first | rfl | exact decide_eq_true (by omega) | exact decide_eq_false (by omega) | (rw [decide_eq_false (show ¬ sh < mh by omega), decide_eq_false (show ¬ sl < mo by omega)]; done) | (rw [decide_eq_false (show ¬ sh < mh by omega), decide_eq_false (show ¬ sl < mo by omega)]; rfl))
            | (refine congrArg Value.bool (Eq.trans ?_ (near_lt (by omega)).symm); first | rfl | exact decide_eq_true (by omega) | exact decide_eq_false (by omega) | (rw [decide_eq_false (show ¬ sh < mh by omega), decide_eq_false (show ¬ sl < mo by omega)]; done) | (rw [decide_eq_false (show ¬ sh < mh by omega), decide_eq_false (show ¬ sl < mo by omega)]; rfl))
            | (refine congrArg Value.bool (Eq.trans ?_ ((near_eq (by omega)).trans (congrArg Bool.not (show Wi.ngq x y = true from hng.out))).symm); first | rfl | exact decide_eq_true (by omega) | exact decide_eq_false (by omega) | (rw [decide_eq_false (show ¬ sh < mh by omega), decide_eq_false (show ¬ sl < mo by omega)]; done) | (rw [decide_eq_false (show ¬ sh < mh by omega), decide_eq_false (show ¬ sl < mo by omega)]; rfl))
          · go_wp2_with fail
            go_meet
            refine ⟨?_, rfl⟩
            have iv := IV.out
            have jv := JV.out
            have e1 := hsl.out
            have e2 := hsh.out
            try have q := Q.out
            try have p := P.out
            first
            | (refine congrArg Value.bool (Eq.trans ?_ (near_gt (by omega)).symm); first | rfl | exact decide_eq_true (by omega) | exact decide_eq_false (by omega) | (rw [decide_eq_false (show ¬ sh < mh by omega), decide_eq_false (show ¬ sl < mo by omega)]; done) | (rw [decide_eq_false (show ¬ sh < mh by omega), decide_eq_false (show ¬ sl < mo by omega)]; rfl))
            | (refine congrArg Value.bool (Eq.trans ?_ (near_lt (by omega)).symm); first | rfl | exact decide_eq_true (by omega) | exact decide_eq_false (by omega) | (rw [decide_eq_false (show ¬ sh < mh by omega), decide_eq_false (show ¬ sl < mo by omega)]; done) | (rw [decide_eq_false (show ¬ sh < mh by omega), decide_eq_false (show ¬ sl < mo by omega)]; rfl))
            | (refine congrArg Value.bool (Eq.trans ?_ ((near_eq (by omega)).trans (congrArg Bool.not (show Wi.ngq x y = true from hng.out))).symm); first | rfl | exact decide_eq_true (by omega) | exact decide_eq_false (by omega) | (rw [decide_eq_false (show ¬ sh < mh by omega), decide_eq_false (show ¬ sl < mo by omega)]; done) | (rw [decide_eq_false (show ¬ sh < mh by omega), decide_eq_false (show ¬ sl < mo by omega)]; rfl))
        · go_wp2_with fail
          go_meet
          refine ⟨?_, rfl⟩
          have iv := IV.out
          have jv := JV.out
          have e1 := hsl.out
          have e2 := hsh.out
          try have q := Q.out
          try have p := P.out
          first
          | (refine congrArg Value.bool (Eq.trans ?_ (near_gt (by omega)).symm); first | rfl | exact decide_eq_true (by omega) | exact decide_eq_false (by omega) | (rw [decide_eq_false (show ¬ sh < mh by omega), decide_eq_false (show ¬ sl < mo by omega)]; done) | (rw [decide_eq_false (show ¬ sh < mh by omega), decide_eq_false (show ¬ sl < mo by omega)]; rfl))
          | (refine congrArg Value.bool (Eq.trans ?_ (near_lt (by omega)).symm); first | rfl | exact decide_eq_true (by omega) | exact decide_eq_false (by omega) | (rw [decide_eq_false (show ¬ sh < mh by omega), decide_eq_false (show ¬ sl < mo by omega)]; done) | (rw [decide_eq_false (show ¬ sh < mh by omega), decide_eq_false (show ¬ sl < mo by omega)]; rfl))
          | (refine congrArg Value.bool (Eq.trans ?_ ((near_eq (by omega)).trans (congrArg Bool.not (show Wi.ngq x y = true from hng.out))).symm); first | rfl | exact decide_eq_true (by omega) | exact decide_eq_false (by omega) | (rw [decide_eq_false (show ¬ sh < mh by omega), decide_eq_false (show ¬ sl < mo by omega)]; done) | (rw [decide_eq_false (show ¬ sh < mh by omega), decide_eq_false (show ¬ sl < mo by omega)]; rfl))
      · obtain ⟨sl, esl, hsl⟩ : ∃ sl : Int, dl - mo = sl ∧ Hid (sl = dl - mo) := ⟨_, rfl, Lib.hid rfl⟩
        obtain ⟨sh, esh, hsh⟩ : ∃ sh : Int, dh - mh = sh ∧ Hid (sh = dh - mh) := ⟨_, rfl, Lib.hid rfl⟩
        rcases Int.lt_trichotomy mh sh with q | q | q
        · go_wp2_with fail
          go_meet
          refine ⟨?_, rfl⟩
          have iv := IV.out
          have jv := JV.out
          have e1 := hsl.out
          have e2 := hsh.out
          try have q := Q.out
          try have p := P.out
          first
          | (refine congrArg Value.bool (Eq.trans ?_ (near_gt (by omega)).symm); first | rfl | exact decide_eq_true (by omega) | exact decide_eq_false (by omega) | (rw [decide_eq_false (show ¬ sh < mh by omega), decide_eq_false (show ¬ sl < mo by omega)]; done) | (rw [decide_eq_false (show ¬ sh < mh by omega), decide_eq_false (show ¬ sl < mo by omega)]; rfl))
          | (refine congrArg Value.bool (Eq.trans ?_ (near_lt (by omega)).symm); first | rfl | exact decide_eq_true (by omega) | exact decide_eq_false (by omega) | (rw [decide_eq_false (show ¬ sh < mh by omega), decide_eq_false (show ¬ sl < mo by omega)]; done) | (rw [decide_eq_false (show ¬ sh < mh by omega), decide_eq_false (show ¬ sl < mo by omega)]; rfl))
          | (refine congrArg Value.bool (Eq.trans ?_ ((near_eq (by omega)).trans (congrArg Bool.not (show Wi.ngq x y = true from hng.out))).symm); first | rfl | exact decide_eq_true (by omega) | exact decide_eq_false (by omega) | (rw [decide_eq_false (show ¬ sh < mh by omega), decide_eq_false (show ¬ sl < mo by omega)]; done) | (rw [decide_eq_false (show ¬ sh < mh by omega), decide_eq_false (show ¬ sl < mo by omega)]; rfl))
        · have q1 : mh ≤ sh := by omega
          have q2 : (mh == sh) = true := by simp [q]
          have Q := Lib.hid q
          clear q
          rcases Int.lt_trichotomy mo sl with p | p | p
          · go_wp2_with fail
            go_meet
            refine ⟨?_, rfl⟩
            have iv := IV.out
            have jv := JV.out
            have e1 := hsl.out
            have e2 := hsh.out
            try have q := Q.out
            try have p := P.out
            first
            | (refine congrArg Value.bool (Eq.trans ?_ (near_gt (by omega)).symm); first | rfl | exact decide_eq_true (by omega) | exact decide_eq_false (by omega) | (rw [decide_eq_false (show ¬ sh < mh by omega), decide_eq_false (show ¬ sl < mo by omega)]; done) | (rw [decide_eq_false (show ¬ sh < mh by omega), decide_eq_false (show ¬ sl < mo by omega)]; rfl))
            | (refine congrArg Value.bool (Eq.trans ?_ (near_lt (by omega)).symm); first | rfl | exact decide_eq_true (by omega) | exact decide_eq_false (by omega) | (rw [decide_eq_false (show ¬ sh < mh by omega), decide_eq_false (show ¬ sl < mo by omega)]; done) | (rw [decide_eq_false (show ¬ sh < mh by omega), decide_eq_false (show ¬ sl < mo by omega)]; rfl))
            | (refine congrArg Value.bool (Eq.trans ?_ ((near_eq (by omega)).trans (congrArg Bool.not (show Wi.ngq x y = true from hng.out))).symm); first | rfl | exact decide_eq_true (by omega) | exact decide_eq_false (by omega) | (rw [decide_eq_false (show ¬ sh < mh by omega), decide_eq_false (show ¬ sl < mo by omega)]; done) | (rw [decide_eq_false (show ¬ sh < mh by omega), decide_eq_false (show ¬ sl < mo by omega)]; rfl))
          · have p1 : mo ≤ sl := by omega
            have p2 : (mo == sl) = true := by simp [p]
            have P := Lib.hid p
            clear p
            go_wp2_with fail
            go_meet
            refine ⟨?_, rfl⟩
            have iv := IV.out
            have jv := JV.out
            have e1 := hsl.out
            have e2 := hsh.out
            try have q := Q.out
            try have p := P.out
            first
            | (refine congrArg Value.bool (Eq.trans ?_ (near_gt (by omega)).symm); first | rfl | exact decide_eq_true (by omega) | exact decide_eq_false (by omega) | (rw [decide_eq_false (show ¬ sh < mh by omega), decide_eq_false (show ¬ sl < mo by omega)]; done) | (rw [decide_eq_false (show ¬ sh < mh by omega), decide_eq_false (show ¬ sl < mo by omega)]; rfl))
            | (refine congrArg Value.bool (Eq.trans ?_ (near_lt (by omega)).symm); first | rfl | exact decide_eq_true (by omega) | exact decide_eq_false (by omega) | (rw [decide_eq_false (show ¬ sh < mh by omega), decide_eq_false (show ¬ sl < mo by omega)]; done) | (rw [decide_eq_false (show ¬ sh < mh by omega), decide_eq_false (show ¬ sl < mo by omega)]; rfl))
            | (refine congrArg Value.bool (Eq.trans ?_ ((near_eq (by omega)).trans (congrArg Bool.not (show Wi.ngq x y = true from hng.out))).symm); first | rfl | exact decide_eq_true (by omega) | exact decide_eq_false (by omega) | (rw [decide_eq_false (show ¬ sh < mh by omega), decide_eq_false (show ¬ sl < mo by omega)]; done) | (rw [decide_eq_false (show ¬ sh < mh by omega), decide_eq_false (show ¬ sl < mo by omega)]; rfl))
          · go_wp2_with fail
            go_meet
            refine ⟨?_, rfl⟩
            have iv := IV.out
            have jv := JV.out
            have e1 := hsl.out
            have e2 := hsh.out
            try have q := Q.out
            try have p := P.out
            first
            | (refine congrArg Value.bool (Eq.trans ?_ (near_gt (by omega)).symm); first | rfl | exact decide_eq_true (by omega) | exact decide_eq_false (by omega) | (rw [decide_eq_false (show ¬ sh < mh by omega), decide_eq_false (show ¬ sl < mo by omega)]; done) | (rw [decide_eq_false (show ¬ sh < mh by omega), decide_eq_false (show ¬ sl < mo by omega)]; rfl))
            | (refine congrArg Value.bool (Eq.trans ?_ (near_lt (by omega)).symm); first | rfl | exact decide_eq_true (by omega) | exact decide_eq_false (by omega) | (rw [decide_eq_false (show ¬ sh < mh by omega), decide_eq_false (show ¬ sl < mo by omega)]; done) | (rw [decide_eq_false (show ¬ sh < mh by omega), decide_eq_false (show ¬ sl < mo by omega)]; rfl))
            | (refine congrArg Value.bool (Eq.trans ?_ ((near_eq (by omega)).trans (congrArg Bool.not (show Wi.ngq x y = true from hng.out))).symm); first | rfl | exact decide_eq_true (by omega) | exact decide_eq_false (by omega) | (rw [decide_eq_false (show ¬ sh < mh by omega), decide_eq_false (show ¬ sl < mo by omega)]; done) | (rw [decide_eq_false (show ¬ sh < mh by omega), decide_eq_false (show ¬ sl < mo by omega)]; rfl))
        · go_wp2_with fail
          go_meet
          refine ⟨?_, rfl⟩
          have iv := IV.out
          have jv := JV.out
          have e1 := hsl.out
          have e2 := hsh.out
          try have q := Q.out
          try have p := P.out
          first
          | (refine congrArg Value.bool (Eq.trans ?_ (near_gt (by omega)).symm); first | rfl | exact decide_eq_true (by omega) | exact decide_eq_false (by omega) | (rw [decide_eq_false (show ¬ sh < mh by omega), decide_eq_false (show ¬ sl < mo by omega)]; done) | (rw [decide_eq_false (show ¬ sh < mh by omega), decide_eq_false (show ¬ sl < mo by omega)]; rfl))
          | (refine congrArg Value.bool (Eq.trans ?_ (near_lt (by omega)).symm); first | rfl | exact decide_eq_true (by omega) | exact decide_eq_false (by omega) | (rw [decide_eq_false (show ¬ sh < mh by omega), decide_eq_false (show ¬ sl < mo by omega)]; done) | (rw [decide_eq_false (show ¬ sh < mh by omega), decide_eq_false (show ¬ sl < mo by omega)]; rfl))
          | (refine congrArg Value.bool (Eq.trans ?_ ((near_eq (by omega)).trans (congrArg Bool.not (show Wi.ngq x y = true from hng.out))).symm); first | rfl | exact decide_eq_true (by omega) | exact decide_eq_false (by omega) | (rw [decide_eq_false (show ¬ sh < mh by omega), decide_eq_false (show ¬ sl < mo by omega)]; done) | (rw [decide_eq_false (show ¬ sh < mh by omega), decide_eq_false (show ¬ sl < mo by omega)]; rfl))
    obtain ⟨rfl, rfl⟩ := hcut
    clear i1 i2 i3 i4 j1 j2 j3 j4 IV JV hle HDD
    rcases ha : Wi.awb x y 0 with _ | _
    · have HA := Lib.hid ha
      have hz := HQ
      have JE := Lib.hid (show Wi.sg (Wi.ab x / Wi.ab y) true = Wi.dv x y (0) from by unfold Wi.dv; rw [Wi.qs_f HA.out, show Wi.ngq x y = true from hng.out])
      rcases z3 : (qh != 0) with _ | _
      · rcases z4 : (ql != 0) with _ | _
        · have JE0 := Lib.hid (show Wi.sg (Wi.ab x / Wi.ab y) false = Wi.dv x y (0) from by
            have hv : Wi.ab x / Wi.ab y = 0 := by
              have := hz.bd
              have a1 : qh = 0 := by simpa using z3
              have a2 : ql = 0 := by simpa using z4
              omega
            rw [← JE.out, hv, sg_zero, sg_zero])
          clear JE
          have JE := JE0
          go_wp2_with fail
          refine (signed_c _ _ _ _ _ hz).mono ?_
          rw [JE.out]
          rintro e w7 ⟨rfl, hb1⟩
          replace R := R.keep hb1
          obtain ⟨r0, r1, r2, r3⟩ := R.open2
          replace hB := bt hB hb1
          clear hb1
          go_wp2_with fail
          refine bodyPost_ret (by simp [results, Try.results48, go_sem, r0, r1, r2, r3]; try rfl) rfl ?_
          exact ⟨rfl, by repeat (first | exact Below.refl _ _ | (with_reducible assumption) | (with_reducible apply bal) | (with_reducible apply bdr) | (with_reducible apply bdnl) | (with_reducible refine bst ?_ (by first | (simp; done) | (simp; omega) | omega) _) | (with_reducible refine bt ?_ (by with_reducible assumption)))⟩
        · go_wp2_with fail
          refine (signed_c _ _ _ _ _ hz).mono ?_
          rw [JE.out]
          rintro e w7 ⟨rfl, hb1⟩
          replace R := R.keep hb1
          obtain ⟨r0, r1, r2, r3⟩ := R.open2
          replace hB := bt hB hb1
          clear hb1
          go_wp2_with fail
          refine bodyPost_ret (by simp [results, Try.results48, go_sem, r0, r1, r2, r3]; try rfl) rfl ?_
          exact ⟨rfl, by repeat (first | exact Below.refl _ _ | (with_reducible assumption) | (with_reducible apply bal) | (with_reducible apply bdr) | (with_reducible apply bdnl) | (with_reducible refine bst ?_ (by first | (simp; done) | (simp; omega) | omega) _) | (with_reducible refine bt ?_ (by with_reducible assumption)))⟩
      · go_wp2_with fail
        refine (signed_c _ _ _ _ _ hz).mono ?_
        rw [JE.out]
        rintro e w7 ⟨rfl, hb1⟩
        replace R := R.keep hb1
        obtain ⟨r0, r1, r2, r3⟩ := R.open2
        replace hB := bt hB hb1
        clear hb1
        go_wp2_with fail
        refine bodyPost_ret (by simp [results, Try.results48, go_sem, r0, r1, r2, r3]; try rfl) rfl ?_
        exact ⟨rfl, by repeat (first | exact Below.refl _ _ | (with_reducible assumption) | (with_reducible apply bal) | (with_reducible apply bdr) | (with_reducible apply bdnl) | (with_reducible refine bst ?_ (by first | (simp; done) | (simp; omega) | omega) _) | (with_reducible refine bt ?_ (by with_reducible assumption)))⟩
    · have HA := Lib.hid ha
      obtain ⟨b1, b2, b3, b4, bv⟩ := HQ.bd
      have BV := Lib.hid bv
      have QM := Lib.hid qm
      clear bv qm
      by_cases hw : ql = 18446744073709551615
      · subst hw
        have e1 : IntKind.u64.wrap (18446744073709551615 + 1) = 0 := by decide
        have e2 : IntKind.u64.wrap 18446744073709551616 = 0 := by decide
        have e3 : qh ≤ 18446744073709551614 := by have := BV.out; have := QM.out; omega
        have hz : Wi.Sz (qh + 1) 0 (Wi.ab x / Wi.ab y + 1) := Wi.sz_of (by omega) (by omega) (by omega) (by omega) (by have := BV.out; omega)
        have JE := Lib.hid (show Wi.sg (Wi.ab x / Wi.ab y + 1) true = Wi.dv x y (0) from by unfold Wi.dv; rw [Wi.qs_t HA.out, show Wi.ngq x y = true from hng.out])
        have z3 : ((qh + 1) != 0) = true := by rw [bne_iff_ne]; omega
        go_wp2_with fail
        refine (signed_c _ _ _ _ _ hz).mono ?_
        rw [JE.out]
        rintro e w7 ⟨rfl, hb1⟩
        replace R := R.keep hb1
        obtain ⟨r0, r1, r2, r3⟩ := R.open2
        replace hB := bt hB hb1
        clear hb1
        go_wp2_with fail
        refine bodyPost_ret (by simp [results, Try.results48, go_sem, r0, r1, r2, r3]; try rfl) rfl ?_
        exact ⟨rfl, by repeat (first | exact Below.refl _ _ | (with_reducible assumption) | (with_reducible apply bal) | (with_reducible apply bdr) | (with_reducible apply bdnl) | (with_reducible refine bst ?_ (by first | (simp; done) | (simp; omega) | omega) _) | (with_reducible refine bt ?_ (by with_reducible assumption)))⟩
      · have e1 : (ql + 1 == 0) = false := by simp; omega
        have e2 : ql ≤ 18446744073709551614 := by omega
        have hz : Wi.Sz qh (ql + 1) (Wi.ab x / Wi.ab y + 1) := Wi.sz_of (by omega) (by omega) (by omega) (by omega) (by have := BV.out; omega)
        clear hw
        have JE := Lib.hid (show Wi.sg (Wi.ab x / Wi.ab y + 1) true = Wi.dv x y (0) from by unfold Wi.dv; rw [Wi.qs_t HA.out, show Wi.ngq x y = true from hng.out])
        have z4 : ((ql + 1) != 0) = true := by rw [bne_iff_ne]; omega
        rcases z3 : (qh != 0) with _ | _
        · go_wp2_with fail
          refine (signed_c _ _ _ _ _ hz).mono ?_
          rw [JE.out]
          rintro e w7 ⟨rfl, hb1⟩
          replace R := R.keep hb1
          obtain ⟨r0, r1, r2, r3⟩ := R.open2
          replace hB := bt hB hb1
          clear hb1
          go_wp2_with fail
          refine bodyPost_ret (by simp [results, Try.results48, go_sem, r0, r1, r2, r3]; try rfl) rfl ?_
          exact ⟨rfl, by repeat (first | exact Below.refl _ _ | (with_reducible assumption) | (with_reducible apply bal) | (with_reducible apply bdr) | (with_reducible apply bdnl) | (with_reducible refine bst ?_ (by first | (simp; done) | (simp; omega) | omega) _) | (with_reducible refine bt ?_ (by with_reducible assumption)))⟩
        · go_wp2_with fail
          refine (signed_c _ _ _ _ _ hz).mono ?_
          rw [JE.out]
          rintro e w7 ⟨rfl, hb1⟩
          replace R := R.keep hb1
          obtain ⟨r0, r1, r2, r3⟩ := R.open2
          replace hB := bt hB hb1
          clear hb1
          go_wp2_with fail
          refine bodyPost_ret (by simp [results, Try.results48, go_sem, r0, r1, r2, r3]; try rfl) rfl ?_
          exact ⟨rfl, by repeat (first | exact Below.refl _ _ | (with_reducible assumption) | (with_reducible apply bal) | (with_reducible apply bdr) | (with_reducible apply bdnl) | (with_reducible refine bst ?_ (by first | (simp; done) | (simp; omega) | omega) _) | (with_reducible refine bt ?_ (by with_reducible assumption)))⟩
end Go.Proofs.Ytnkgoojjnikaeaa
