/-
  The walk of WideScales.
-/
import Derived.Test.YtnkgoojjnikaeaaW23
import Derived.Test.YtnkgoojjnikaeaaBlk
import Derived.Test.YtnkgoojjnikaeaaW33
namespace Go.Proofs.Ytnkgoojjnikaeaa
set_option linter.unusedVariables false
set_option linter.unusedSimpArgs false
open Go.RowKit

theorem sc_le {a : Int} (h1 : -9223372036854775808 ≤ a) (h2 : a ≤ 9223372036854775807) : 0 ≤ Wi.ab a ∧ Wi.ab a ≤ 9223372036854775808 := by
  unfold Wi.ab; split <;> omega
theorem ab_mul_le {a b : Int} (a1 : -9223372036854775808 ≤ a) (a2 : a ≤ 9223372036854775807) (b1 : -9223372036854775808 ≤ b) (b2 : b ≤ 9223372036854775807) : 0 ≤ Wi.ab (a * b) ∧ Wi.ab (a * b) ≤ 85070591730234615865843651857942052864 := by
  have p := sc_le a1 a2
  have q := sc_le b1 b2
  rw [Wi.ab_prod]
  refine ⟨Int.mul_nonneg p.1 q.1, ?_⟩
  have h := Int.mul_le_mul p.2 q.2 q.1 (show (0 : Int) ≤ 9223372036854775808 by omega)
  omega
theorem sc_W {a b : Int} (a1 : -9223372036854775808 ≤ a) (a2 : a ≤ 9223372036854775807) (b1 : -9223372036854775808 ≤ b) (b2 : b ≤ 9223372036854775807) : Wi.inW (a * b) := by
  have h := ab_mul_le a1 a2 b1 b2
  revert h
  generalize a * b = v
  unfold Wi.ab Wi.inW
  split <;> omega
theorem dv_W {a b c : Int} (a1 : -9223372036854775808 ≤ a) (a2 : a ≤ 9223372036854775807) (b1 : -9223372036854775808 ≤ b) (b2 : b ≤ 9223372036854775807) (hc : c ≠ 0) : Wi.inW (Wi.dv (a * b) c (-1)) := by
  have h := ab_mul_le a1 a2 b1 b2
  have q := Wi.quo_bd (x := a * b) hc
  have s : 0 ≤ Wi.qs (a * b) c (-1) ∧ Wi.qs (a * b) c (-1) ≤ 85070591730234615865843651857942052865 := by
    unfold Wi.qs
    split <;> omega
  unfold Wi.dv
  revert s
  generalize Wi.qs (a * b) c (-1) = z
  intro s
  unfold Wi.inW Wi.sg
  split <;> omega

set_option maxRecDepth 100000 in
set_option maxHeartbeats 4000000 in
theorem scales_0 (a b : Int) (w : World) (a1 : -9223372036854775808 ≤ a) (a2 : a ≤ 9223372036854775807) (b1 : -9223372036854775808 ≤ b) (b2 : b ≤ 9223372036854775807) : Calls Try.prog 12 #[.int .i64 a, .int .i64 b, .int .i64 0] w fun e w' =>
    e = .returned (.bool true) ∧ Below w.heap.size w w' := by
  have mw : Wi.Wd (Wi.Hq (a * b)) (Wi.Lr (a * b)) (a * b) := Wi.wd_self (sc_W a1 a2 b1 b2)
  have oc : Wi.Wd (Wi.Hq 0) (Wi.Lr 0) 0 := Wi.wd_self (by unfold Wi.inW; omega)
  have wp : Wi.Wd (Wi.Hq 0) (Wi.Lr 0) 0 := Wi.wd_self (by unfold Wi.inW; omega)
  have ei := Lib.hid (show Wi.ib 0 = true from by decide)
  go_enter Try.func12, Try.ntmps12
  have hB := Below.refl w.heap.size w
  go_wp2_with fail
  refine (awake_c _).mono ?_
  rintro e w1 ⟨rfl, hb⟩
  replace hB := bt hB hb
  clear hb
  go_wp2_with fail
  refine (muldiv_c _ _ _ _ a1 a2 b1 b2 (by omega) (by omega)).mono ?_
  rw [if_pos rfl, if_pos rfl]
  rintro e w2 ⟨rfl, hb⟩
  replace hB := bt hB hb
  clear hb
  go_wp2_with fail
  refine (mul_c _ _ _ a1 a2 b1 b2).mono ?_
  rintro e w3 ⟨rfl, hb⟩
  replace hB := bt hB hb
  clear hb
  go_wp2_with fail
  refine (of_c _ _ (by omega) (by omega)).mono ?_
  rintro e w4 ⟨rfl, hb⟩
  replace hB := bt hB hb
  clear hb
  go_wp2_with fail
  refine (div_c _ _ _ _ _ _ _ mw oc).mono ?_
  rw [Wi.dV_0, Wi.dB_0]
  rintro e w5 ⟨rfl, hb⟩
  replace hB := bt hB hb
  clear hb
  replace hB := bal hB (.cells #[.int .i64 (Wi.Hq (0)), .int .u64 (Wi.Lr (0))] 24)
  have P := Blk.new w5 24 #[.int .i64 (Wi.Hq (0)), .int .u64 (Wi.Lr (0))]
  obtain ⟨c00, c01, c02, c03⟩ := P.open2
  go_wp2_with fail
  refine (int_c _ _ _ _ wp).mono ?_
  rw [ei.out]
  rintro e w6 ⟨rfl, hb⟩
  clear c00 c01 c02 c03
  replace P := P.keep hb
  replace hB := bt hB hb
  clear hb
  go_wp2_with fail
  go_returns
  exact ⟨rfl, hB⟩

set_option maxRecDepth 100000 in
set_option maxHeartbeats 4000000 in
theorem scales_1 (a b c : Int) (w : World) (a1 : -9223372036854775808 ≤ a) (a2 : a ≤ 9223372036854775807) (b1 : -9223372036854775808 ≤ b) (b2 : b ≤ 9223372036854775807) (c1 : -9223372036854775808 ≤ c) (c2 : c ≤ 9223372036854775807) (hc : c ≠ 0) (hi : Wi.in64 (Wi.dv (a * b) c (-1))) : Calls Try.prog 12 #[.int .i64 a, .int .i64 b, .int .i64 c] w fun e w' =>
    e = .returned (.bool true) ∧ Below w.heap.size w w' := by
  have mw : Wi.Wd (Wi.Hq (a * b)) (Wi.Lr (a * b)) (a * b) := Wi.wd_self (sc_W a1 a2 b1 b2)
  have oc : Wi.Wd (Wi.Hq c) (Wi.Lr c) c := Wi.wd_self (by unfold Wi.inW; omega)
  have dw := dv_W (c := c) a1 a2 b1 b2 hc
  have wp : Wi.Wd (Wi.Hq (Wi.dv (a * b) c (-1))) (Wi.Lr (Wi.dv (a * b) c (-1))) (Wi.dv (a * b) c (-1)) := Wi.wd_self dw
  have ed := Lib.hid ((Wi.dV_n hc (a * b) (-1)).trans (Wi.rv_yes dw))
  have eb := Lib.hid ((Wi.dB_n hc (a * b) (-1)).trans (Wi.okb_yes dw))
  have ei := Lib.hid (Wi.ib_yes hi)
  have ev := Lib.hid (show Wi.er (Wi.dv (a * b) c (-1)) = 0 from by unfold Wi.er; rw [Wi.ib_yes hi]; rfl)
  have t1 : (c == 0) = false := by simpa using hc
  replace hc := Lib.hid hc
  clear hi dw
  go_enter Try.func12, Try.ntmps12
  have hB := Below.refl w.heap.size w
  go_wp2_with fail
  refine (awake_c _).mono ?_
  rintro e w1 ⟨rfl, hb⟩
  replace hB := bt hB hb
  clear hb
  go_wp2_with fail
  refine (muldiv_c _ _ _ _ a1 a2 b1 b2 c1 c2).mono ?_
  rw [if_neg hc.out, if_neg hc.out, ev.out]
  rintro e w2 ⟨rfl, hb⟩
  replace hB := bt hB hb
  clear hb
  go_wp2_with fail
  refine (mul_c _ _ _ a1 a2 b1 b2).mono ?_
  rintro e w3 ⟨rfl, hb⟩
  replace hB := bt hB hb
  clear hb
  go_wp2_with fail
  refine (of_c _ _ c1 c2).mono ?_
  rintro e w4 ⟨rfl, hb⟩
  replace hB := bt hB hb
  clear hb
  go_wp2_with fail
  refine (div_c _ _ _ _ _ _ _ mw oc).mono ?_
  rw [ed.out, eb.out]
  rintro e w5 ⟨rfl, hb⟩
  replace hB := bt hB hb
  clear hb
  replace hB := bal hB (.cells #[.int .i64 (Wi.Hq (Wi.dv (a * b) c (-1))), .int .u64 (Wi.Lr (Wi.dv (a * b) c (-1)))] 24)
  have P := Blk.new w5 24 #[.int .i64 (Wi.Hq (Wi.dv (a * b) c (-1))), .int .u64 (Wi.Lr (Wi.dv (a * b) c (-1)))]
  obtain ⟨c00, c01, c02, c03⟩ := P.open2
  go_wp2_with fail
  refine (int_c _ _ _ _ wp).mono ?_
  rw [ei.out]
  rintro e w6 ⟨rfl, hb⟩
  clear c00 c01 c02 c03
  replace P := P.keep hb
  replace hB := bt hB hb
  clear hb
  go_wp2_with fail
  go_returns
  exact ⟨rfl, hB⟩

set_option maxRecDepth 100000 in
set_option maxHeartbeats 4000000 in
theorem scales_2 (a b c : Int) (w : World) (a1 : -9223372036854775808 ≤ a) (a2 : a ≤ 9223372036854775807) (b1 : -9223372036854775808 ≤ b) (b2 : b ≤ 9223372036854775807) (c1 : -9223372036854775808 ≤ c) (c2 : c ≤ 9223372036854775807) (hc : c ≠ 0) (hi : ¬ Wi.in64 (Wi.dv (a * b) c (-1))) : Calls Try.prog 12 #[.int .i64 a, .int .i64 b, .int .i64 c] w fun e w' =>
    e = .returned (.bool true) ∧ Below w.heap.size w w' := by
  have mw : Wi.Wd (Wi.Hq (a * b)) (Wi.Lr (a * b)) (a * b) := Wi.wd_self (sc_W a1 a2 b1 b2)
  have oc : Wi.Wd (Wi.Hq c) (Wi.Lr c) c := Wi.wd_self (by unfold Wi.inW; omega)
  have dw := dv_W (c := c) a1 a2 b1 b2 hc
  have wp : Wi.Wd (Wi.Hq (Wi.dv (a * b) c (-1))) (Wi.Lr (Wi.dv (a * b) c (-1))) (Wi.dv (a * b) c (-1)) := Wi.wd_self dw
  have ed := Lib.hid ((Wi.dV_n hc (a * b) (-1)).trans (Wi.rv_yes dw))
  have eb := Lib.hid ((Wi.dB_n hc (a * b) (-1)).trans (Wi.okb_yes dw))
  have ei := Lib.hid (Wi.ib_no hi)
  have ev := Lib.hid (show Wi.er (Wi.dv (a * b) c (-1)) = 2 from by unfold Wi.er; rw [Wi.ib_no hi]; rfl)
  have iv0 := Lib.hid (Wi.iv_no hi)
  have t1 : (c == 0) = false := by simpa using hc
  replace hc := Lib.hid hc
  clear hi dw
  go_enter Try.func12, Try.ntmps12
  have hB := Below.refl w.heap.size w
  go_wp2_with fail
  refine (awake_c _).mono ?_
  rintro e w1 ⟨rfl, hb⟩
  replace hB := bt hB hb
  clear hb
  go_wp2_with fail
  refine (muldiv_c _ _ _ _ a1 a2 b1 b2 c1 c2).mono ?_
  rw [if_neg hc.out, if_neg hc.out, ev.out, iv0.out]
  rintro e w2 ⟨rfl, hb⟩
  replace hB := bt hB hb
  clear hb
  go_wp2_with fail
  refine (mul_c _ _ _ a1 a2 b1 b2).mono ?_
  rintro e w3 ⟨rfl, hb⟩
  replace hB := bt hB hb
  clear hb
  go_wp2_with fail
  refine (of_c _ _ c1 c2).mono ?_
  rintro e w4 ⟨rfl, hb⟩
  replace hB := bt hB hb
  clear hb
  go_wp2_with fail
  refine (div_c _ _ _ _ _ _ _ mw oc).mono ?_
  rw [ed.out, eb.out]
  rintro e w5 ⟨rfl, hb⟩
  replace hB := bt hB hb
  clear hb
  replace hB := bal hB (.cells #[.int .i64 (Wi.Hq (Wi.dv (a * b) c (-1))), .int .u64 (Wi.Lr (Wi.dv (a * b) c (-1)))] 24)
  have P := Blk.new w5 24 #[.int .i64 (Wi.Hq (Wi.dv (a * b) c (-1))), .int .u64 (Wi.Lr (Wi.dv (a * b) c (-1)))]
  obtain ⟨c00, c01, c02, c03⟩ := P.open2
  go_wp2_with fail
  refine (int_c _ _ _ _ wp).mono ?_
  rw [ei.out]
  rintro e w6 ⟨rfl, hb⟩
  clear c00 c01 c02 c03
  replace P := P.keep hb
  replace hB := bt hB hb
  clear hb
  go_wp2_with fail
  go_returns
  exact ⟨rfl, hB⟩

theorem law_scales (a b c : Int) (w : World) (a1 : -9223372036854775808 ≤ a) (a2 : a ≤ 9223372036854775807) (b1 : -9223372036854775808 ≤ b) (b2 : b ≤ 9223372036854775807) (c1 : -9223372036854775808 ≤ c) (c2 : c ≤ 9223372036854775807) : Calls Try.prog 12 #[.int .i64 a, .int .i64 b, .int .i64 c] w fun e w' =>
    e = .returned (.bool true) ∧ Below w.heap.size w w' := by
  by_cases hc : c = 0
  · subst hc; exact scales_0 a b w a1 a2 b1 b2
  · by_cases hi : Wi.in64 (Wi.dv (a * b) c (-1))
    · exact scales_1 a b c w a1 a2 b1 b2 c1 c2 hc hi
    · exact scales_2 a b c w a1 a2 b1 b2 c1 c2 hc hi
end Go.Proofs.Ytnkgoojjnikaeaa
