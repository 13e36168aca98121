/-
  The walk of WideRing.
-/
import Derived.Test.YtnkgoojjnikaeaaW23
import Derived.Test.YtnkgoojjnikaeaaBlk
namespace Go.Proofs.Ytnkgoojjnikaeaa
set_option linter.unusedVariables false
set_option linter.unusedSimpArgs false
open Go.RowKit

set_option maxRecDepth 100000 in
set_option maxHeartbeats 4000000 in
theorem law_ring (a b c : Int) (w : World) (a1 : -9223372036854775808 ≤ a) (a2 : a ≤ 9223372036854775807) (b1 : -9223372036854775808 ≤ b) (b2 : b ≤ 9223372036854775807) (c1 : -9223372036854775808 ≤ c) (c2 : c ≤ 9223372036854775807) : Calls Try.prog 10 #[.int .i64 a, .int .i64 b, .int .i64 c] w fun e w' =>
    e = .returned (.bool true) ∧ Below w.heap.size w w' := by
  have oa : Wi.Wd (Wi.Hq a) (Wi.Lr a) a := Wi.wd_self (by unfold Wi.inW; omega)
  have ob : Wi.Wd (Wi.Hq b) (Wi.Lr b) b := Wi.wd_self (by unfold Wi.inW; omega)
  have is : Wi.inW (a + b) := by unfold Wi.inW; omega
  have os : Wi.Wd (Wi.Hq (a + b)) (Wi.Lr (a + b)) (a + b) := Wi.wd_self is
  have rvs : Wi.rv (a + b) = a + b := Wi.rv_yes is
  have oks : Wi.okb (a + b) = true := Wi.okb_yes is
  have ma : Wi.Wd (Wi.Hq (a * c)) (Wi.Lr (a * c)) (a * c) := Wi.wd_self (mul_W a1 a2 c1 c2)
  have mb : Wi.Wd (Wi.Hq (b * c)) (Wi.Lr (b * c)) (b * c) := Wi.wd_self (mul_W b1 b2 c1 c2)
  have hd : a * c + b * c = (a + b) * c := (Int.add_mul a b c).symm
  clear is
  replace rvs := Lib.hid rvs
  replace oks := Lib.hid oks
  replace hd := Lib.hid hd
  go_enter Try.func10, Try.ntmps10
  have hB := Below.refl w.heap.size w
  go_wp2_with fail
  refine (awake_c _).mono ?_
  rintro e w1 ⟨rfl, hb⟩
  replace hB := bt hB hb
  clear hb
  go_wp2_with fail
  refine (of_c _ _ a1 a2).mono ?_
  rintro e w2 ⟨rfl, hb⟩
  replace hB := bt hB hb
  clear hb
  go_wp2_with fail
  refine (of_c _ _ b1 b2).mono ?_
  rintro e w3 ⟨rfl, hb⟩
  replace hB := bt hB hb
  clear hb
  go_wp2_with fail
  refine (add_c _ _ _ _ _ _ _ oa ob).mono ?_
  rw [rvs.out, oks.out]
  rintro e w4 ⟨rfl, hb⟩
  replace hB := bt hB hb
  clear hb
  replace hB := bal hB (.cells #[.int .i64 (Wi.Hq (a + b)), .int .u64 (Wi.Lr (a + b))] 24)
  have P := Blk.new w4 24 #[.int .i64 (Wi.Hq (a + b)), .int .u64 (Wi.Lr (a + b))]
  obtain ⟨c00, c01, c02, c03⟩ := P.open2
  go_wp2_with fail
  refine (times_c _ _ _ _ _ os c1 c2).mono ?_
  rintro e w5 ⟨rfl, hb⟩
  clear c00 c01 c02 c03
  replace P := P.keep hb
  replace hB := bt hB hb
  clear hb
  have l5P := P.lt
  replace P := P.alloc (.cells #[.int .i64 (Wi.Hq (Wi.rv ((a + b) * c))), .int .u64 (Wi.Lr (Wi.rv ((a + b) * c)))] 24)
  replace hB := bal hB (.cells #[.int .i64 (Wi.Hq (Wi.rv ((a + b) * c))), .int .u64 (Wi.Lr (Wi.rv ((a + b) * c)))] 24)
  have R := Blk.new w5 24 #[.int .i64 (Wi.Hq (Wi.rv ((a + b) * c))), .int .u64 (Wi.Lr (Wi.rv ((a + b) * c)))]
  go_wp2_with fail
  refine (mul_c _ _ _ a1 a2 c1 c2).mono ?_
  rintro e w6 ⟨rfl, hb⟩
  replace P := P.keep hb
  replace R := R.keep hb
  replace hB := bt hB hb
  clear hb
  go_wp2_with fail
  refine (mul_c _ _ _ b1 b2 c1 c2).mono ?_
  rintro e w7 ⟨rfl, hb⟩
  replace P := P.keep hb
  replace R := R.keep hb
  replace hB := bt hB hb
  clear hb
  go_wp2_with fail
  refine (add_c _ _ _ _ _ _ _ ma mb).mono ?_
  rw [hd.out]
  rintro e w8 ⟨rfl, hb⟩
  replace P := P.keep hb
  replace R := R.keep hb
  replace hB := bt hB hb
  clear hb
  have l8P := P.lt
  have l8R := R.lt
  replace P := P.alloc (.cells #[.int .i64 (Wi.Hq (Wi.rv ((a + b) * c))), .int .u64 (Wi.Lr (Wi.rv ((a + b) * c)))] 24)
  replace R := R.alloc (.cells #[.int .i64 (Wi.Hq (Wi.rv ((a + b) * c))), .int .u64 (Wi.Lr (Wi.rv ((a + b) * c)))] 24)
  replace hB := bal hB (.cells #[.int .i64 (Wi.Hq (Wi.rv ((a + b) * c))), .int .u64 (Wi.Lr (Wi.rv ((a + b) * c)))] 24)
  have U := Blk.new w8 24 #[.int .i64 (Wi.Hq (Wi.rv ((a + b) * c))), .int .u64 (Wi.Lr (Wi.rv ((a + b) * c)))]
  obtain ⟨c00, c01, c02, c03⟩ := R.open2
  obtain ⟨c10, c11, c12, c13⟩ := U.open2
  go_wp2_with fail
  go_returns
  exact ⟨rfl, hB⟩
end Go.Proofs.Ytnkgoojjnikaeaa
