/-
  The walk of WideProducts.
-/
import Derived.Test.YtnkgoojjnikaeaaW23
import Derived.Test.YtnkgoojjnikaeaaBlk
namespace Go.Proofs.Ytnkgoojjnikaeaa
set_option linter.unusedVariables false
set_option linter.unusedSimpArgs false
open Go.RowKit

set_option maxRecDepth 100000 in
set_option maxHeartbeats 4000000 in
theorem law_products (h l x a b : Int) (w : World) (H : Wi.Wd h l x) (a1 : -9223372036854775808 ≤ a) (a2 : a ≤ 9223372036854775807) (b1 : -9223372036854775808 ≤ b) (b2 : b ≤ 9223372036854775807) : Calls Try.prog 9 #[.agg #[.int .i64 h, .int .u64 l], .int .i64 a, .int .i64 b] w fun e w' =>
    e = .returned (.bool true) ∧ Below w.heap.size w w' := by
  go_enter Try.func9, Try.ntmps9
  have X := Blk.new w 24 #[.int .i64 h, .int .u64 l]
  have hB := ba w (.cells #[.int .i64 h, .int .u64 l] 24)
  go_wp2_with fail
  refine (awake_c _).mono ?_
  rintro e w1 ⟨rfl, hb⟩
  replace X := X.keep hb
  replace hB := bt hB hb
  clear hb
  obtain ⟨c00, c01, c02, c03⟩ := X.open2
  go_wp2_with fail
  refine (times_c _ _ _ _ _ H a1 a2).mono ?_
  rintro e w2 ⟨rfl, hb⟩
  clear c00 c01 c02 c03
  replace X := X.keep hb
  replace hB := bt hB hb
  clear hb
  have l2X := X.lt
  replace X := X.alloc (.cells #[.int .i64 (Wi.Hq (Wi.rv (x * a))), .int .u64 (Wi.Lr (Wi.rv (x * a)))] 24)
  replace hB := bal hB (.cells #[.int .i64 (Wi.Hq (Wi.rv (x * a))), .int .u64 (Wi.Lr (Wi.rv (x * a)))] 24)
  have P := Blk.new w2 24 #[.int .i64 (Wi.Hq (Wi.rv (x * a))), .int .u64 (Wi.Lr (Wi.rv (x * a)))]
  obtain ⟨c00, c01, c02, c03⟩ := X.open2
  go_wp2_with fail
  refine (rtimes_c _ _ _ _ _ H a1 a2).mono ?_
  rintro e w3 ⟨rfl, hb⟩
  clear c00 c01 c02 c03
  replace X := X.keep hb
  replace P := P.keep hb
  replace hB := bt hB hb
  clear hb
  have l3X := X.lt
  have l3P := P.lt
  replace X := X.alloc (.cells #[.int .i64 (Wi.Hq (Wi.rv (x * a))), .int .u64 (Wi.Lr (Wi.rv (x * a)))] 24)
  replace P := P.alloc (.cells #[.int .i64 (Wi.Hq (Wi.rv (x * a))), .int .u64 (Wi.Lr (Wi.rv (x * a)))] 24)
  replace hB := bal hB (.cells #[.int .i64 (Wi.Hq (Wi.rv (x * a))), .int .u64 (Wi.Lr (Wi.rv (x * a)))] 24)
  have R := Blk.new w3 24 #[.int .i64 (Wi.Hq (Wi.rv (x * a))), .int .u64 (Wi.Lr (Wi.rv (x * a)))]
  obtain ⟨c00, c01, c02, c03⟩ := P.open2
  obtain ⟨c10, c11, c12, c13⟩ := R.open2
  go_wp2_with fail
  refine (same_c _ _ _ _).mono ?_
  rintro e w4 ⟨rfl, hb⟩
  clear c00 c01 c02 c03 c10 c11 c12 c13
  replace X := X.keep hb
  replace P := P.keep hb
  replace R := R.keep hb
  replace hB := bt hB hb
  clear hb
  go_wp2_with fail
  refine (mul_c _ _ _ a1 a2 b1 b2).mono ?_
  rintro e w5 ⟨rfl, hb⟩
  replace X := X.keep hb
  replace P := P.keep hb
  replace R := R.keep hb
  replace hB := bt hB hb
  clear hb
  go_wp2_with fail
  refine (rmul_c _ _ _ a1 a2 b1 b2).mono ?_
  rintro e w6 ⟨rfl, hb⟩
  replace X := X.keep hb
  replace P := P.keep hb
  replace R := R.keep hb
  replace hB := bt hB hb
  clear hb
  go_wp2_with fail
  refine (of_c _ _ a1 a2).mono ?_
  rintro e w7 ⟨rfl, hb⟩
  replace X := X.keep hb
  replace P := P.keep hb
  replace R := R.keep hb
  replace hB := bt hB hb
  clear hb
  go_wp2_with fail
  refine (rof_c _ _ a1 a2).mono ?_
  rintro e w8 ⟨rfl, hb⟩
  replace X := X.keep hb
  replace P := P.keep hb
  replace R := R.keep hb
  replace hB := bt hB hb
  clear hb
  go_wp2_with fail
  go_returns
  exact ⟨rfl, hB⟩
end Go.Proofs.Ytnkgoojjnikaeaa
