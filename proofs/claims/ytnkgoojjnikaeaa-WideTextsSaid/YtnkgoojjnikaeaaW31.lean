/-
  The walk of WideTexts.
-/
import Derived.Test.YtnkgoojjnikaeaaW23
import Derived.Test.YtnkgoojjnikaeaaBlk
import Derived.Test.YtnkgoojjnikaeaaPlain8
namespace Go.Proofs.Ytnkgoojjnikaeaa
set_option linter.unusedVariables false
set_option linter.unusedSimpArgs false
open Go.RowKit

set_option maxRecDepth 100000 in
set_option maxHeartbeats 4000000 in
theorem law_texts (h l x : Int) (w : World) (H : Wi.Wd h l x) : Calls Try.prog 5 #[.agg #[.int .i64 h, .int .u64 l]] w fun e w' =>
    e = .returned (.bool true) ∧ Below w.heap.size w w' := by
  have tp := Lib.hid (Wi.parse_TT H.hv)
  have ts := Wi.TT_size H.hv
  have eh := Lib.hid H.hh
  have el := Lib.hid H.hl
  go_enter Try.func5, Try.ntmps5
  have X := Blk.new w 24 #[.int .i64 h, .int .u64 l]
  have hB := ba w (.cells #[.int .i64 h, .int .u64 l] 24)
  go_wp2_with fail
  refine (awake_c _).mono ?_
  rintro e w1 ⟨rfl, hb⟩
  replace X := X.keep hb
  replace hB := bt hB hb
  clear hb
  obtain ⟨c00, c01, c02, c03⟩ := X.open2
  go_wp2_with fail
  refine (text_c _ _ _ _ H).mono ?_
  rintro e w2 ⟨rfl, hb⟩
  clear c00 c01 c02 c03
  replace X := X.keep hb
  replace hB := bt hB hb
  clear hb
  go_wp2_with fail
  refine (parse_c _ _ ts).mono ?_
  rw [tp.out.1, tp.out.2, ← eh.out, ← el.out]
  rintro e w3 ⟨rfl, hb⟩
  replace X := X.keep hb
  replace hB := bt hB hb
  clear hb
  have l3X := X.lt
  replace X := X.alloc (.cells #[.int .i64 h, .int .u64 l] 24)
  replace hB := bal hB (.cells #[.int .i64 h, .int .u64 l] 24)
  have P := Blk.new w3 24 #[.int .i64 h, .int .u64 l]
  obtain ⟨c00, c01, c02, c03⟩ := X.open2
  go_wp2_with fail
  refine (rtext_c _ _ _ _ H).mono ?_
  rintro e w4 ⟨rfl, hb⟩
  clear c00 c01 c02 c03
  replace X := X.keep hb
  replace P := P.keep hb
  replace hB := bt hB hb
  clear hb
  obtain ⟨c00, c01, c02, c03⟩ := X.open2
  obtain ⟨c10, c11, c12, c13⟩ := P.open2
  go_wp2_with fail
  go_returns
  exact ⟨rfl, hB⟩
end Go.Proofs.Ytnkgoojjnikaeaa
