/-
  The walk of WideParses.
-/
import Derived.Test.YtnkgoojjnikaeaaW23
import Derived.Test.YtnkgoojjnikaeaaBlk
import Derived.Test.YtnkgoojjnikaeaaPlain8
namespace Go.Proofs.Ytnkgoojjnikaeaa
set_option linter.unusedVariables false
set_option linter.unusedSimpArgs false
open Go.RowKit

theorem pE_cases (s : ByteArray) : Wi.pE s = 0 ∨ Wi.pE s = 2 ∨ Wi.pE s = 4 := by
  unfold Wi.pE Wi.tE
  split
  · simp
  · split <;> simp
theorem in_pV (s : ByteArray) : Wi.inW (Wi.pV s) := Wi.in_tV _ _

set_option maxRecDepth 100000 in
set_option maxHeartbeats 4000000 in
theorem law_parses (s : ByteArray) (w : World) (hs : s.size ≤ 9223372036854775807) : Calls Try.prog 6 #[.string s] w fun e w' =>
    e = .returned (.bool true) ∧ Below w.heap.size w w' := by
  by_cases hc : 60 < s.size
  · have hs2 : (s.extract 0 60).size ≤ 9223372036854775807 := by simp; omega
    have hq : (60 : Int) < (s.size : Int) := by omega
    rcases pE_cases (s.extract 0 60) with he | he | he
    · have tt := Lib.hid (Wi.TT_parse he)
      have wp := Wi.wd_self (in_pV (s.extract 0 60))
      replace he := Lib.hid he
      go_enter Try.func6, Try.ntmps6
      have hB := Below.refl w.heap.size w
      go_wp2_with fail
      refine (awake_c _).mono ?_
      rintro e w1 ⟨rfl, hb⟩
      replace hB := bt hB hb
      clear hb
      go_wp2_with fail
      refine (parse_c (s.extract 0 60) _ hs2).mono ?_
      rw [he.out]
      rintro e w2 ⟨rfl, hb⟩
      replace hB := bt hB hb
      clear hb
      replace hB := bal hB (.cells #[.int .i64 (Wi.Hq (Wi.pV (s.extract 0 60))), .int .u64 (Wi.Lr (Wi.pV (s.extract 0 60)))] 24)
      have P := Blk.new w2 24 #[.int .i64 (Wi.Hq (Wi.pV (s.extract 0 60))), .int .u64 (Wi.Lr (Wi.pV (s.extract 0 60)))]
      go_wp2_with fail
      refine (rparse_c (s.extract 0 60) _ hs2).mono ?_
      rw [he.out]
      rintro e w3 ⟨rfl, hb⟩
      replace P := P.keep hb
      replace hB := bt hB hb
      clear hb
      have l3P := P.lt
      replace P := P.alloc (.cells #[.int .i64 (Wi.Hq (Wi.pV (s.extract 0 60))), .int .u64 (Wi.Lr (Wi.pV (s.extract 0 60)))] 24)
      replace hB := bal hB (.cells #[.int .i64 (Wi.Hq (Wi.pV (s.extract 0 60))), .int .u64 (Wi.Lr (Wi.pV (s.extract 0 60)))] 24)
      have R := Blk.new w3 24 #[.int .i64 (Wi.Hq (Wi.pV (s.extract 0 60))), .int .u64 (Wi.Lr (Wi.pV (s.extract 0 60)))]
      obtain ⟨c00, c01, c02, c03⟩ := P.open2
      obtain ⟨c10, c11, c12, c13⟩ := R.open2
      go_wp2_with fail
      refine (text_c _ _ _ _ wp).mono ?_
      rw [tt.out]
      rintro e w4 ⟨rfl, hb⟩
      clear c00 c01 c02 c03 c10 c11 c12 c13
      replace P := P.keep hb
      replace R := R.keep hb
      replace hB := bt hB hb
      clear hb
      go_wp2_with fail
      go_returns
      exact ⟨rfl, hB⟩
    · replace he := Lib.hid he
      go_enter Try.func6, Try.ntmps6
      have hB := Below.refl w.heap.size w
      go_wp2_with fail
      refine (awake_c _).mono ?_
      rintro e w1 ⟨rfl, hb⟩
      replace hB := bt hB hb
      clear hb
      go_wp2_with fail
      refine (parse_c (s.extract 0 60) _ hs2).mono ?_
      rw [he.out]
      rintro e w2 ⟨rfl, hb⟩
      replace hB := bt hB hb
      clear hb
      replace hB := bal hB (.cells #[.int .i64 (Wi.Hq (Wi.pV (s.extract 0 60))), .int .u64 (Wi.Lr (Wi.pV (s.extract 0 60)))] 24)
      have P := Blk.new w2 24 #[.int .i64 (Wi.Hq (Wi.pV (s.extract 0 60))), .int .u64 (Wi.Lr (Wi.pV (s.extract 0 60)))]
      go_wp2_with fail
      refine (rparse_c (s.extract 0 60) _ hs2).mono ?_
      rw [he.out]
      rintro e w3 ⟨rfl, hb⟩
      replace P := P.keep hb
      replace hB := bt hB hb
      clear hb
      have l3P := P.lt
      replace P := P.alloc (.cells #[.int .i64 (Wi.Hq (Wi.pV (s.extract 0 60))), .int .u64 (Wi.Lr (Wi.pV (s.extract 0 60)))] 24)
      replace hB := bal hB (.cells #[.int .i64 (Wi.Hq (Wi.pV (s.extract 0 60))), .int .u64 (Wi.Lr (Wi.pV (s.extract 0 60)))] 24)
      have R := Blk.new w3 24 #[.int .i64 (Wi.Hq (Wi.pV (s.extract 0 60))), .int .u64 (Wi.Lr (Wi.pV (s.extract 0 60)))]
      obtain ⟨c00, c01, c02, c03⟩ := P.open2
      obtain ⟨c10, c11, c12, c13⟩ := R.open2
      go_wp2_with fail
      go_returns
      exact ⟨rfl, hB⟩
    · replace he := Lib.hid he
      go_enter Try.func6, Try.ntmps6
      have hB := Below.refl w.heap.size w
      go_wp2_with fail
      refine (awake_c _).mono ?_
      rintro e w1 ⟨rfl, hb⟩
      replace hB := bt hB hb
      clear hb
      go_wp2_with fail
      refine (parse_c (s.extract 0 60) _ hs2).mono ?_
      rw [he.out]
      rintro e w2 ⟨rfl, hb⟩
      replace hB := bt hB hb
      clear hb
      replace hB := bal hB (.cells #[.int .i64 (Wi.Hq (Wi.pV (s.extract 0 60))), .int .u64 (Wi.Lr (Wi.pV (s.extract 0 60)))] 24)
      have P := Blk.new w2 24 #[.int .i64 (Wi.Hq (Wi.pV (s.extract 0 60))), .int .u64 (Wi.Lr (Wi.pV (s.extract 0 60)))]
      go_wp2_with fail
      refine (rparse_c (s.extract 0 60) _ hs2).mono ?_
      rw [he.out]
      rintro e w3 ⟨rfl, hb⟩
      replace P := P.keep hb
      replace hB := bt hB hb
      clear hb
      have l3P := P.lt
      replace P := P.alloc (.cells #[.int .i64 (Wi.Hq (Wi.pV (s.extract 0 60))), .int .u64 (Wi.Lr (Wi.pV (s.extract 0 60)))] 24)
      replace hB := bal hB (.cells #[.int .i64 (Wi.Hq (Wi.pV (s.extract 0 60))), .int .u64 (Wi.Lr (Wi.pV (s.extract 0 60)))] 24)
      have R := Blk.new w3 24 #[.int .i64 (Wi.Hq (Wi.pV (s.extract 0 60))), .int .u64 (Wi.Lr (Wi.pV (s.extract 0 60)))]
      obtain ⟨c00, c01, c02, c03⟩ := P.open2
      obtain ⟨c10, c11, c12, c13⟩ := R.open2
      go_wp2_with fail
      go_returns
      exact ⟨rfl, hB⟩
  · have hs2 := hs
    have hq : ¬ (60 : Int) < (s.size : Int) := by omega
    rcases pE_cases s with he | he | he
    · have tt := Lib.hid (Wi.TT_parse he)
      have wp := Wi.wd_self (in_pV s)
      replace he := Lib.hid he
      go_enter Try.func6, Try.ntmps6
      have hB := Below.refl w.heap.size w
      go_wp2_with fail
      refine (awake_c _).mono ?_
      rintro e w1 ⟨rfl, hb⟩
      replace hB := bt hB hb
      clear hb
      go_wp2_with fail
      refine (parse_c s _ hs2).mono ?_
      rw [he.out]
      rintro e w2 ⟨rfl, hb⟩
      replace hB := bt hB hb
      clear hb
      replace hB := bal hB (.cells #[.int .i64 (Wi.Hq (Wi.pV s)), .int .u64 (Wi.Lr (Wi.pV s))] 24)
      have P := Blk.new w2 24 #[.int .i64 (Wi.Hq (Wi.pV s)), .int .u64 (Wi.Lr (Wi.pV s))]
      go_wp2_with fail
      refine (rparse_c s _ hs2).mono ?_
      rw [he.out]
      rintro e w3 ⟨rfl, hb⟩
      replace P := P.keep hb
      replace hB := bt hB hb
      clear hb
      have l3P := P.lt
      replace P := P.alloc (.cells #[.int .i64 (Wi.Hq (Wi.pV s)), .int .u64 (Wi.Lr (Wi.pV s))] 24)
      replace hB := bal hB (.cells #[.int .i64 (Wi.Hq (Wi.pV s)), .int .u64 (Wi.Lr (Wi.pV s))] 24)
      have R := Blk.new w3 24 #[.int .i64 (Wi.Hq (Wi.pV s)), .int .u64 (Wi.Lr (Wi.pV s))]
      obtain ⟨c00, c01, c02, c03⟩ := P.open2
      obtain ⟨c10, c11, c12, c13⟩ := R.open2
      go_wp2_with fail
      refine (text_c _ _ _ _ wp).mono ?_
      rw [tt.out]
      rintro e w4 ⟨rfl, hb⟩
      clear c00 c01 c02 c03 c10 c11 c12 c13
      replace P := P.keep hb
      replace R := R.keep hb
      replace hB := bt hB hb
      clear hb
      go_wp2_with fail
      go_returns
      exact ⟨rfl, hB⟩
    · replace he := Lib.hid he
      go_enter Try.func6, Try.ntmps6
      have hB := Below.refl w.heap.size w
      go_wp2_with fail
      refine (awake_c _).mono ?_
      rintro e w1 ⟨rfl, hb⟩
      replace hB := bt hB hb
      clear hb
      go_wp2_with fail
      refine (parse_c s _ hs2).mono ?_
      rw [he.out]
      rintro e w2 ⟨rfl, hb⟩
      replace hB := bt hB hb
      clear hb
      replace hB := bal hB (.cells #[.int .i64 (Wi.Hq (Wi.pV s)), .int .u64 (Wi.Lr (Wi.pV s))] 24)
      have P := Blk.new w2 24 #[.int .i64 (Wi.Hq (Wi.pV s)), .int .u64 (Wi.Lr (Wi.pV s))]
      go_wp2_with fail
      refine (rparse_c s _ hs2).mono ?_
      rw [he.out]
      rintro e w3 ⟨rfl, hb⟩
      replace P := P.keep hb
      replace hB := bt hB hb
      clear hb
      have l3P := P.lt
      replace P := P.alloc (.cells #[.int .i64 (Wi.Hq (Wi.pV s)), .int .u64 (Wi.Lr (Wi.pV s))] 24)
      replace hB := bal hB (.cells #[.int .i64 (Wi.Hq (Wi.pV s)), .int .u64 (Wi.Lr (Wi.pV s))] 24)
      have R := Blk.new w3 24 #[.int .i64 (Wi.Hq (Wi.pV s)), .int .u64 (Wi.Lr (Wi.pV s))]
      obtain ⟨c00, c01, c02, c03⟩ := P.open2
      obtain ⟨c10, c11, c12, c13⟩ := R.open2
      go_wp2_with fail
      go_returns
      exact ⟨rfl, hB⟩
    · replace he := Lib.hid he
      go_enter Try.func6, Try.ntmps6
      have hB := Below.refl w.heap.size w
      go_wp2_with fail
      refine (awake_c _).mono ?_
      rintro e w1 ⟨rfl, hb⟩
      replace hB := bt hB hb
      clear hb
      go_wp2_with fail
      refine (parse_c s _ hs2).mono ?_
      rw [he.out]
      rintro e w2 ⟨rfl, hb⟩
      replace hB := bt hB hb
      clear hb
      replace hB := bal hB (.cells #[.int .i64 (Wi.Hq (Wi.pV s)), .int .u64 (Wi.Lr (Wi.pV s))] 24)
      have P := Blk.new w2 24 #[.int .i64 (Wi.Hq (Wi.pV s)), .int .u64 (Wi.Lr (Wi.pV s))]
      go_wp2_with fail
      refine (rparse_c s _ hs2).mono ?_
      rw [he.out]
      rintro e w3 ⟨rfl, hb⟩
      replace P := P.keep hb
      replace hB := bt hB hb
      clear hb
      have l3P := P.lt
      replace P := P.alloc (.cells #[.int .i64 (Wi.Hq (Wi.pV s)), .int .u64 (Wi.Lr (Wi.pV s))] 24)
      replace hB := bal hB (.cells #[.int .i64 (Wi.Hq (Wi.pV s)), .int .u64 (Wi.Lr (Wi.pV s))] 24)
      have R := Blk.new w3 24 #[.int .i64 (Wi.Hq (Wi.pV s)), .int .u64 (Wi.Lr (Wi.pV s))]
      obtain ⟨c00, c01, c02, c03⟩ := P.open2
      obtain ⟨c10, c11, c12, c13⟩ := R.open2
      go_wp2_with fail
      go_returns
      exact ⟨rfl, hB⟩
end Go.Proofs.Ytnkgoojjnikaeaa
