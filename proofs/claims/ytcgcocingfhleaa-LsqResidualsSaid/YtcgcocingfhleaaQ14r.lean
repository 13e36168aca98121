/-
  Contract: the reference's Holds.
-/
import Derived.Test.YtcgcocingfhleaaQ14p
import Derived.Test.YtcgcocingfhleaaQ3
namespace Go.Proofs.Ytcgcocingfhleaa
set_option linter.unusedVariables false
set_option linter.unusedSimpArgs false
open Go.RowKit
attribute [local irreducible] World.setCell World.cell?

set_option maxRecDepth 100000 in
set_option maxHeartbeats 4000000 in
theorem rholds_c (s a b z d g px py : Int) (w : World) (x1 : -9223372036854775808 ≤ px ∧ px ≤ 9223372036854775807) (y1 : -9223372036854775808 ≤ py ∧ py ≤ 9223372036854775807) :
    Calls Try.prog 31 #[.agg #[.int .i64 s, .int .i64 a, .int .i64 b, .int .i64 z, .int .i64 d, .int .i64 g], .agg #[.int .i64 px, .int .i64 py]] w fun e w' => e = .returned (.bool (hold s a b z d g px py)) ∧ Below w.heap.size w w' := by
  cases v1 : Lq.vm s a b z d g
  · have HE := Lib.hid (hold_1 (px := px) (py := py) v1)
    have E1 := Lib.hid v1
    have KV := fun W_ : World => rvalid_c s a b z d g W_
    rw [v1] at KV
    clear v1
    go_enter Try.func31, Try.ntmps31
    have X := Blk.new w 43 #[.int .i64 (s), .int .i64 (a), .int .i64 (b), .int .i64 (z), .int .i64 (d), .int .i64 (g)]
    have hB := ba w (.cells #[.int .i64 (s), .int .i64 (a), .int .i64 (b), .int .i64 (z), .int .i64 (d), .int .i64 (g)] 43)
    have P := Blk.new1 w (.cells #[.int .i64 (s), .int .i64 (a), .int .i64 (b), .int .i64 (z), .int .i64 (d), .int .i64 (g)] 43) 36 #[.int .i64 (px), .int .i64 (py)]
    replace X := X.alloc (.cells #[.int .i64 (px), .int .i64 (py)] 36)
    replace hB := bal hB (.cells #[.int .i64 (px), .int .i64 (py)] 36)
    obtain ⟨c00, c01, c02, c03, c04, c05, c06, c07⟩ := X.open6
    go_wp2_with fail
    refine (KV _).mono ?_
    rintro e w1 ⟨rfl, hb⟩
    clear c00 c01 c02 c03 c04 c05 c06 c07
    replace X := X.keep hb
    replace P := P.keep hb
    replace hB := bt hB hb
    clear hb
    go_wp2_with fail
    go_returns
    exact ⟨ret_bool HE.out.symm, hB⟩
  cases v2 : Lq.pv px py
  · have HE := Lib.hid (hold_2 v1 v2)
    have E1 := Lib.hid v1
    have KV := fun W_ : World => rvalid_c s a b z d g W_
    rw [v1] at KV
    have KP := fun W_ : World => rpvalid_c px py W_
    rw [v2] at KP
    clear v1 v2
    go_enter Try.func31, Try.ntmps31
    have X := Blk.new w 43 #[.int .i64 (s), .int .i64 (a), .int .i64 (b), .int .i64 (z), .int .i64 (d), .int .i64 (g)]
    have hB := ba w (.cells #[.int .i64 (s), .int .i64 (a), .int .i64 (b), .int .i64 (z), .int .i64 (d), .int .i64 (g)] 43)
    have P := Blk.new1 w (.cells #[.int .i64 (s), .int .i64 (a), .int .i64 (b), .int .i64 (z), .int .i64 (d), .int .i64 (g)] 43) 36 #[.int .i64 (px), .int .i64 (py)]
    replace X := X.alloc (.cells #[.int .i64 (px), .int .i64 (py)] 36)
    replace hB := bal hB (.cells #[.int .i64 (px), .int .i64 (py)] 36)
    obtain ⟨c00, c01, c02, c03, c04, c05, c06, c07⟩ := X.open6
    go_wp2_with fail
    refine (KV _).mono ?_
    rintro e w1 ⟨rfl, hb⟩
    clear c00 c01 c02 c03 c04 c05 c06 c07
    replace X := X.keep hb
    replace P := P.keep hb
    replace hB := bt hB hb
    clear hb
    obtain ⟨c00, c01, c02, c03⟩ := P.open2
    go_wp2_with fail
    refine (KP _).mono ?_
    rintro e w2 ⟨rfl, hb⟩
    clear c00 c01 c02 c03
    replace X := X.keep hb
    replace P := P.keep hb
    replace hB := bt hB hb
    clear hb
    go_wp2_with fail
    go_returns
    exact ⟨ret_bool HE.out.symm, hB⟩
  obtain ⟨a1, a2, b1, b2, z1, z2, d1, d2⟩ := vm_bd v1
  obtain ⟨q1, q2, q3, q4⟩ := Lq.pv_iff.1 v2
  obtain ⟨m1, m2, m3, m4, m5, m6⟩ := ms_bd a1 a2 b1 b2 z1 z2 q1 q2 q3 q4
  by_cases h1 : a * px + b * py - z ≤ d
  rotate_left
  · have HE := Lib.hid (hold_3 (t := false) v1 v2 (decide_eq_false (by omega)))
    have E1 := Lib.hid v1
    have KV := fun W_ : World => rvalid_c s a b z d g W_
    rw [v1] at KV
    have KP := fun W_ : World => rpvalid_c px py W_
    rw [v2] at KP
    clear v1 v2
    have n1 : decide (a * px + b * py - z ≤ d) = false := decide_eq_false h1
    go_enter Try.func31, Try.ntmps31
    try simp only [List.append_eq, List.cons_append, List.nil_append]
    have X := Blk.new w 43 #[.int .i64 (s), .int .i64 (a), .int .i64 (b), .int .i64 (z), .int .i64 (d), .int .i64 (g)]
    have hB := ba w (.cells #[.int .i64 (s), .int .i64 (a), .int .i64 (b), .int .i64 (z), .int .i64 (d), .int .i64 (g)] 43)
    have P := Blk.new1 w (.cells #[.int .i64 (s), .int .i64 (a), .int .i64 (b), .int .i64 (z), .int .i64 (d), .int .i64 (g)] 43) 36 #[.int .i64 (px), .int .i64 (py)]
    replace X := X.alloc (.cells #[.int .i64 (px), .int .i64 (py)] 36)
    replace hB := bal hB (.cells #[.int .i64 (px), .int .i64 (py)] 36)
    obtain ⟨c00, c01, c02, c03, c04, c05, c06, c07⟩ := X.open6
    go_wp2_with fail
    refine (KV _).mono ?_
    rintro e w1 ⟨rfl, hb⟩
    clear c00 c01 c02 c03 c04 c05 c06 c07
    replace X := X.keep hb
    replace P := P.keep hb
    replace hB := bt hB hb
    clear hb
    obtain ⟨c00, c01, c02, c03⟩ := P.open2
    go_wp2_with fail
    refine (KP _).mono ?_
    rintro e w2 ⟨rfl, hb⟩
    clear c00 c01 c02 c03
    replace X := X.keep hb
    replace P := P.keep hb
    replace hB := bt hB hb
    clear hb
    obtain ⟨c00, c01, c02, c03, c04, c05, c06, c07⟩ := X.open6
    obtain ⟨c10, c11, c12, c13⟩ := P.open2
    go_wp2_with fail
    go_returns
    exact ⟨ret_bool HE.out.symm, hB⟩
  by_cases h2 : -(a * px + b * py - z) ≤ d
  rotate_left
  · have HE := Lib.hid (hold_3 (t := false) v1 v2 (decide_eq_false (by omega)))
    have E1 := Lib.hid v1
    have KV := fun W_ : World => rvalid_c s a b z d g W_
    rw [v1] at KV
    have KP := fun W_ : World => rpvalid_c px py W_
    rw [v2] at KP
    clear v1 v2
    have n1 : decide (-(a * px + b * py - z) ≤ d) = false := decide_eq_false h2
    go_enter Try.func31, Try.ntmps31
    try simp only [List.append_eq, List.cons_append, List.nil_append]
    have X := Blk.new w 43 #[.int .i64 (s), .int .i64 (a), .int .i64 (b), .int .i64 (z), .int .i64 (d), .int .i64 (g)]
    have hB := ba w (.cells #[.int .i64 (s), .int .i64 (a), .int .i64 (b), .int .i64 (z), .int .i64 (d), .int .i64 (g)] 43)
    have P := Blk.new1 w (.cells #[.int .i64 (s), .int .i64 (a), .int .i64 (b), .int .i64 (z), .int .i64 (d), .int .i64 (g)] 43) 36 #[.int .i64 (px), .int .i64 (py)]
    replace X := X.alloc (.cells #[.int .i64 (px), .int .i64 (py)] 36)
    replace hB := bal hB (.cells #[.int .i64 (px), .int .i64 (py)] 36)
    obtain ⟨c00, c01, c02, c03, c04, c05, c06, c07⟩ := X.open6
    go_wp2_with fail
    refine (KV _).mono ?_
    rintro e w1 ⟨rfl, hb⟩
    clear c00 c01 c02 c03 c04 c05 c06 c07
    replace X := X.keep hb
    replace P := P.keep hb
    replace hB := bt hB hb
    clear hb
    obtain ⟨c00, c01, c02, c03⟩ := P.open2
    go_wp2_with fail
    refine (KP _).mono ?_
    rintro e w2 ⟨rfl, hb⟩
    clear c00 c01 c02 c03
    replace X := X.keep hb
    replace P := P.keep hb
    replace hB := bt hB hb
    clear hb
    obtain ⟨c00, c01, c02, c03, c04, c05, c06, c07⟩ := X.open6
    obtain ⟨c10, c11, c12, c13⟩ := P.open2
    go_wp2_with fail
    go_returns
    exact ⟨ret_bool HE.out.symm, hB⟩
  · have HE := Lib.hid (hold_3 (t := true) v1 v2 (decide_eq_true (by omega)))
    have E1 := Lib.hid v1
    have KV := fun W_ : World => rvalid_c s a b z d g W_
    rw [v1] at KV
    have KP := fun W_ : World => rpvalid_c px py W_
    rw [v2] at KP
    clear v1 v2
    have n1 : decide (-(a * px + b * py - z) ≤ d) = true := decide_eq_true h2
    go_enter Try.func31, Try.ntmps31
    try simp only [List.append_eq, List.cons_append, List.nil_append]
    have X := Blk.new w 43 #[.int .i64 (s), .int .i64 (a), .int .i64 (b), .int .i64 (z), .int .i64 (d), .int .i64 (g)]
    have hB := ba w (.cells #[.int .i64 (s), .int .i64 (a), .int .i64 (b), .int .i64 (z), .int .i64 (d), .int .i64 (g)] 43)
    have P := Blk.new1 w (.cells #[.int .i64 (s), .int .i64 (a), .int .i64 (b), .int .i64 (z), .int .i64 (d), .int .i64 (g)] 43) 36 #[.int .i64 (px), .int .i64 (py)]
    replace X := X.alloc (.cells #[.int .i64 (px), .int .i64 (py)] 36)
    replace hB := bal hB (.cells #[.int .i64 (px), .int .i64 (py)] 36)
    obtain ⟨c00, c01, c02, c03, c04, c05, c06, c07⟩ := X.open6
    go_wp2_with fail
    refine (KV _).mono ?_
    rintro e w1 ⟨rfl, hb⟩
    clear c00 c01 c02 c03 c04 c05 c06 c07
    replace X := X.keep hb
    replace P := P.keep hb
    replace hB := bt hB hb
    clear hb
    obtain ⟨c00, c01, c02, c03⟩ := P.open2
    go_wp2_with fail
    refine (KP _).mono ?_
    rintro e w2 ⟨rfl, hb⟩
    clear c00 c01 c02 c03
    replace X := X.keep hb
    replace P := P.keep hb
    replace hB := bt hB hb
    clear hb
    obtain ⟨c00, c01, c02, c03, c04, c05, c06, c07⟩ := X.open6
    obtain ⟨c10, c11, c12, c13⟩ := P.open2
    go_wp2_with fail
    go_returns
    exact ⟨ret_bool HE.out.symm, hB⟩
end Go.Proofs.Ytcgcocingfhleaa
