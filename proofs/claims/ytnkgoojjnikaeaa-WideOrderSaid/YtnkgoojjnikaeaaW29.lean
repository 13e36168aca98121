/-
  The walk of WideOrder.
-/
import Derived.Test.YtnkgoojjnikaeaaW23
import Derived.Test.YtnkgoojjnikaeaaBlk
namespace Go.Proofs.Ytnkgoojjnikaeaa
set_option linter.unusedVariables false
set_option linter.unusedSimpArgs false
open Go.RowKit

theorem rv_ok {v : Int} (h : Wi.okb v = true) : Wi.rv v = v := Wi.rv_yes (of_decide_eq_true h)
theorem hl_eq {h l x h' l' y : Int} (H : Wi.Wd h l x) (H' : Wi.Wd h' l' y) (e : x = y) : h = h' ∧ l = l' := by
  subst e
  exact ⟨H.hh.trans H'.hh.symm, H.hl.trans H'.hl.symm⟩
theorem hl_ne {h l x h' l' y : Int} (H : Wi.Wd h l x) (H' : Wi.Wd h' l' y) (e : x ≠ y) : (h == h' && l == l') = false := by
  have b := H.bd
  have b' := H'.bd
  cases q : (h == h' && l == l')
  · rfl
  · simp at q
    exact absurd (by omega) e

set_option maxRecDepth 100000 in
set_option maxHeartbeats 4000000 in
theorem order_lth (h l x h' l' y h'' l'' z : Int) (w : World) (H : Wi.Wd h l x) (H' : Wi.Wd h' l' y) (H'' : Wi.Wd h'' l'' z) (hr : x < y) (hd : (h == h') = false) : Calls Try.prog 8 #[.agg #[.int .i64 h, .int .u64 l], .agg #[.int .i64 h', .int .u64 l'], .agg #[.int .i64 h'', .int .u64 l'']] w fun e w' =>
    e = .returned (.bool true) ∧ Below w.heap.size w w' := by
  have e1 := Lib.hid (Wi.cm_lt (x := x) (y := y) (by omega))
  have e2 := Lib.hid (Wi.cm_gt (x := y) (y := x) (by omega))
  have e5 := Lib.hid (fun hk : Wi.okb (x - y) = true => (show Wi.cm (Wi.rv (x - y)) 0 = -1 from by rw [rv_ok hk]; exact Wi.cm_lt (by omega)))
  by_cases hyz : y < z
  · have e3 := Lib.hid (Wi.cm_lt (x := y) (y := z) (by omega))
    have e4 := Lib.hid (Wi.cm_lt (x := x) (y := z) (by omega))
    clear hr hyz
    cases hk : Wi.okb (x - y)
    · clear e5
      replace hk := Lib.hid hk
      go_enter Try.func8, Try.ntmps8
      have X := Blk.new w 24 #[.int .i64 h, .int .u64 l]
      have Y := Blk.new1 w (.cells #[.int .i64 h, .int .u64 l] 24) 24 #[.int .i64 h', .int .u64 l']
      replace X := X.alloc (.cells #[.int .i64 h', .int .u64 l'] 24)
      have Z := Blk.new2 w (.cells #[.int .i64 h, .int .u64 l] 24) (.cells #[.int .i64 h', .int .u64 l'] 24) 24 #[.int .i64 h'', .int .u64 l'']
      replace X := X.alloc (.cells #[.int .i64 h'', .int .u64 l''] 24)
      replace Y := Y.alloc (.cells #[.int .i64 h'', .int .u64 l''] 24)
      have hB := bal (bal (ba w (.cells #[.int .i64 h, .int .u64 l] 24)) (.cells #[.int .i64 h', .int .u64 l'] 24)) (.cells #[.int .i64 h'', .int .u64 l''] 24)
      go_wp2_with fail
      refine (awake_c _).mono ?_
      rintro e w1 ⟨rfl, hb⟩
      replace X := X.keep hb
      replace Y := Y.keep hb
      replace Z := Z.keep hb
      replace hB := bt hB hb
      clear hb
      obtain ⟨c00, c01, c02, c03⟩ := X.open2
      obtain ⟨c10, c11, c12, c13⟩ := Y.open2
      go_wp2_with fail
      refine (sub_c _ _ _ _ _ _ _ H H').mono ?_
      rw [hk.out]
      rintro e w2 ⟨rfl, hb⟩
      clear c00 c01 c02 c03 c10 c11 c12 c13
      replace X := X.keep hb
      replace Y := Y.keep hb
      replace Z := Z.keep hb
      replace hB := bt hB hb
      clear hb
      have l2X := X.lt
      have l2Y := Y.lt
      have l2Z := Z.lt
      replace X := X.alloc (.cells #[.int .i64 (Wi.Hq (Wi.rv (x - y))), .int .u64 (Wi.Lr (Wi.rv (x - y)))] 24)
      replace Y := Y.alloc (.cells #[.int .i64 (Wi.Hq (Wi.rv (x - y))), .int .u64 (Wi.Lr (Wi.rv (x - y)))] 24)
      replace Z := Z.alloc (.cells #[.int .i64 (Wi.Hq (Wi.rv (x - y))), .int .u64 (Wi.Lr (Wi.rv (x - y)))] 24)
      replace hB := bal hB (.cells #[.int .i64 (Wi.Hq (Wi.rv (x - y))), .int .u64 (Wi.Lr (Wi.rv (x - y)))] 24)
      have P := Blk.new w2 24 #[.int .i64 (Wi.Hq (Wi.rv (x - y))), .int .u64 (Wi.Lr (Wi.rv (x - y)))]
      obtain ⟨c00, c01, c02, c03⟩ := X.open2
      obtain ⟨c10, c11, c12, c13⟩ := Y.open2
      go_wp2_with fail
      refine (cmp_c _ _ _ _ _ _ _ H H').mono ?_
      rw [e1.out]
      rintro e w3 ⟨rfl, hb⟩
      clear c00 c01 c02 c03 c10 c11 c12 c13
      replace X := X.keep hb
      replace Y := Y.keep hb
      replace Z := Z.keep hb
      replace P := P.keep hb
      replace hB := bt hB hb
      clear hb
      obtain ⟨c00, c01, c02, c03⟩ := X.open2
      obtain ⟨c10, c11, c12, c13⟩ := Y.open2
      go_wp2_with fail
      refine (cmp_c _ _ _ _ _ _ _ H' H).mono ?_
      rw [e2.out]
      rintro e w4 ⟨rfl, hb⟩
      clear c00 c01 c02 c03 c10 c11 c12 c13
      replace X := X.keep hb
      replace Y := Y.keep hb
      replace Z := Z.keep hb
      replace P := P.keep hb
      replace hB := bt hB hb
      clear hb
      obtain ⟨c00, c01, c02, c03⟩ := Y.open2
      obtain ⟨c10, c11, c12, c13⟩ := Z.open2
      go_wp2_with fail
      refine (cmp_c _ _ _ _ _ _ _ H' H'').mono ?_
      rw [e3.out]
      rintro e w5 ⟨rfl, hb⟩
      clear c00 c01 c02 c03 c10 c11 c12 c13
      replace X := X.keep hb
      replace Y := Y.keep hb
      replace Z := Z.keep hb
      replace P := P.keep hb
      replace hB := bt hB hb
      clear hb
      obtain ⟨c00, c01, c02, c03⟩ := X.open2
      obtain ⟨c10, c11, c12, c13⟩ := Z.open2
      go_wp2_with fail
      refine (cmp_c _ _ _ _ _ _ _ H H'').mono ?_
      rw [e4.out]
      rintro e w6 ⟨rfl, hb⟩
      clear c00 c01 c02 c03 c10 c11 c12 c13
      replace X := X.keep hb
      replace Y := Y.keep hb
      replace Z := Z.keep hb
      replace P := P.keep hb
      replace hB := bt hB hb
      clear hb
      obtain ⟨c00, c01, c02, c03⟩ := X.open2
      obtain ⟨c10, c11, c12, c13⟩ := Y.open2
      go_wp2_with fail
      go_returns
      exact ⟨rfl, hB⟩
    · have e6 := Lib.hid (e5.out hk)
      replace hk := Lib.hid hk
      go_enter Try.func8, Try.ntmps8
      have X := Blk.new w 24 #[.int .i64 h, .int .u64 l]
      have Y := Blk.new1 w (.cells #[.int .i64 h, .int .u64 l] 24) 24 #[.int .i64 h', .int .u64 l']
      replace X := X.alloc (.cells #[.int .i64 h', .int .u64 l'] 24)
      have Z := Blk.new2 w (.cells #[.int .i64 h, .int .u64 l] 24) (.cells #[.int .i64 h', .int .u64 l'] 24) 24 #[.int .i64 h'', .int .u64 l'']
      replace X := X.alloc (.cells #[.int .i64 h'', .int .u64 l''] 24)
      replace Y := Y.alloc (.cells #[.int .i64 h'', .int .u64 l''] 24)
      have hB := bal (bal (ba w (.cells #[.int .i64 h, .int .u64 l] 24)) (.cells #[.int .i64 h', .int .u64 l'] 24)) (.cells #[.int .i64 h'', .int .u64 l''] 24)
      go_wp2_with fail
      refine (awake_c _).mono ?_
      rintro e w1 ⟨rfl, hb⟩
      replace X := X.keep hb
      replace Y := Y.keep hb
      replace Z := Z.keep hb
      replace hB := bt hB hb
      clear hb
      obtain ⟨c00, c01, c02, c03⟩ := X.open2
      obtain ⟨c10, c11, c12, c13⟩ := Y.open2
      go_wp2_with fail
      refine (sub_c _ _ _ _ _ _ _ H H').mono ?_
      rw [hk.out]
      rintro e w2 ⟨rfl, hb⟩
      clear c00 c01 c02 c03 c10 c11 c12 c13
      replace X := X.keep hb
      replace Y := Y.keep hb
      replace Z := Z.keep hb
      replace hB := bt hB hb
      clear hb
      have l2X := X.lt
      have l2Y := Y.lt
      have l2Z := Z.lt
      replace X := X.alloc (.cells #[.int .i64 (Wi.Hq (Wi.rv (x - y))), .int .u64 (Wi.Lr (Wi.rv (x - y)))] 24)
      replace Y := Y.alloc (.cells #[.int .i64 (Wi.Hq (Wi.rv (x - y))), .int .u64 (Wi.Lr (Wi.rv (x - y)))] 24)
      replace Z := Z.alloc (.cells #[.int .i64 (Wi.Hq (Wi.rv (x - y))), .int .u64 (Wi.Lr (Wi.rv (x - y)))] 24)
      replace hB := bal hB (.cells #[.int .i64 (Wi.Hq (Wi.rv (x - y))), .int .u64 (Wi.Lr (Wi.rv (x - y)))] 24)
      have P := Blk.new w2 24 #[.int .i64 (Wi.Hq (Wi.rv (x - y))), .int .u64 (Wi.Lr (Wi.rv (x - y)))]
      obtain ⟨c00, c01, c02, c03⟩ := X.open2
      obtain ⟨c10, c11, c12, c13⟩ := Y.open2
      go_wp2_with fail
      refine (cmp_c _ _ _ _ _ _ _ H H').mono ?_
      rw [e1.out]
      rintro e w3 ⟨rfl, hb⟩
      clear c00 c01 c02 c03 c10 c11 c12 c13
      replace X := X.keep hb
      replace Y := Y.keep hb
      replace Z := Z.keep hb
      replace P := P.keep hb
      replace hB := bt hB hb
      clear hb
      obtain ⟨c00, c01, c02, c03⟩ := P.open2
      go_wp2_with fail
      refine (sign_c _ _ _ _ (Wi.wd_rv _)).mono ?_
      rw [e6.out]
      rintro e w4 ⟨rfl, hb⟩
      clear c00 c01 c02 c03
      replace X := X.keep hb
      replace Y := Y.keep hb
      replace Z := Z.keep hb
      replace P := P.keep hb
      replace hB := bt hB hb
      clear hb
      obtain ⟨c00, c01, c02, c03⟩ := X.open2
      obtain ⟨c10, c11, c12, c13⟩ := Y.open2
      go_wp2_with fail
      refine (cmp_c _ _ _ _ _ _ _ H' H).mono ?_
      rw [e2.out]
      rintro e w5 ⟨rfl, hb⟩
      clear c00 c01 c02 c03 c10 c11 c12 c13
      replace X := X.keep hb
      replace Y := Y.keep hb
      replace Z := Z.keep hb
      replace P := P.keep hb
      replace hB := bt hB hb
      clear hb
      obtain ⟨c00, c01, c02, c03⟩ := Y.open2
      obtain ⟨c10, c11, c12, c13⟩ := Z.open2
      go_wp2_with fail
      refine (cmp_c _ _ _ _ _ _ _ H' H'').mono ?_
      rw [e3.out]
      rintro e w6 ⟨rfl, hb⟩
      clear c00 c01 c02 c03 c10 c11 c12 c13
      replace X := X.keep hb
      replace Y := Y.keep hb
      replace Z := Z.keep hb
      replace P := P.keep hb
      replace hB := bt hB hb
      clear hb
      obtain ⟨c00, c01, c02, c03⟩ := X.open2
      obtain ⟨c10, c11, c12, c13⟩ := Z.open2
      go_wp2_with fail
      refine (cmp_c _ _ _ _ _ _ _ H H'').mono ?_
      rw [e4.out]
      rintro e w7 ⟨rfl, hb⟩
      clear c00 c01 c02 c03 c10 c11 c12 c13
      replace X := X.keep hb
      replace Y := Y.keep hb
      replace Z := Z.keep hb
      replace P := P.keep hb
      replace hB := bt hB hb
      clear hb
      obtain ⟨c00, c01, c02, c03⟩ := X.open2
      obtain ⟨c10, c11, c12, c13⟩ := Y.open2
      go_wp2_with fail
      go_returns
      exact ⟨rfl, hB⟩
  by_cases hyz2 : y = z
  · have e3 := Lib.hid (Wi.cm_eq (x := y) (y := z) (by omega))
    clear hr hyz hyz2
    cases hk : Wi.okb (x - y)
    · clear e5
      replace hk := Lib.hid hk
      go_enter Try.func8, Try.ntmps8
      have X := Blk.new w 24 #[.int .i64 h, .int .u64 l]
      have Y := Blk.new1 w (.cells #[.int .i64 h, .int .u64 l] 24) 24 #[.int .i64 h', .int .u64 l']
      replace X := X.alloc (.cells #[.int .i64 h', .int .u64 l'] 24)
      have Z := Blk.new2 w (.cells #[.int .i64 h, .int .u64 l] 24) (.cells #[.int .i64 h', .int .u64 l'] 24) 24 #[.int .i64 h'', .int .u64 l'']
      replace X := X.alloc (.cells #[.int .i64 h'', .int .u64 l''] 24)
      replace Y := Y.alloc (.cells #[.int .i64 h'', .int .u64 l''] 24)
      have hB := bal (bal (ba w (.cells #[.int .i64 h, .int .u64 l] 24)) (.cells #[.int .i64 h', .int .u64 l'] 24)) (.cells #[.int .i64 h'', .int .u64 l''] 24)
      go_wp2_with fail
      refine (awake_c _).mono ?_
      rintro e w1 ⟨rfl, hb⟩
      replace X := X.keep hb
      replace Y := Y.keep hb
      replace Z := Z.keep hb
      replace hB := bt hB hb
      clear hb
      obtain ⟨c00, c01, c02, c03⟩ := X.open2
      obtain ⟨c10, c11, c12, c13⟩ := Y.open2
      go_wp2_with fail
      refine (sub_c _ _ _ _ _ _ _ H H').mono ?_
      rw [hk.out]
      rintro e w2 ⟨rfl, hb⟩
      clear c00 c01 c02 c03 c10 c11 c12 c13
      replace X := X.keep hb
      replace Y := Y.keep hb
      replace Z := Z.keep hb
      replace hB := bt hB hb
      clear hb
      have l2X := X.lt
      have l2Y := Y.lt
      have l2Z := Z.lt
      replace X := X.alloc (.cells #[.int .i64 (Wi.Hq (Wi.rv (x - y))), .int .u64 (Wi.Lr (Wi.rv (x - y)))] 24)
      replace Y := Y.alloc (.cells #[.int .i64 (Wi.Hq (Wi.rv (x - y))), .int .u64 (Wi.Lr (Wi.rv (x - y)))] 24)
      replace Z := Z.alloc (.cells #[.int .i64 (Wi.Hq (Wi.rv (x - y))), .int .u64 (Wi.Lr (Wi.rv (x - y)))] 24)
      replace hB := bal hB (.cells #[.int .i64 (Wi.Hq (Wi.rv (x - y))), .int .u64 (Wi.Lr (Wi.rv (x - y)))] 24)
      have P := Blk.new w2 24 #[.int .i64 (Wi.Hq (Wi.rv (x - y))), .int .u64 (Wi.Lr (Wi.rv (x - y)))]
      obtain ⟨c00, c01, c02, c03⟩ := X.open2
      obtain ⟨c10, c11, c12, c13⟩ := Y.open2
      go_wp2_with fail
      refine (cmp_c _ _ _ _ _ _ _ H H').mono ?_
      rw [e1.out]
      rintro e w3 ⟨rfl, hb⟩
      clear c00 c01 c02 c03 c10 c11 c12 c13
      replace X := X.keep hb
      replace Y := Y.keep hb
      replace Z := Z.keep hb
      replace P := P.keep hb
      replace hB := bt hB hb
      clear hb
      obtain ⟨c00, c01, c02, c03⟩ := X.open2
      obtain ⟨c10, c11, c12, c13⟩ := Y.open2
      go_wp2_with fail
      refine (cmp_c _ _ _ _ _ _ _ H' H).mono ?_
      rw [e2.out]
      rintro e w4 ⟨rfl, hb⟩
      clear c00 c01 c02 c03 c10 c11 c12 c13
      replace X := X.keep hb
      replace Y := Y.keep hb
      replace Z := Z.keep hb
      replace P := P.keep hb
      replace hB := bt hB hb
      clear hb
      obtain ⟨c00, c01, c02, c03⟩ := Y.open2
      obtain ⟨c10, c11, c12, c13⟩ := Z.open2
      go_wp2_with fail
      refine (cmp_c _ _ _ _ _ _ _ H' H'').mono ?_
      rw [e3.out]
      rintro e w5 ⟨rfl, hb⟩
      clear c00 c01 c02 c03 c10 c11 c12 c13
      replace X := X.keep hb
      replace Y := Y.keep hb
      replace Z := Z.keep hb
      replace P := P.keep hb
      replace hB := bt hB hb
      clear hb
      obtain ⟨c00, c01, c02, c03⟩ := X.open2
      obtain ⟨c10, c11, c12, c13⟩ := Y.open2
      go_wp2_with fail
      go_returns
      exact ⟨rfl, hB⟩
    · have e6 := Lib.hid (e5.out hk)
      replace hk := Lib.hid hk
      go_enter Try.func8, Try.ntmps8
      have X := Blk.new w 24 #[.int .i64 h, .int .u64 l]
      have Y := Blk.new1 w (.cells #[.int .i64 h, .int .u64 l] 24) 24 #[.int .i64 h', .int .u64 l']
      replace X := X.alloc (.cells #[.int .i64 h', .int .u64 l'] 24)
      have Z := Blk.new2 w (.cells #[.int .i64 h, .int .u64 l] 24) (.cells #[.int .i64 h', .int .u64 l'] 24) 24 #[.int .i64 h'', .int .u64 l'']
      replace X := X.alloc (.cells #[.int .i64 h'', .int .u64 l''] 24)
      replace Y := Y.alloc (.cells #[.int .i64 h'', .int .u64 l''] 24)
      have hB := bal (bal (ba w (.cells #[.int .i64 h, .int .u64 l] 24)) (.cells #[.int .i64 h', .int .u64 l'] 24)) (.cells #[.int .i64 h'', .int .u64 l''] 24)
      go_wp2_with fail
      refine (awake_c _).mono ?_
      rintro e w1 ⟨rfl, hb⟩
      replace X := X.keep hb
      replace Y := Y.keep hb
      replace Z := Z.keep hb
      replace hB := bt hB hb
      clear hb
      obtain ⟨c00, c01, c02, c03⟩ := X.open2
      obtain ⟨c10, c11, c12, c13⟩ := Y.open2
      go_wp2_with fail
      refine (sub_c _ _ _ _ _ _ _ H H').mono ?_
      rw [hk.out]
      rintro e w2 ⟨rfl, hb⟩
      clear c00 c01 c02 c03 c10 c11 c12 c13
      replace X := X.keep hb
      replace Y := Y.keep hb
      replace Z := Z.keep hb
      replace hB := bt hB hb
      clear hb
      have l2X := X.lt
      have l2Y := Y.lt
      have l2Z := Z.lt
      replace X := X.alloc (.cells #[.int .i64 (Wi.Hq (Wi.rv (x - y))), .int .u64 (Wi.Lr (Wi.rv (x - y)))] 24)
      replace Y := Y.alloc (.cells #[.int .i64 (Wi.Hq (Wi.rv (x - y))), .int .u64 (Wi.Lr (Wi.rv (x - y)))] 24)
      replace Z := Z.alloc (.cells #[.int .i64 (Wi.Hq (Wi.rv (x - y))), .int .u64 (Wi.Lr (Wi.rv (x - y)))] 24)
      replace hB := bal hB (.cells #[.int .i64 (Wi.Hq (Wi.rv (x - y))), .int .u64 (Wi.Lr (Wi.rv (x - y)))] 24)
      have P := Blk.new w2 24 #[.int .i64 (Wi.Hq (Wi.rv (x - y))), .int .u64 (Wi.Lr (Wi.rv (x - y)))]
      obtain ⟨c00, c01, c02, c03⟩ := X.open2
      obtain ⟨c10, c11, c12, c13⟩ := Y.open2
      go_wp2_with fail
      refine (cmp_c _ _ _ _ _ _ _ H H').mono ?_
      rw [e1.out]
      rintro e w3 ⟨rfl, hb⟩
      clear c00 c01 c02 c03 c10 c11 c12 c13
      replace X := X.keep hb
      replace Y := Y.keep hb
      replace Z := Z.keep hb
      replace P := P.keep hb
      replace hB := bt hB hb
      clear hb
      obtain ⟨c00, c01, c02, c03⟩ := P.open2
      go_wp2_with fail
      refine (sign_c _ _ _ _ (Wi.wd_rv _)).mono ?_
      rw [e6.out]
      rintro e w4 ⟨rfl, hb⟩
      clear c00 c01 c02 c03
      replace X := X.keep hb
      replace Y := Y.keep hb
      replace Z := Z.keep hb
      replace P := P.keep hb
      replace hB := bt hB hb
      clear hb
      obtain ⟨c00, c01, c02, c03⟩ := X.open2
      obtain ⟨c10, c11, c12, c13⟩ := Y.open2
      go_wp2_with fail
      refine (cmp_c _ _ _ _ _ _ _ H' H).mono ?_
      rw [e2.out]
      rintro e w5 ⟨rfl, hb⟩
      clear c00 c01 c02 c03 c10 c11 c12 c13
      replace X := X.keep hb
      replace Y := Y.keep hb
      replace Z := Z.keep hb
      replace P := P.keep hb
      replace hB := bt hB hb
      clear hb
      obtain ⟨c00, c01, c02, c03⟩ := Y.open2
      obtain ⟨c10, c11, c12, c13⟩ := Z.open2
      go_wp2_with fail
      refine (cmp_c _ _ _ _ _ _ _ H' H'').mono ?_
      rw [e3.out]
      rintro e w6 ⟨rfl, hb⟩
      clear c00 c01 c02 c03 c10 c11 c12 c13
      replace X := X.keep hb
      replace Y := Y.keep hb
      replace Z := Z.keep hb
      replace P := P.keep hb
      replace hB := bt hB hb
      clear hb
      obtain ⟨c00, c01, c02, c03⟩ := X.open2
      obtain ⟨c10, c11, c12, c13⟩ := Y.open2
      go_wp2_with fail
      go_returns
      exact ⟨rfl, hB⟩
  · have e3 := Lib.hid (Wi.cm_gt (x := y) (y := z) (by omega))
    clear hr hyz hyz2
    cases hk : Wi.okb (x - y)
    · clear e5
      replace hk := Lib.hid hk
      go_enter Try.func8, Try.ntmps8
      have X := Blk.new w 24 #[.int .i64 h, .int .u64 l]
      have Y := Blk.new1 w (.cells #[.int .i64 h, .int .u64 l] 24) 24 #[.int .i64 h', .int .u64 l']
      replace X := X.alloc (.cells #[.int .i64 h', .int .u64 l'] 24)
      have Z := Blk.new2 w (.cells #[.int .i64 h, .int .u64 l] 24) (.cells #[.int .i64 h', .int .u64 l'] 24) 24 #[.int .i64 h'', .int .u64 l'']
      replace X := X.alloc (.cells #[.int .i64 h'', .int .u64 l''] 24)
      replace Y := Y.alloc (.cells #[.int .i64 h'', .int .u64 l''] 24)
      have hB := bal (bal (ba w (.cells #[.int .i64 h, .int .u64 l] 24)) (.cells #[.int .i64 h', .int .u64 l'] 24)) (.cells #[.int .i64 h'', .int .u64 l''] 24)
      go_wp2_with fail
      refine (awake_c _).mono ?_
      rintro e w1 ⟨rfl, hb⟩
      replace X := X.keep hb
      replace Y := Y.keep hb
      replace Z := Z.keep hb
      replace hB := bt hB hb
      clear hb
      obtain ⟨c00, c01, c02, c03⟩ := X.open2
      obtain ⟨c10, c11, c12, c13⟩ := Y.open2
      go_wp2_with fail
      refine (sub_c _ _ _ _ _ _ _ H H').mono ?_
      rw [hk.out]
      rintro e w2 ⟨rfl, hb⟩
      clear c00 c01 c02 c03 c10 c11 c12 c13
      replace X := X.keep hb
      replace Y := Y.keep hb
      replace Z := Z.keep hb
      replace hB := bt hB hb
      clear hb
      have l2X := X.lt
      have l2Y := Y.lt
      have l2Z := Z.lt
      replace X := X.alloc (.cells #[.int .i64 (Wi.Hq (Wi.rv (x - y))), .int .u64 (Wi.Lr (Wi.rv (x - y)))] 24)
      replace Y := Y.alloc (.cells #[.int .i64 (Wi.Hq (Wi.rv (x - y))), .int .u64 (Wi.Lr (Wi.rv (x - y)))] 24)
      replace Z := Z.alloc (.cells #[.int .i64 (Wi.Hq (Wi.rv (x - y))), .int .u64 (Wi.Lr (Wi.rv (x - y)))] 24)
      replace hB := bal hB (.cells #[.int .i64 (Wi.Hq (Wi.rv (x - y))), .int .u64 (Wi.Lr (Wi.rv (x - y)))] 24)
      have P := Blk.new w2 24 #[.int .i64 (Wi.Hq (Wi.rv (x - y))), .int .u64 (Wi.Lr (Wi.rv (x - y)))]
      obtain ⟨c00, c01, c02, c03⟩ := X.open2
      obtain ⟨c10, c11, c12, c13⟩ := Y.open2
      go_wp2_with fail
      refine (cmp_c _ _ _ _ _ _ _ H H').mono ?_
      rw [e1.out]
      rintro e w3 ⟨rfl, hb⟩
      clear c00 c01 c02 c03 c10 c11 c12 c13
      replace X := X.keep hb
      replace Y := Y.keep hb
      replace Z := Z.keep hb
      replace P := P.keep hb
      replace hB := bt hB hb
      clear hb
      obtain ⟨c00, c01, c02, c03⟩ := X.open2
      obtain ⟨c10, c11, c12, c13⟩ := Y.open2
      go_wp2_with fail
      refine (cmp_c _ _ _ _ _ _ _ H' H).mono ?_
      rw [e2.out]
      rintro e w4 ⟨rfl, hb⟩
      clear c00 c01 c02 c03 c10 c11 c12 c13
      replace X := X.keep hb
      replace Y := Y.keep hb
      replace Z := Z.keep hb
      replace P := P.keep hb
      replace hB := bt hB hb
      clear hb
      obtain ⟨c00, c01, c02, c03⟩ := Y.open2
      obtain ⟨c10, c11, c12, c13⟩ := Z.open2
      go_wp2_with fail
      refine (cmp_c _ _ _ _ _ _ _ H' H'').mono ?_
      rw [e3.out]
      rintro e w5 ⟨rfl, hb⟩
      clear c00 c01 c02 c03 c10 c11 c12 c13
      replace X := X.keep hb
      replace Y := Y.keep hb
      replace Z := Z.keep hb
      replace P := P.keep hb
      replace hB := bt hB hb
      clear hb
      obtain ⟨c00, c01, c02, c03⟩ := X.open2
      obtain ⟨c10, c11, c12, c13⟩ := Y.open2
      go_wp2_with fail
      go_returns
      exact ⟨rfl, hB⟩
    · have e6 := Lib.hid (e5.out hk)
      replace hk := Lib.hid hk
      go_enter Try.func8, Try.ntmps8
      have X := Blk.new w 24 #[.int .i64 h, .int .u64 l]
      have Y := Blk.new1 w (.cells #[.int .i64 h, .int .u64 l] 24) 24 #[.int .i64 h', .int .u64 l']
      replace X := X.alloc (.cells #[.int .i64 h', .int .u64 l'] 24)
      have Z := Blk.new2 w (.cells #[.int .i64 h, .int .u64 l] 24) (.cells #[.int .i64 h', .int .u64 l'] 24) 24 #[.int .i64 h'', .int .u64 l'']
      replace X := X.alloc (.cells #[.int .i64 h'', .int .u64 l''] 24)
      replace Y := Y.alloc (.cells #[.int .i64 h'', .int .u64 l''] 24)
      have hB := bal (bal (ba w (.cells #[.int .i64 h, .int .u64 l] 24)) (.cells #[.int .i64 h', .int .u64 l'] 24)) (.cells #[.int .i64 h'', .int .u64 l''] 24)
      go_wp2_with fail
      refine (awake_c _).mono ?_
      rintro e w1 ⟨rfl, hb⟩
      replace X := X.keep hb
      replace Y := Y.keep hb
      replace Z := Z.keep hb
      replace hB := bt hB hb
      clear hb
      obtain ⟨c00, c01, c02, c03⟩ := X.open2
      obtain ⟨c10, c11, c12, c13⟩ := Y.open2
      go_wp2_with fail
      refine (sub_c _ _ _ _ _ _ _ H H').mono ?_
      rw [hk.out]
      rintro e w2 ⟨rfl, hb⟩
      clear c00 c01 c02 c03 c10 c11 c12 c13
      replace X := X.keep hb
      replace Y := Y.keep hb
      replace Z := Z.keep hb
      replace hB := bt hB hb
      clear hb
      have l2X := X.lt
      have l2Y := Y.lt
      have l2Z := Z.lt
      replace X := X.alloc (.cells #[.int .i64 (Wi.Hq (Wi.rv (x - y))), .int .u64 (Wi.Lr (Wi.rv (x - y)))] 24)
      replace Y := Y.alloc (.cells #[.int .i64 (Wi.Hq (Wi.rv (x - y))), .int .u64 (Wi.Lr (Wi.rv (x - y)))] 24)
      replace Z := Z.alloc (.cells #[.int .i64 (Wi.Hq (Wi.rv (x - y))), .int .u64 (Wi.Lr (Wi.rv (x - y)))] 24)
      replace hB := bal hB (.cells #[.int .i64 (Wi.Hq (Wi.rv (x - y))), .int .u64 (Wi.Lr (Wi.rv (x - y)))] 24)
      have P := Blk.new w2 24 #[.int .i64 (Wi.Hq (Wi.rv (x - y))), .int .u64 (Wi.Lr (Wi.rv (x - y)))]
      obtain ⟨c00, c01, c02, c03⟩ := X.open2
      obtain ⟨c10, c11, c12, c13⟩ := Y.open2
      go_wp2_with fail
      refine (cmp_c _ _ _ _ _ _ _ H H').mono ?_
      rw [e1.out]
      rintro e w3 ⟨rfl, hb⟩
      clear c00 c01 c02 c03 c10 c11 c12 c13
      replace X := X.keep hb
      replace Y := Y.keep hb
      replace Z := Z.keep hb
      replace P := P.keep hb
      replace hB := bt hB hb
      clear hb
      obtain ⟨c00, c01, c02, c03⟩ := P.open2
      go_wp2_with fail
      refine (sign_c _ _ _ _ (Wi.wd_rv _)).mono ?_
      rw [e6.out]
      rintro e w4 ⟨rfl, hb⟩
      clear c00 c01 c02 c03
      replace X := X.keep hb
      replace Y := Y.keep hb
      replace Z := Z.keep hb
      replace P := P.keep hb
      replace hB := bt hB hb
      clear hb
      obtain ⟨c00, c01, c02, c03⟩ := X.open2
      obtain ⟨c10, c11, c12, c13⟩ := Y.open2
      go_wp2_with fail
      refine (cmp_c _ _ _ _ _ _ _ H' H).mono ?_
      rw [e2.out]
      rintro e w5 ⟨rfl, hb⟩
      clear c00 c01 c02 c03 c10 c11 c12 c13
      replace X := X.keep hb
      replace Y := Y.keep hb
      replace Z := Z.keep hb
      replace P := P.keep hb
      replace hB := bt hB hb
      clear hb
      obtain ⟨c00, c01, c02, c03⟩ := Y.open2
      obtain ⟨c10, c11, c12, c13⟩ := Z.open2
      go_wp2_with fail
      refine (cmp_c _ _ _ _ _ _ _ H' H'').mono ?_
      rw [e3.out]
      rintro e w6 ⟨rfl, hb⟩
      clear c00 c01 c02 c03 c10 c11 c12 c13
      replace X := X.keep hb
      replace Y := Y.keep hb
      replace Z := Z.keep hb
      replace P := P.keep hb
      replace hB := bt hB hb
      clear hb
      obtain ⟨c00, c01, c02, c03⟩ := X.open2
      obtain ⟨c10, c11, c12, c13⟩ := Y.open2
      go_wp2_with fail
      go_returns
      exact ⟨rfl, hB⟩

set_option maxRecDepth 100000 in
set_option maxHeartbeats 4000000 in
theorem order_ltl (h l x l' y h'' l'' z : Int) (w : World) (H : Wi.Wd h l x) (H' : Wi.Wd h l' y) (H'' : Wi.Wd h'' l'' z) (hr : x < y) (hd : (l == l') = false) : Calls Try.prog 8 #[.agg #[.int .i64 h, .int .u64 l], .agg #[.int .i64 h, .int .u64 l'], .agg #[.int .i64 h'', .int .u64 l'']] w fun e w' =>
    e = .returned (.bool true) ∧ Below w.heap.size w w' := by
  have e1 := Lib.hid (Wi.cm_lt (x := x) (y := y) (by omega))
  have e2 := Lib.hid (Wi.cm_gt (x := y) (y := x) (by omega))
  have e5 := Lib.hid (fun hk : Wi.okb (x - y) = true => (show Wi.cm (Wi.rv (x - y)) 0 = -1 from by rw [rv_ok hk]; exact Wi.cm_lt (by omega)))
  by_cases hyz : y < z
  · have e3 := Lib.hid (Wi.cm_lt (x := y) (y := z) (by omega))
    have e4 := Lib.hid (Wi.cm_lt (x := x) (y := z) (by omega))
    clear hr hyz
    cases hk : Wi.okb (x - y)
    · clear e5
      replace hk := Lib.hid hk
      go_enter Try.func8, Try.ntmps8
      have X := Blk.new w 24 #[.int .i64 h, .int .u64 l]
      have Y := Blk.new1 w (.cells #[.int .i64 h, .int .u64 l] 24) 24 #[.int .i64 h, .int .u64 l']
      replace X := X.alloc (.cells #[.int .i64 h, .int .u64 l'] 24)
      have Z := Blk.new2 w (.cells #[.int .i64 h, .int .u64 l] 24) (.cells #[.int .i64 h, .int .u64 l'] 24) 24 #[.int .i64 h'', .int .u64 l'']
      replace X := X.alloc (.cells #[.int .i64 h'', .int .u64 l''] 24)
      replace Y := Y.alloc (.cells #[.int .i64 h'', .int .u64 l''] 24)
      have hB := bal (bal (ba w (.cells #[.int .i64 h, .int .u64 l] 24)) (.cells #[.int .i64 h, .int .u64 l'] 24)) (.cells #[.int .i64 h'', .int .u64 l''] 24)
      go_wp2_with fail
      refine (awake_c _).mono ?_
      rintro e w1 ⟨rfl, hb⟩
      replace X := X.keep hb
      replace Y := Y.keep hb
      replace Z := Z.keep hb
      replace hB := bt hB hb
      clear hb
      obtain ⟨c00, c01, c02, c03⟩ := X.open2
      obtain ⟨c10, c11, c12, c13⟩ := Y.open2
      go_wp2_with fail
      refine (sub_c _ _ _ _ _ _ _ H H').mono ?_
      rw [hk.out]
      rintro e w2 ⟨rfl, hb⟩
      clear c00 c01 c02 c03 c10 c11 c12 c13
      replace X := X.keep hb
      replace Y := Y.keep hb
      replace Z := Z.keep hb
      replace hB := bt hB hb
      clear hb
      have l2X := X.lt
      have l2Y := Y.lt
      have l2Z := Z.lt
      replace X := X.alloc (.cells #[.int .i64 (Wi.Hq (Wi.rv (x - y))), .int .u64 (Wi.Lr (Wi.rv (x - y)))] 24)
      replace Y := Y.alloc (.cells #[.int .i64 (Wi.Hq (Wi.rv (x - y))), .int .u64 (Wi.Lr (Wi.rv (x - y)))] 24)
      replace Z := Z.alloc (.cells #[.int .i64 (Wi.Hq (Wi.rv (x - y))), .int .u64 (Wi.Lr (Wi.rv (x - y)))] 24)
      replace hB := bal hB (.cells #[.int .i64 (Wi.Hq (Wi.rv (x - y))), .int .u64 (Wi.Lr (Wi.rv (x - y)))] 24)
      have P := Blk.new w2 24 #[.int .i64 (Wi.Hq (Wi.rv (x - y))), .int .u64 (Wi.Lr (Wi.rv (x - y)))]
      obtain ⟨c00, c01, c02, c03⟩ := X.open2
      obtain ⟨c10, c11, c12, c13⟩ := Y.open2
      go_wp2_with fail
      refine (cmp_c _ _ _ _ _ _ _ H H').mono ?_
      rw [e1.out]
      rintro e w3 ⟨rfl, hb⟩
      clear c00 c01 c02 c03 c10 c11 c12 c13
      replace X := X.keep hb
      replace Y := Y.keep hb
      replace Z := Z.keep hb
      replace P := P.keep hb
      replace hB := bt hB hb
      clear hb
      obtain ⟨c00, c01, c02, c03⟩ := X.open2
      obtain ⟨c10, c11, c12, c13⟩ := Y.open2
      go_wp2_with fail
      refine (cmp_c _ _ _ _ _ _ _ H' H).mono ?_
      rw [e2.out]
      rintro e w4 ⟨rfl, hb⟩
      clear c00 c01 c02 c03 c10 c11 c12 c13
      replace X := X.keep hb
      replace Y := Y.keep hb
      replace Z := Z.keep hb
      replace P := P.keep hb
      replace hB := bt hB hb
      clear hb
      obtain ⟨c00, c01, c02, c03⟩ := Y.open2
      obtain ⟨c10, c11, c12, c13⟩ := Z.open2
      go_wp2_with fail
      refine (cmp_c _ _ _ _ _ _ _ H' H'').mono ?_
      rw [e3.out]
      rintro e w5 ⟨rfl, hb⟩
      clear c00 c01 c02 c03 c10 c11 c12 c13
      replace X := X.keep hb
      replace Y := Y.keep hb
      replace Z := Z.keep hb
      replace P := P.keep hb
      replace hB := bt hB hb
      clear hb
      obtain ⟨c00, c01, c02, c03⟩ := X.open2
      obtain ⟨c10, c11, c12, c13⟩ := Z.open2
      go_wp2_with fail
      refine (cmp_c _ _ _ _ _ _ _ H H'').mono ?_
      rw [e4.out]
      rintro e w6 ⟨rfl, hb⟩
      clear c00 c01 c02 c03 c10 c11 c12 c13
      replace X := X.keep hb
      replace Y := Y.keep hb
      replace Z := Z.keep hb
      replace P := P.keep hb
      replace hB := bt hB hb
      clear hb
      obtain ⟨c00, c01, c02, c03⟩ := X.open2
      obtain ⟨c10, c11, c12, c13⟩ := Y.open2
      go_wp2_with fail
      go_returns
      exact ⟨rfl, hB⟩
    · have e6 := Lib.hid (e5.out hk)
      replace hk := Lib.hid hk
      go_enter Try.func8, Try.ntmps8
      have X := Blk.new w 24 #[.int .i64 h, .int .u64 l]
      have Y := Blk.new1 w (.cells #[.int .i64 h, .int .u64 l] 24) 24 #[.int .i64 h, .int .u64 l']
      replace X := X.alloc (.cells #[.int .i64 h, .int .u64 l'] 24)
      have Z := Blk.new2 w (.cells #[.int .i64 h, .int .u64 l] 24) (.cells #[.int .i64 h, .int .u64 l'] 24) 24 #[.int .i64 h'', .int .u64 l'']
      replace X := X.alloc (.cells #[.int .i64 h'', .int .u64 l''] 24)
      replace Y := Y.alloc (.cells #[.int .i64 h'', .int .u64 l''] 24)
      have hB := bal (bal (ba w (.cells #[.int .i64 h, .int .u64 l] 24)) (.cells #[.int .i64 h, .int .u64 l'] 24)) (.cells #[.int .i64 h'', .int .u64 l''] 24)
      go_wp2_with fail
      refine (awake_c _).mono ?_
      rintro e w1 ⟨rfl, hb⟩
      replace X := X.keep hb
      replace Y := Y.keep hb
      replace Z := Z.keep hb
      replace hB := bt hB hb
      clear hb
      obtain ⟨c00, c01, c02, c03⟩ := X.open2
      obtain ⟨c10, c11, c12, c13⟩ := Y.open2
      go_wp2_with fail
      refine (sub_c _ _ _ _ _ _ _ H H').mono ?_
      rw [hk.out]
      rintro e w2 ⟨rfl, hb⟩
      clear c00 c01 c02 c03 c10 c11 c12 c13
      replace X := X.keep hb
      replace Y := Y.keep hb
      replace Z := Z.keep hb
      replace hB := bt hB hb
      clear hb
      have l2X := X.lt
      have l2Y := Y.lt
      have l2Z := Z.lt
      replace X := X.alloc (.cells #[.int .i64 (Wi.Hq (Wi.rv (x - y))), .int .u64 (Wi.Lr (Wi.rv (x - y)))] 24)
      replace Y := Y.alloc (.cells #[.int .i64 (Wi.Hq (Wi.rv (x - y))), .int .u64 (Wi.Lr (Wi.rv (x - y)))] 24)
      replace Z := Z.alloc (.cells #[.int .i64 (Wi.Hq (Wi.rv (x - y))), .int .u64 (Wi.Lr (Wi.rv (x - y)))] 24)
      replace hB := bal hB (.cells #[.int .i64 (Wi.Hq (Wi.rv (x - y))), .int .u64 (Wi.Lr (Wi.rv (x - y)))] 24)
      have P := Blk.new w2 24 #[.int .i64 (Wi.Hq (Wi.rv (x - y))), .int .u64 (Wi.Lr (Wi.rv (x - y)))]
      obtain ⟨c00, c01, c02, c03⟩ := X.open2
      obtain ⟨c10, c11, c12, c13⟩ := Y.open2
      go_wp2_with fail
      refine (cmp_c _ _ _ _ _ _ _ H H').mono ?_
      rw [e1.out]
      rintro e w3 ⟨rfl, hb⟩
      clear c00 c01 c02 c03 c10 c11 c12 c13
      replace X := X.keep hb
      replace Y := Y.keep hb
      replace Z := Z.keep hb
      replace P := P.keep hb
      replace hB := bt hB hb
      clear hb
      obtain ⟨c00, c01, c02, c03⟩ := P.open2
      go_wp2_with fail
      refine (sign_c _ _ _ _ (Wi.wd_rv _)).mono ?_
      rw [e6.out]
      rintro e w4 ⟨rfl, hb⟩
      clear c00 c01 c02 c03
      replace X := X.keep hb
      replace Y := Y.keep hb
      replace Z := Z.keep hb
      replace P := P.keep hb
      replace hB := bt hB hb
      clear hb
      obtain ⟨c00, c01, c02, c03⟩ := X.open2
      obtain ⟨c10, c11, c12, c13⟩ := Y.open2
      go_wp2_with fail
      refine (cmp_c _ _ _ _ _ _ _ H' H).mono ?_
      rw [e2.out]
      rintro e w5 ⟨rfl, hb⟩
      clear c00 c01 c02 c03 c10 c11 c12 c13
      replace X := X.keep hb
      replace Y := Y.keep hb
      replace Z := Z.keep hb
      replace P := P.keep hb
      replace hB := bt hB hb
      clear hb
      obtain ⟨c00, c01, c02, c03⟩ := Y.open2
      obtain ⟨c10, c11, c12, c13⟩ := Z.open2
      go_wp2_with fail
      refine (cmp_c _ _ _ _ _ _ _ H' H'').mono ?_
      rw [e3.out]
      rintro e w6 ⟨rfl, hb⟩
      clear c00 c01 c02 c03 c10 c11 c12 c13
      replace X := X.keep hb
      replace Y := Y.keep hb
      replace Z := Z.keep hb
      replace P := P.keep hb
      replace hB := bt hB hb
      clear hb
      obtain ⟨c00, c01, c02, c03⟩ := X.open2
      obtain ⟨c10, c11, c12, c13⟩ := Z.open2
      go_wp2_with fail
      refine (cmp_c _ _ _ _ _ _ _ H H'').mono ?_
      rw [e4.out]
      rintro e w7 ⟨rfl, hb⟩
      clear c00 c01 c02 c03 c10 c11 c12 c13
      replace X := X.keep hb
      replace Y := Y.keep hb
      replace Z := Z.keep hb
      replace P := P.keep hb
      replace hB := bt hB hb
      clear hb
      obtain ⟨c00, c01, c02, c03⟩ := X.open2
      obtain ⟨c10, c11, c12, c13⟩ := Y.open2
      go_wp2_with fail
      go_returns
      exact ⟨rfl, hB⟩
  by_cases hyz2 : y = z
  · have e3 := Lib.hid (Wi.cm_eq (x := y) (y := z) (by omega))
    clear hr hyz hyz2
    cases hk : Wi.okb (x - y)
    · clear e5
      replace hk := Lib.hid hk
      go_enter Try.func8, Try.ntmps8
      have X := Blk.new w 24 #[.int .i64 h, .int .u64 l]
      have Y := Blk.new1 w (.cells #[.int .i64 h, .int .u64 l] 24) 24 #[.int .i64 h, .int .u64 l']
      replace X := X.alloc (.cells #[.int .i64 h, .int .u64 l'] 24)
      have Z := Blk.new2 w (.cells #[.int .i64 h, .int .u64 l] 24) (.cells #[.int .i64 h, .int .u64 l'] 24) 24 #[.int .i64 h'', .int .u64 l'']
      replace X := X.alloc (.cells #[.int .i64 h'', .int .u64 l''] 24)
      replace Y := Y.alloc (.cells #[.int .i64 h'', .int .u64 l''] 24)
      have hB := bal (bal (ba w (.cells #[.int .i64 h, .int .u64 l] 24)) (.cells #[.int .i64 h, .int .u64 l'] 24)) (.cells #[.int .i64 h'', .int .u64 l''] 24)
      go_wp2_with fail
      refine (awake_c _).mono ?_
      rintro e w1 ⟨rfl, hb⟩
      replace X := X.keep hb
      replace Y := Y.keep hb
      replace Z := Z.keep hb
      replace hB := bt hB hb
      clear hb
      obtain ⟨c00, c01, c02, c03⟩ := X.open2
      obtain ⟨c10, c11, c12, c13⟩ := Y.open2
      go_wp2_with fail
      refine (sub_c _ _ _ _ _ _ _ H H').mono ?_
      rw [hk.out]
      rintro e w2 ⟨rfl, hb⟩
      clear c00 c01 c02 c03 c10 c11 c12 c13
      replace X := X.keep hb
      replace Y := Y.keep hb
      replace Z := Z.keep hb
      replace hB := bt hB hb
      clear hb
      have l2X := X.lt
      have l2Y := Y.lt
      have l2Z := Z.lt
      replace X := X.alloc (.cells #[.int .i64 (Wi.Hq (Wi.rv (x - y))), .int .u64 (Wi.Lr (Wi.rv (x - y)))] 24)
      replace Y := Y.alloc (.cells #[.int .i64 (Wi.Hq (Wi.rv (x - y))), .int .u64 (Wi.Lr (Wi.rv (x - y)))] 24)
      replace Z := Z.alloc (.cells #[.int .i64 (Wi.Hq (Wi.rv (x - y))), .int .u64 (Wi.Lr (Wi.rv (x - y)))] 24)
      replace hB := bal hB (.cells #[.int .i64 (Wi.Hq (Wi.rv (x - y))), .int .u64 (Wi.Lr (Wi.rv (x - y)))] 24)
      have P := Blk.new w2 24 #[.int .i64 (Wi.Hq (Wi.rv (x - y))), .int .u64 (Wi.Lr (Wi.rv (x - y)))]
      obtain ⟨c00, c01, c02, c03⟩ := X.open2
      obtain ⟨c10, c11, c12, c13⟩ := Y.open2
      go_wp2_with fail
      refine (cmp_c _ _ _ _ _ _ _ H H').mono ?_
      rw [e1.out]
      rintro e w3 ⟨rfl, hb⟩
      clear c00 c01 c02 c03 c10 c11 c12 c13
      replace X := X.keep hb
      replace Y := Y.keep hb
      replace Z := Z.keep hb
      replace P := P.keep hb
      replace hB := bt hB hb
      clear hb
      obtain ⟨c00, c01, c02, c03⟩ := X.open2
      obtain ⟨c10, c11, c12, c13⟩ := Y.open2
      go_wp2_with fail
      refine (cmp_c _ _ _ _ _ _ _ H' H).mono ?_
      rw [e2.out]
      rintro e w4 ⟨rfl, hb⟩
      clear c00 c01 c02 c03 c10 c11 c12 c13
      replace X := X.keep hb
      replace Y := Y.keep hb
      replace Z := Z.keep hb
      replace P := P.keep hb
      replace hB := bt hB hb
      clear hb
      obtain ⟨c00, c01, c02, c03⟩ := Y.open2
      obtain ⟨c10, c11, c12, c13⟩ := Z.open2
      go_wp2_with fail
      refine (cmp_c _ _ _ _ _ _ _ H' H'').mono ?_
      rw [e3.out]
      rintro e w5 ⟨rfl, hb⟩
      clear c00 c01 c02 c03 c10 c11 c12 c13
      replace X := X.keep hb
      replace Y := Y.keep hb
      replace Z := Z.keep hb
      replace P := P.keep hb
      replace hB := bt hB hb
      clear hb
      obtain ⟨c00, c01, c02, c03⟩ := X.open2
      obtain ⟨c10, c11, c12, c13⟩ := Y.open2
      go_wp2_with fail
      go_returns
      exact ⟨rfl, hB⟩
    · have e6 := Lib.hid (e5.out hk)
      replace hk := Lib.hid hk
      go_enter Try.func8, Try.ntmps8
      have X := Blk.new w 24 #[.int .i64 h, .int .u64 l]
      have Y := Blk.new1 w (.cells #[.int .i64 h, .int .u64 l] 24) 24 #[.int .i64 h, .int .u64 l']
      replace X := X.alloc (.cells #[.int .i64 h, .int .u64 l'] 24)
      have Z := Blk.new2 w (.cells #[.int .i64 h, .int .u64 l] 24) (.cells #[.int .i64 h, .int .u64 l'] 24) 24 #[.int .i64 h'', .int .u64 l'']
      replace X := X.alloc (.cells #[.int .i64 h'', .int .u64 l''] 24)
      replace Y := Y.alloc (.cells #[.int .i64 h'', .int .u64 l''] 24)
      have hB := bal (bal (ba w (.cells #[.int .i64 h, .int .u64 l] 24)) (.cells #[.int .i64 h, .int .u64 l'] 24)) (.cells #[.int .i64 h'', .int .u64 l''] 24)
      go_wp2_with fail
      refine (awake_c _).mono ?_
      rintro e w1 ⟨rfl, hb⟩
      replace X := X.keep hb
      replace Y := Y.keep hb
      replace Z := Z.keep hb
      replace hB := bt hB hb
      clear hb
      obtain ⟨c00, c01, c02, c03⟩ := X.open2
      obtain ⟨c10, c11, c12, c13⟩ := Y.open2
      go_wp2_with fail
      refine (sub_c _ _ _ _ _ _ _ H H').mono ?_
      rw [hk.out]
      rintro e w2 ⟨rfl, hb⟩
      clear c00 c01 c02 c03 c10 c11 c12 c13
      replace X := X.keep hb
      replace Y := Y.keep hb
      replace Z := Z.keep hb
      replace hB := bt hB hb
      clear hb
      have l2X := X.lt
      have l2Y := Y.lt
      have l2Z := Z.lt
      replace X := X.alloc (.cells #[.int .i64 (Wi.Hq (Wi.rv (x - y))), .int .u64 (Wi.Lr (Wi.rv (x - y)))] 24)
      replace Y := Y.alloc (.cells #[.int .i64 (Wi.Hq (Wi.rv (x - y))), .int .u64 (Wi.Lr (Wi.rv (x - y)))] 24)
      replace Z := Z.alloc (.cells #[.int .i64 (Wi.Hq (Wi.rv (x - y))), .int .u64 (Wi.Lr (Wi.rv (x - y)))] 24)
      replace hB := bal hB (.cells #[.int .i64 (Wi.Hq (Wi.rv (x - y))), .int .u64 (Wi.Lr (Wi.rv (x - y)))] 24)
      have P := Blk.new w2 24 #[.int .i64 (Wi.Hq (Wi.rv (x - y))), .int .u64 (Wi.Lr (Wi.rv (x - y)))]
      obtain ⟨c00, c01, c02, c03⟩ := X.open2
      obtain ⟨c10, c11, c12, c13⟩ := Y.open2
      go_wp2_with fail
      refine (cmp_c _ _ _ _ _ _ _ H H').mono ?_
      rw [e1.out]
      rintro e w3 ⟨rfl, hb⟩
      clear c00 c01 c02 c03 c10 c11 c12 c13
      replace X := X.keep hb
      replace Y := Y.keep hb
      replace Z := Z.keep hb
      replace P := P.keep hb
      replace hB := bt hB hb
      clear hb
      obtain ⟨c00, c01, c02, c03⟩ := P.open2
      go_wp2_with fail
      refine (sign_c _ _ _ _ (Wi.wd_rv _)).mono ?_
      rw [e6.out]
      rintro e w4 ⟨rfl, hb⟩
      clear c00 c01 c02 c03
      replace X := X.keep hb
      replace Y := Y.keep hb
      replace Z := Z.keep hb
      replace P := P.keep hb
      replace hB := bt hB hb
      clear hb
      obtain ⟨c00, c01, c02, c03⟩ := X.open2
      obtain ⟨c10, c11, c12, c13⟩ := Y.open2
      go_wp2_with fail
      refine (cmp_c _ _ _ _ _ _ _ H' H).mono ?_
      rw [e2.out]
      rintro e w5 ⟨rfl, hb⟩
      clear c00 c01 c02 c03 c10 c11 c12 c13
      replace X := X.keep hb
      replace Y := Y.keep hb
      replace Z := Z.keep hb
      replace P := P.keep hb
      replace hB := bt hB hb
      clear hb
      obtain ⟨c00, c01, c02, c03⟩ := Y.open2
      obtain ⟨c10, c11, c12, c13⟩ := Z.open2
      go_wp2_with fail
      refine (cmp_c _ _ _ _ _ _ _ H' H'').mono ?_
      rw [e3.out]
      rintro e w6 ⟨rfl, hb⟩
      clear c00 c01 c02 c03 c10 c11 c12 c13
      replace X := X.keep hb
      replace Y := Y.keep hb
      replace Z := Z.keep hb
      replace P := P.keep hb
      replace hB := bt hB hb
      clear hb
      obtain ⟨c00, c01, c02, c03⟩ := X.open2
      obtain ⟨c10, c11, c12, c13⟩ := Y.open2
      go_wp2_with fail
      go_returns
      exact ⟨rfl, hB⟩
  · have e3 := Lib.hid (Wi.cm_gt (x := y) (y := z) (by omega))
    clear hr hyz hyz2
    cases hk : Wi.okb (x - y)
    · clear e5
      replace hk := Lib.hid hk
      go_enter Try.func8, Try.ntmps8
      have X := Blk.new w 24 #[.int .i64 h, .int .u64 l]
      have Y := Blk.new1 w (.cells #[.int .i64 h, .int .u64 l] 24) 24 #[.int .i64 h, .int .u64 l']
      replace X := X.alloc (.cells #[.int .i64 h, .int .u64 l'] 24)
      have Z := Blk.new2 w (.cells #[.int .i64 h, .int .u64 l] 24) (.cells #[.int .i64 h, .int .u64 l'] 24) 24 #[.int .i64 h'', .int .u64 l'']
      replace X := X.alloc (.cells #[.int .i64 h'', .int .u64 l''] 24)
      replace Y := Y.alloc (.cells #[.int .i64 h'', .int .u64 l''] 24)
      have hB := bal (bal (ba w (.cells #[.int .i64 h, .int .u64 l] 24)) (.cells #[.int .i64 h, .int .u64 l'] 24)) (.cells #[.int .i64 h'', .int .u64 l''] 24)
      go_wp2_with fail
      refine (awake_c _).mono ?_
      rintro e w1 ⟨rfl, hb⟩
      replace X := X.keep hb
      replace Y := Y.keep hb
      replace Z := Z.keep hb
      replace hB := bt hB hb
      clear hb
      obtain ⟨c00, c01, c02, c03⟩ := X.open2
      obtain ⟨c10, c11, c12, c13⟩ := Y.open2
      go_wp2_with fail
      refine (sub_c _ _ _ _ _ _ _ H H').mono ?_
      rw [hk.out]
      rintro e w2 ⟨rfl, hb⟩
      clear c00 c01 c02 c03 c10 c11 c12 c13
      replace X := X.keep hb
      replace Y := Y.keep hb
      replace Z := Z.keep hb
      replace hB := bt hB hb
      clear hb
      have l2X := X.lt
      have l2Y := Y.lt
      have l2Z := Z.lt
      replace X := X.alloc (.cells #[.int .i64 (Wi.Hq (Wi.rv (x - y))), .int .u64 (Wi.Lr (Wi.rv (x - y)))] 24)
      replace Y := Y.alloc (.cells #[.int .i64 (Wi.Hq (Wi.rv (x - y))), .int .u64 (Wi.Lr (Wi.rv (x - y)))] 24)
      replace Z := Z.alloc (.cells #[.int .i64 (Wi.Hq (Wi.rv (x - y))), .int .u64 (Wi.Lr (Wi.rv (x - y)))] 24)
      replace hB := bal hB (.cells #[.int .i64 (Wi.Hq (Wi.rv (x - y))), .int .u64 (Wi.Lr (Wi.rv (x - y)))] 24)
      have P := Blk.new w2 24 #[.int .i64 (Wi.Hq (Wi.rv (x - y))), .int .u64 (Wi.Lr (Wi.rv (x - y)))]
      obtain ⟨c00, c01, c02, c03⟩ := X.open2
      obtain ⟨c10, c11, c12, c13⟩ := Y.open2
      go_wp2_with fail
      refine (cmp_c _ _ _ _ _ _ _ H H').mono ?_
      rw [e1.out]
      rintro e w3 ⟨rfl, hb⟩
      clear c00 c01 c02 c03 c10 c11 c12 c13
      replace X := X.keep hb
      replace Y := Y.keep hb
      replace Z := Z.keep hb
      replace P := P.keep hb
      replace hB := bt hB hb
      clear hb
      obtain ⟨c00, c01, c02, c03⟩ := X.open2
      obtain ⟨c10, c11, c12, c13⟩ := Y.open2
      go_wp2_with fail
      refine (cmp_c _ _ _ _ _ _ _ H' H).mono ?_
      rw [e2.out]
      rintro e w4 ⟨rfl, hb⟩
      clear c00 c01 c02 c03 c10 c11 c12 c13
      replace X := X.keep hb
      replace Y := Y.keep hb
      replace Z := Z.keep hb
      replace P := P.keep hb
      replace hB := bt hB hb
      clear hb
      obtain ⟨c00, c01, c02, c03⟩ := Y.open2
      obtain ⟨c10, c11, c12, c13⟩ := Z.open2
      go_wp2_with fail
      refine (cmp_c _ _ _ _ _ _ _ H' H'').mono ?_
      rw [e3.out]
      rintro e w5 ⟨rfl, hb⟩
      clear c00 c01 c02 c03 c10 c11 c12 c13
      replace X := X.keep hb
      replace Y := Y.keep hb
      replace Z := Z.keep hb
      replace P := P.keep hb
      replace hB := bt hB hb
      clear hb
      obtain ⟨c00, c01, c02, c03⟩ := X.open2
      obtain ⟨c10, c11, c12, c13⟩ := Y.open2
      go_wp2_with fail
      go_returns
      exact ⟨rfl, hB⟩
    · have e6 := Lib.hid (e5.out hk)
      replace hk := Lib.hid hk
      go_enter Try.func8, Try.ntmps8
      have X := Blk.new w 24 #[.int .i64 h, .int .u64 l]
      have Y := Blk.new1 w (.cells #[.int .i64 h, .int .u64 l] 24) 24 #[.int .i64 h, .int .u64 l']
      replace X := X.alloc (.cells #[.int .i64 h, .int .u64 l'] 24)
      have Z := Blk.new2 w (.cells #[.int .i64 h, .int .u64 l] 24) (.cells #[.int .i64 h, .int .u64 l'] 24) 24 #[.int .i64 h'', .int .u64 l'']
      replace X := X.alloc (.cells #[.int .i64 h'', .int .u64 l''] 24)
      replace Y := Y.alloc (.cells #[.int .i64 h'', .int .u64 l''] 24)
      have hB := bal (bal (ba w (.cells #[.int .i64 h, .int .u64 l] 24)) (.cells #[.int .i64 h, .int .u64 l'] 24)) (.cells #[.int .i64 h'', .int .u64 l''] 24)
      go_wp2_with fail
      refine (awake_c _).mono ?_
      rintro e w1 ⟨rfl, hb⟩
      replace X := X.keep hb
      replace Y := Y.keep hb
      replace Z := Z.keep hb
      replace hB := bt hB hb
      clear hb
      obtain ⟨c00, c01, c02, c03⟩ := X.open2
      obtain ⟨c10, c11, c12, c13⟩ := Y.open2
      go_wp2_with fail
      refine (sub_c _ _ _ _ _ _ _ H H').mono ?_
      rw [hk.out]
      rintro e w2 ⟨rfl, hb⟩
      clear c00 c01 c02 c03 c10 c11 c12 c13
      replace X := X.keep hb
      replace Y := Y.keep hb
      replace Z := Z.keep hb
      replace hB := bt hB hb
      clear hb
      have l2X := X.lt
      have l2Y := Y.lt
      have l2Z := Z.lt
      replace X := X.alloc (.cells #[.int .i64 (Wi.Hq (Wi.rv (x - y))), .int .u64 (Wi.Lr (Wi.rv (x - y)))] 24)
      replace Y := Y.alloc (.cells #[.int .i64 (Wi.Hq (Wi.rv (x - y))), .int .u64 (Wi.Lr (Wi.rv (x - y)))] 24)
      replace Z := Z.alloc (.cells #[.int .i64 (Wi.Hq (Wi.rv (x - y))), .int .u64 (Wi.Lr (Wi.rv (x - y)))] 24)
      replace hB := bal hB (.cells #[.int .i64 (Wi.Hq (Wi.rv (x - y))), .int .u64 (Wi.Lr (Wi.rv (x - y)))] 24)
      have P := Blk.new w2 24 #[.int .i64 (Wi.Hq (Wi.rv (x - y))), .int .u64 (Wi.Lr (Wi.rv (x - y)))]
      obtain ⟨c00, c01, c02, c03⟩ := X.open2
      obtain ⟨c10, c11, c12, c13⟩ := Y.open2
      go_wp2_with fail
      refine (cmp_c _ _ _ _ _ _ _ H H').mono ?_
      rw [e1.out]
      rintro e w3 ⟨rfl, hb⟩
      clear c00 c01 c02 c03 c10 c11 c12 c13
      replace X := X.keep hb
      replace Y := Y.keep hb
      replace Z := Z.keep hb
      replace P := P.keep hb
      replace hB := bt hB hb
      clear hb
      obtain ⟨c00, c01, c02, c03⟩ := P.open2
      go_wp2_with fail
      refine (sign_c _ _ _ _ (Wi.wd_rv _)).mono ?_
      rw [e6.out]
      rintro e w4 ⟨rfl, hb⟩
      clear c00 c01 c02 c03
      replace X := X.keep hb
      replace Y := Y.keep hb
      replace Z := Z.keep hb
      replace P := P.keep hb
      replace hB := bt hB hb
      clear hb
      obtain ⟨c00, c01, c02, c03⟩ := X.open2
      obtain ⟨c10, c11, c12, c13⟩ := Y.open2
      go_wp2_with fail
      refine (cmp_c _ _ _ _ _ _ _ H' H).mono ?_
      rw [e2.out]
      rintro e w5 ⟨rfl, hb⟩
      clear c00 c01 c02 c03 c10 c11 c12 c13
      replace X := X.keep hb
      replace Y := Y.keep hb
      replace Z := Z.keep hb
      replace P := P.keep hb
      replace hB := bt hB hb
      clear hb
      obtain ⟨c00, c01, c02, c03⟩ := Y.open2
      obtain ⟨c10, c11, c12, c13⟩ := Z.open2
      go_wp2_with fail
      refine (cmp_c _ _ _ _ _ _ _ H' H'').mono ?_
      rw [e3.out]
      rintro e w6 ⟨rfl, hb⟩
      clear c00 c01 c02 c03 c10 c11 c12 c13
      replace X := X.keep hb
      replace Y := Y.keep hb
      replace Z := Z.keep hb
      replace P := P.keep hb
      replace hB := bt hB hb
      clear hb
      obtain ⟨c00, c01, c02, c03⟩ := X.open2
      obtain ⟨c10, c11, c12, c13⟩ := Y.open2
      go_wp2_with fail
      go_returns
      exact ⟨rfl, hB⟩

set_option maxRecDepth 100000 in
set_option maxHeartbeats 4000000 in
theorem order_eq (h l x h' l' y h'' l'' z : Int) (w : World) (H : Wi.Wd h l x) (H' : Wi.Wd h' l' y) (H'' : Wi.Wd h'' l'' z) (hr : x = y) : Calls Try.prog 8 #[.agg #[.int .i64 h, .int .u64 l], .agg #[.int .i64 h', .int .u64 l'], .agg #[.int .i64 h'', .int .u64 l'']] w fun e w' =>
    e = .returned (.bool true) ∧ Below w.heap.size w w' := by
  have e1 := Lib.hid (Wi.cm_eq (x := x) (y := y) (by omega))
  have e2 := Lib.hid (Wi.cm_eq (x := y) (y := x) (by omega))
  have e5 := Lib.hid (fun hk : Wi.okb (x - y) = true => (show Wi.cm (Wi.rv (x - y)) 0 = 0 from by rw [rv_ok hk]; exact Wi.cm_eq (by omega)))
  have ehl := Lib.hid (hl_eq H H' hr)
  obtain ⟨ez1, ez2⟩ := ehl.out
  clear ehl
  subst ez1 ez2
  clear hr
  cases hk : Wi.okb (x - y)
  · clear e5
    replace hk := Lib.hid hk
    go_enter Try.func8, Try.ntmps8
    have X := Blk.new w 24 #[.int .i64 h, .int .u64 l]
    have Y := Blk.new1 w (.cells #[.int .i64 h, .int .u64 l] 24) 24 #[.int .i64 h, .int .u64 l]
    replace X := X.alloc (.cells #[.int .i64 h, .int .u64 l] 24)
    have Z := Blk.new2 w (.cells #[.int .i64 h, .int .u64 l] 24) (.cells #[.int .i64 h, .int .u64 l] 24) 24 #[.int .i64 h'', .int .u64 l'']
    replace X := X.alloc (.cells #[.int .i64 h'', .int .u64 l''] 24)
    replace Y := Y.alloc (.cells #[.int .i64 h'', .int .u64 l''] 24)
    have hB := bal (bal (ba w (.cells #[.int .i64 h, .int .u64 l] 24)) (.cells #[.int .i64 h, .int .u64 l] 24)) (.cells #[.int .i64 h'', .int .u64 l''] 24)
    go_wp2_with fail
    refine (awake_c _).mono ?_
    rintro e w1 ⟨rfl, hb⟩
    replace X := X.keep hb
    replace Y := Y.keep hb
    replace Z := Z.keep hb
    replace hB := bt hB hb
    clear hb
    obtain ⟨c00, c01, c02, c03⟩ := X.open2
    obtain ⟨c10, c11, c12, c13⟩ := Y.open2
    go_wp2_with fail
    refine (sub_c _ _ _ _ _ _ _ H H').mono ?_
    rw [hk.out]
    rintro e w2 ⟨rfl, hb⟩
    clear c00 c01 c02 c03 c10 c11 c12 c13
    replace X := X.keep hb
    replace Y := Y.keep hb
    replace Z := Z.keep hb
    replace hB := bt hB hb
    clear hb
    have l2X := X.lt
    have l2Y := Y.lt
    have l2Z := Z.lt
    replace X := X.alloc (.cells #[.int .i64 (Wi.Hq (Wi.rv (x - y))), .int .u64 (Wi.Lr (Wi.rv (x - y)))] 24)
    replace Y := Y.alloc (.cells #[.int .i64 (Wi.Hq (Wi.rv (x - y))), .int .u64 (Wi.Lr (Wi.rv (x - y)))] 24)
    replace Z := Z.alloc (.cells #[.int .i64 (Wi.Hq (Wi.rv (x - y))), .int .u64 (Wi.Lr (Wi.rv (x - y)))] 24)
    replace hB := bal hB (.cells #[.int .i64 (Wi.Hq (Wi.rv (x - y))), .int .u64 (Wi.Lr (Wi.rv (x - y)))] 24)
    have P := Blk.new w2 24 #[.int .i64 (Wi.Hq (Wi.rv (x - y))), .int .u64 (Wi.Lr (Wi.rv (x - y)))]
    obtain ⟨c00, c01, c02, c03⟩ := X.open2
    obtain ⟨c10, c11, c12, c13⟩ := Y.open2
    go_wp2_with fail
    refine (cmp_c _ _ _ _ _ _ _ H H').mono ?_
    rw [e1.out]
    rintro e w3 ⟨rfl, hb⟩
    clear c00 c01 c02 c03 c10 c11 c12 c13
    replace X := X.keep hb
    replace Y := Y.keep hb
    replace Z := Z.keep hb
    replace P := P.keep hb
    replace hB := bt hB hb
    clear hb
    obtain ⟨c00, c01, c02, c03⟩ := X.open2
    obtain ⟨c10, c11, c12, c13⟩ := Y.open2
    go_wp2_with fail
    refine (cmp_c _ _ _ _ _ _ _ H' H).mono ?_
    rw [e2.out]
    rintro e w4 ⟨rfl, hb⟩
    clear c00 c01 c02 c03 c10 c11 c12 c13
    replace X := X.keep hb
    replace Y := Y.keep hb
    replace Z := Z.keep hb
    replace P := P.keep hb
    replace hB := bt hB hb
    clear hb
    obtain ⟨c00, c01, c02, c03⟩ := X.open2
    obtain ⟨c10, c11, c12, c13⟩ := Y.open2
    go_wp2_with fail
    go_returns
    exact ⟨rfl, hB⟩
  · have e6 := Lib.hid (e5.out hk)
    replace hk := Lib.hid hk
    go_enter Try.func8, Try.ntmps8
    have X := Blk.new w 24 #[.int .i64 h, .int .u64 l]
    have Y := Blk.new1 w (.cells #[.int .i64 h, .int .u64 l] 24) 24 #[.int .i64 h, .int .u64 l]
    replace X := X.alloc (.cells #[.int .i64 h, .int .u64 l] 24)
    have Z := Blk.new2 w (.cells #[.int .i64 h, .int .u64 l] 24) (.cells #[.int .i64 h, .int .u64 l] 24) 24 #[.int .i64 h'', .int .u64 l'']
    replace X := X.alloc (.cells #[.int .i64 h'', .int .u64 l''] 24)
    replace Y := Y.alloc (.cells #[.int .i64 h'', .int .u64 l''] 24)
    have hB := bal (bal (ba w (.cells #[.int .i64 h, .int .u64 l] 24)) (.cells #[.int .i64 h, .int .u64 l] 24)) (.cells #[.int .i64 h'', .int .u64 l''] 24)
    go_wp2_with fail
    refine (awake_c _).mono ?_
    rintro e w1 ⟨rfl, hb⟩
    replace X := X.keep hb
    replace Y := Y.keep hb
    replace Z := Z.keep hb
    replace hB := bt hB hb
    clear hb
    obtain ⟨c00, c01, c02, c03⟩ := X.open2
    obtain ⟨c10, c11, c12, c13⟩ := Y.open2
    go_wp2_with fail
    refine (sub_c _ _ _ _ _ _ _ H H').mono ?_
    rw [hk.out]
    rintro e w2 ⟨rfl, hb⟩
    clear c00 c01 c02 c03 c10 c11 c12 c13
    replace X := X.keep hb
    replace Y := Y.keep hb
    replace Z := Z.keep hb
    replace hB := bt hB hb
    clear hb
    have l2X := X.lt
    have l2Y := Y.lt
    have l2Z := Z.lt
    replace X := X.alloc (.cells #[.int .i64 (Wi.Hq (Wi.rv (x - y))), .int .u64 (Wi.Lr (Wi.rv (x - y)))] 24)
    replace Y := Y.alloc (.cells #[.int .i64 (Wi.Hq (Wi.rv (x - y))), .int .u64 (Wi.Lr (Wi.rv (x - y)))] 24)
    replace Z := Z.alloc (.cells #[.int .i64 (Wi.Hq (Wi.rv (x - y))), .int .u64 (Wi.Lr (Wi.rv (x - y)))] 24)
    replace hB := bal hB (.cells #[.int .i64 (Wi.Hq (Wi.rv (x - y))), .int .u64 (Wi.Lr (Wi.rv (x - y)))] 24)
    have P := Blk.new w2 24 #[.int .i64 (Wi.Hq (Wi.rv (x - y))), .int .u64 (Wi.Lr (Wi.rv (x - y)))]
    obtain ⟨c00, c01, c02, c03⟩ := X.open2
    obtain ⟨c10, c11, c12, c13⟩ := Y.open2
    go_wp2_with fail
    refine (cmp_c _ _ _ _ _ _ _ H H').mono ?_
    rw [e1.out]
    rintro e w3 ⟨rfl, hb⟩
    clear c00 c01 c02 c03 c10 c11 c12 c13
    replace X := X.keep hb
    replace Y := Y.keep hb
    replace Z := Z.keep hb
    replace P := P.keep hb
    replace hB := bt hB hb
    clear hb
    obtain ⟨c00, c01, c02, c03⟩ := P.open2
    go_wp2_with fail
    refine (sign_c _ _ _ _ (Wi.wd_rv _)).mono ?_
    rw [e6.out]
    rintro e w4 ⟨rfl, hb⟩
    clear c00 c01 c02 c03
    replace X := X.keep hb
    replace Y := Y.keep hb
    replace Z := Z.keep hb
    replace P := P.keep hb
    replace hB := bt hB hb
    clear hb
    obtain ⟨c00, c01, c02, c03⟩ := X.open2
    obtain ⟨c10, c11, c12, c13⟩ := Y.open2
    go_wp2_with fail
    refine (cmp_c _ _ _ _ _ _ _ H' H).mono ?_
    rw [e2.out]
    rintro e w5 ⟨rfl, hb⟩
    clear c00 c01 c02 c03 c10 c11 c12 c13
    replace X := X.keep hb
    replace Y := Y.keep hb
    replace Z := Z.keep hb
    replace P := P.keep hb
    replace hB := bt hB hb
    clear hb
    obtain ⟨c00, c01, c02, c03⟩ := X.open2
    obtain ⟨c10, c11, c12, c13⟩ := Y.open2
    go_wp2_with fail
    go_returns
    exact ⟨rfl, hB⟩

set_option maxRecDepth 100000 in
set_option maxHeartbeats 4000000 in
theorem order_gth (h l x h' l' y h'' l'' z : Int) (w : World) (H : Wi.Wd h l x) (H' : Wi.Wd h' l' y) (H'' : Wi.Wd h'' l'' z) (hr : y < x) (hd : (h == h') = false) : Calls Try.prog 8 #[.agg #[.int .i64 h, .int .u64 l], .agg #[.int .i64 h', .int .u64 l'], .agg #[.int .i64 h'', .int .u64 l'']] w fun e w' =>
    e = .returned (.bool true) ∧ Below w.heap.size w w' := by
  have e1 := Lib.hid (Wi.cm_gt (x := x) (y := y) (by omega))
  have e2 := Lib.hid (Wi.cm_lt (x := y) (y := x) (by omega))
  have e5 := Lib.hid (fun hk : Wi.okb (x - y) = true => (show Wi.cm (Wi.rv (x - y)) 0 = 1 from by rw [rv_ok hk]; exact Wi.cm_gt (by omega)))
  clear hr
  cases hk : Wi.okb (x - y)
  · clear e5
    replace hk := Lib.hid hk
    go_enter Try.func8, Try.ntmps8
    have X := Blk.new w 24 #[.int .i64 h, .int .u64 l]
    have Y := Blk.new1 w (.cells #[.int .i64 h, .int .u64 l] 24) 24 #[.int .i64 h', .int .u64 l']
    replace X := X.alloc (.cells #[.int .i64 h', .int .u64 l'] 24)
    have Z := Blk.new2 w (.cells #[.int .i64 h, .int .u64 l] 24) (.cells #[.int .i64 h', .int .u64 l'] 24) 24 #[.int .i64 h'', .int .u64 l'']
    replace X := X.alloc (.cells #[.int .i64 h'', .int .u64 l''] 24)
    replace Y := Y.alloc (.cells #[.int .i64 h'', .int .u64 l''] 24)
    have hB := bal (bal (ba w (.cells #[.int .i64 h, .int .u64 l] 24)) (.cells #[.int .i64 h', .int .u64 l'] 24)) (.cells #[.int .i64 h'', .int .u64 l''] 24)
    go_wp2_with fail
    refine (awake_c _).mono ?_
    rintro e w1 ⟨rfl, hb⟩
    replace X := X.keep hb
    replace Y := Y.keep hb
    replace Z := Z.keep hb
    replace hB := bt hB hb
    clear hb
    obtain ⟨c00, c01, c02, c03⟩ := X.open2
    obtain ⟨c10, c11, c12, c13⟩ := Y.open2
    go_wp2_with fail
    refine (sub_c _ _ _ _ _ _ _ H H').mono ?_
    rw [hk.out]
    rintro e w2 ⟨rfl, hb⟩
    clear c00 c01 c02 c03 c10 c11 c12 c13
    replace X := X.keep hb
    replace Y := Y.keep hb
    replace Z := Z.keep hb
    replace hB := bt hB hb
    clear hb
    have l2X := X.lt
    have l2Y := Y.lt
    have l2Z := Z.lt
    replace X := X.alloc (.cells #[.int .i64 (Wi.Hq (Wi.rv (x - y))), .int .u64 (Wi.Lr (Wi.rv (x - y)))] 24)
    replace Y := Y.alloc (.cells #[.int .i64 (Wi.Hq (Wi.rv (x - y))), .int .u64 (Wi.Lr (Wi.rv (x - y)))] 24)
    replace Z := Z.alloc (.cells #[.int .i64 (Wi.Hq (Wi.rv (x - y))), .int .u64 (Wi.Lr (Wi.rv (x - y)))] 24)
    replace hB := bal hB (.cells #[.int .i64 (Wi.Hq (Wi.rv (x - y))), .int .u64 (Wi.Lr (Wi.rv (x - y)))] 24)
    have P := Blk.new w2 24 #[.int .i64 (Wi.Hq (Wi.rv (x - y))), .int .u64 (Wi.Lr (Wi.rv (x - y)))]
    obtain ⟨c00, c01, c02, c03⟩ := X.open2
    obtain ⟨c10, c11, c12, c13⟩ := Y.open2
    go_wp2_with fail
    refine (cmp_c _ _ _ _ _ _ _ H H').mono ?_
    rw [e1.out]
    rintro e w3 ⟨rfl, hb⟩
    clear c00 c01 c02 c03 c10 c11 c12 c13
    replace X := X.keep hb
    replace Y := Y.keep hb
    replace Z := Z.keep hb
    replace P := P.keep hb
    replace hB := bt hB hb
    clear hb
    obtain ⟨c00, c01, c02, c03⟩ := X.open2
    obtain ⟨c10, c11, c12, c13⟩ := Y.open2
    go_wp2_with fail
    refine (cmp_c _ _ _ _ _ _ _ H' H).mono ?_
    rw [e2.out]
    rintro e w4 ⟨rfl, hb⟩
    clear c00 c01 c02 c03 c10 c11 c12 c13
    replace X := X.keep hb
    replace Y := Y.keep hb
    replace Z := Z.keep hb
    replace P := P.keep hb
    replace hB := bt hB hb
    clear hb
    obtain ⟨c00, c01, c02, c03⟩ := X.open2
    obtain ⟨c10, c11, c12, c13⟩ := Y.open2
    go_wp2_with fail
    go_returns
    exact ⟨rfl, hB⟩
  · have e6 := Lib.hid (e5.out hk)
    replace hk := Lib.hid hk
    go_enter Try.func8, Try.ntmps8
    have X := Blk.new w 24 #[.int .i64 h, .int .u64 l]
    have Y := Blk.new1 w (.cells #[.int .i64 h, .int .u64 l] 24) 24 #[.int .i64 h', .int .u64 l']
    replace X := X.alloc (.cells #[.int .i64 h', .int .u64 l'] 24)
    have Z := Blk.new2 w (.cells #[.int .i64 h, .int .u64 l] 24) (.cells #[.int .i64 h', .int .u64 l'] 24) 24 #[.int .i64 h'', .int .u64 l'']
    replace X := X.alloc (.cells #[.int .i64 h'', .int .u64 l''] 24)
    replace Y := Y.alloc (.cells #[.int .i64 h'', .int .u64 l''] 24)
    have hB := bal (bal (ba w (.cells #[.int .i64 h, .int .u64 l] 24)) (.cells #[.int .i64 h', .int .u64 l'] 24)) (.cells #[.int .i64 h'', .int .u64 l''] 24)
    go_wp2_with fail
    refine (awake_c _).mono ?_
    rintro e w1 ⟨rfl, hb⟩
    replace X := X.keep hb
    replace Y := Y.keep hb
    replace Z := Z.keep hb
    replace hB := bt hB hb
    clear hb
    obtain ⟨c00, c01, c02, c03⟩ := X.open2
    obtain ⟨c10, c11, c12, c13⟩ := Y.open2
    go_wp2_with fail
    refine (sub_c _ _ _ _ _ _ _ H H').mono ?_
    rw [hk.out]
    rintro e w2 ⟨rfl, hb⟩
    clear c00 c01 c02 c03 c10 c11 c12 c13
    replace X := X.keep hb
    replace Y := Y.keep hb
    replace Z := Z.keep hb
    replace hB := bt hB hb
    clear hb
    have l2X := X.lt
    have l2Y := Y.lt
    have l2Z := Z.lt
    replace X := X.alloc (.cells #[.int .i64 (Wi.Hq (Wi.rv (x - y))), .int .u64 (Wi.Lr (Wi.rv (x - y)))] 24)
    replace Y := Y.alloc (.cells #[.int .i64 (Wi.Hq (Wi.rv (x - y))), .int .u64 (Wi.Lr (Wi.rv (x - y)))] 24)
    replace Z := Z.alloc (.cells #[.int .i64 (Wi.Hq (Wi.rv (x - y))), .int .u64 (Wi.Lr (Wi.rv (x - y)))] 24)
    replace hB := bal hB (.cells #[.int .i64 (Wi.Hq (Wi.rv (x - y))), .int .u64 (Wi.Lr (Wi.rv (x - y)))] 24)
    have P := Blk.new w2 24 #[.int .i64 (Wi.Hq (Wi.rv (x - y))), .int .u64 (Wi.Lr (Wi.rv (x - y)))]
    obtain ⟨c00, c01, c02, c03⟩ := X.open2
    obtain ⟨c10, c11, c12, c13⟩ := Y.open2
    go_wp2_with fail
    refine (cmp_c _ _ _ _ _ _ _ H H').mono ?_
    rw [e1.out]
    rintro e w3 ⟨rfl, hb⟩
    clear c00 c01 c02 c03 c10 c11 c12 c13
    replace X := X.keep hb
    replace Y := Y.keep hb
    replace Z := Z.keep hb
    replace P := P.keep hb
    replace hB := bt hB hb
    clear hb
    obtain ⟨c00, c01, c02, c03⟩ := P.open2
    go_wp2_with fail
    refine (sign_c _ _ _ _ (Wi.wd_rv _)).mono ?_
    rw [e6.out]
    rintro e w4 ⟨rfl, hb⟩
    clear c00 c01 c02 c03
    replace X := X.keep hb
    replace Y := Y.keep hb
    replace Z := Z.keep hb
    replace P := P.keep hb
    replace hB := bt hB hb
    clear hb
    obtain ⟨c00, c01, c02, c03⟩ := X.open2
    obtain ⟨c10, c11, c12, c13⟩ := Y.open2
    go_wp2_with fail
    refine (cmp_c _ _ _ _ _ _ _ H' H).mono ?_
    rw [e2.out]
    rintro e w5 ⟨rfl, hb⟩
    clear c00 c01 c02 c03 c10 c11 c12 c13
    replace X := X.keep hb
    replace Y := Y.keep hb
    replace Z := Z.keep hb
    replace P := P.keep hb
    replace hB := bt hB hb
    clear hb
    obtain ⟨c00, c01, c02, c03⟩ := X.open2
    obtain ⟨c10, c11, c12, c13⟩ := Y.open2
    go_wp2_with fail
    go_returns
    exact ⟨rfl, hB⟩

set_option maxRecDepth 100000 in
set_option maxHeartbeats 4000000 in
theorem order_gtl (h l x l' y h'' l'' z : Int) (w : World) (H : Wi.Wd h l x) (H' : Wi.Wd h l' y) (H'' : Wi.Wd h'' l'' z) (hr : y < x) (hd : (l == l') = false) : Calls Try.prog 8 #[.agg #[.int .i64 h, .int .u64 l], .agg #[.int .i64 h, .int .u64 l'], .agg #[.int .i64 h'', .int .u64 l'']] w fun e w' =>
    e = .returned (.bool true) ∧ Below w.heap.size w w' := by
  have e1 := Lib.hid (Wi.cm_gt (x := x) (y := y) (by omega))
  have e2 := Lib.hid (Wi.cm_lt (x := y) (y := x) (by omega))
  have e5 := Lib.hid (fun hk : Wi.okb (x - y) = true => (show Wi.cm (Wi.rv (x - y)) 0 = 1 from by rw [rv_ok hk]; exact Wi.cm_gt (by omega)))
  clear hr
  cases hk : Wi.okb (x - y)
  · clear e5
    replace hk := Lib.hid hk
    go_enter Try.func8, Try.ntmps8
    have X := Blk.new w 24 #[.int .i64 h, .int .u64 l]
    have Y := Blk.new1 w (.cells #[.int .i64 h, .int .u64 l] 24) 24 #[.int .i64 h, .int .u64 l']
    replace X := X.alloc (.cells #[.int .i64 h, .int .u64 l'] 24)
    have Z := Blk.new2 w (.cells #[.int .i64 h, .int .u64 l] 24) (.cells #[.int .i64 h, .int .u64 l'] 24) 24 #[.int .i64 h'', .int .u64 l'']
    replace X := X.alloc (.cells #[.int .i64 h'', .int .u64 l''] 24)
    replace Y := Y.alloc (.cells #[.int .i64 h'', .int .u64 l''] 24)
    have hB := bal (bal (ba w (.cells #[.int .i64 h, .int .u64 l] 24)) (.cells #[.int .i64 h, .int .u64 l'] 24)) (.cells #[.int .i64 h'', .int .u64 l''] 24)
    go_wp2_with fail
    refine (awake_c _).mono ?_
    rintro e w1 ⟨rfl, hb⟩
    replace X := X.keep hb
    replace Y := Y.keep hb
    replace Z := Z.keep hb
    replace hB := bt hB hb
    clear hb
    obtain ⟨c00, c01, c02, c03⟩ := X.open2
    obtain ⟨c10, c11, c12, c13⟩ := Y.open2
    go_wp2_with fail
    refine (sub_c _ _ _ _ _ _ _ H H').mono ?_
    rw [hk.out]
    rintro e w2 ⟨rfl, hb⟩
    clear c00 c01 c02 c03 c10 c11 c12 c13
    replace X := X.keep hb
    replace Y := Y.keep hb
    replace Z := Z.keep hb
    replace hB := bt hB hb
    clear hb
    have l2X := X.lt
    have l2Y := Y.lt
    have l2Z := Z.lt
    replace X := X.alloc (.cells #[.int .i64 (Wi.Hq (Wi.rv (x - y))), .int .u64 (Wi.Lr (Wi.rv (x - y)))] 24)
    replace Y := Y.alloc (.cells #[.int .i64 (Wi.Hq (Wi.rv (x - y))), .int .u64 (Wi.Lr (Wi.rv (x - y)))] 24)
    replace Z := Z.alloc (.cells #[.int .i64 (Wi.Hq (Wi.rv (x - y))), .int .u64 (Wi.Lr (Wi.rv (x - y)))] 24)
    replace hB := bal hB (.cells #[.int .i64 (Wi.Hq (Wi.rv (x - y))), .int .u64 (Wi.Lr (Wi.rv (x - y)))] 24)
    have P := Blk.new w2 24 #[.int .i64 (Wi.Hq (Wi.rv (x - y))), .int .u64 (Wi.Lr (Wi.rv (x - y)))]
    obtain ⟨c00, c01, c02, c03⟩ := X.open2
    obtain ⟨c10, c11, c12, c13⟩ := Y.open2
    go_wp2_with fail
    refine (cmp_c _ _ _ _ _ _ _ H H').mono ?_
    rw [e1.out]
    rintro e w3 ⟨rfl, hb⟩
    clear c00 c01 c02 c03 c10 c11 c12 c13
    replace X := X.keep hb
    replace Y := Y.keep hb
    replace Z := Z.keep hb
    replace P := P.keep hb
    replace hB := bt hB hb
    clear hb
    obtain ⟨c00, c01, c02, c03⟩ := X.open2
    obtain ⟨c10, c11, c12, c13⟩ := Y.open2
    go_wp2_with fail
    refine (cmp_c _ _ _ _ _ _ _ H' H).mono ?_
    rw [e2.out]
    rintro e w4 ⟨rfl, hb⟩
    clear c00 c01 c02 c03 c10 c11 c12 c13
    replace X := X.keep hb
    replace Y := Y.keep hb
    replace Z := Z.keep hb
    replace P := P.keep hb
    replace hB := bt hB hb
    clear hb
    obtain ⟨c00, c01, c02, c03⟩ := X.open2
    obtain ⟨c10, c11, c12, c13⟩ := Y.open2
    go_wp2_with fail
    go_returns
    exact ⟨rfl, hB⟩
  · have e6 := Lib.hid (e5.out hk)
    replace hk := Lib.hid hk
    go_enter Try.func8, Try.ntmps8
    have X := Blk.new w 24 #[.int .i64 h, .int .u64 l]
    have Y := Blk.new1 w (.cells #[.int .i64 h, .int .u64 l] 24) 24 #[.int .i64 h, .int .u64 l']
    replace X := X.alloc (.cells #[.int .i64 h, .int .u64 l'] 24)
    have Z := Blk.new2 w (.cells #[.int .i64 h, .int .u64 l] 24) (.cells #[.int .i64 h, .int .u64 l'] 24) 24 #[.int .i64 h'', .int .u64 l'']
    replace X := X.alloc (.cells #[.int .i64 h'', .int .u64 l''] 24)
    replace Y := Y.alloc (.cells #[.int .i64 h'', .int .u64 l''] 24)
    have hB := bal (bal (ba w (.cells #[.int .i64 h, .int .u64 l] 24)) (.cells #[.int .i64 h, .int .u64 l'] 24)) (.cells #[.int .i64 h'', .int .u64 l''] 24)
    go_wp2_with fail
    refine (awake_c _).mono ?_
    rintro e w1 ⟨rfl, hb⟩
    replace X := X.keep hb
    replace Y := Y.keep hb
    replace Z := Z.keep hb
    replace hB := bt hB hb
    clear hb
    obtain ⟨c00, c01, c02, c03⟩ := X.open2
    obtain ⟨c10, c11, c12, c13⟩ := Y.open2
    go_wp2_with fail
    refine (sub_c _ _ _ _ _ _ _ H H').mono ?_
    rw [hk.out]
    rintro e w2 ⟨rfl, hb⟩
    clear c00 c01 c02 c03 c10 c11 c12 c13
    replace X := X.keep hb
    replace Y := Y.keep hb
    replace Z := Z.keep hb
    replace hB := bt hB hb
    clear hb
    have l2X := X.lt
    have l2Y := Y.lt
    have l2Z := Z.lt
    replace X := X.alloc (.cells #[.int .i64 (Wi.Hq (Wi.rv (x - y))), .int .u64 (Wi.Lr (Wi.rv (x - y)))] 24)
    replace Y := Y.alloc (.cells #[.int .i64 (Wi.Hq (Wi.rv (x - y))), .int .u64 (Wi.Lr (Wi.rv (x - y)))] 24)
    replace Z := Z.alloc (.cells #[.int .i64 (Wi.Hq (Wi.rv (x - y))), .int .u64 (Wi.Lr (Wi.rv (x - y)))] 24)
    replace hB := bal hB (.cells #[.int .i64 (Wi.Hq (Wi.rv (x - y))), .int .u64 (Wi.Lr (Wi.rv (x - y)))] 24)
    have P := Blk.new w2 24 #[.int .i64 (Wi.Hq (Wi.rv (x - y))), .int .u64 (Wi.Lr (Wi.rv (x - y)))]
    obtain ⟨c00, c01, c02, c03⟩ := X.open2
    obtain ⟨c10, c11, c12, c13⟩ := Y.open2
    go_wp2_with fail
    refine (cmp_c _ _ _ _ _ _ _ H H').mono ?_
    rw [e1.out]
    rintro e w3 ⟨rfl, hb⟩
    clear c00 c01 c02 c03 c10 c11 c12 c13
    replace X := X.keep hb
    replace Y := Y.keep hb
    replace Z := Z.keep hb
    replace P := P.keep hb
    replace hB := bt hB hb
    clear hb
    obtain ⟨c00, c01, c02, c03⟩ := P.open2
    go_wp2_with fail
    refine (sign_c _ _ _ _ (Wi.wd_rv _)).mono ?_
    rw [e6.out]
    rintro e w4 ⟨rfl, hb⟩
    clear c00 c01 c02 c03
    replace X := X.keep hb
    replace Y := Y.keep hb
    replace Z := Z.keep hb
    replace P := P.keep hb
    replace hB := bt hB hb
    clear hb
    obtain ⟨c00, c01, c02, c03⟩ := X.open2
    obtain ⟨c10, c11, c12, c13⟩ := Y.open2
    go_wp2_with fail
    refine (cmp_c _ _ _ _ _ _ _ H' H).mono ?_
    rw [e2.out]
    rintro e w5 ⟨rfl, hb⟩
    clear c00 c01 c02 c03 c10 c11 c12 c13
    replace X := X.keep hb
    replace Y := Y.keep hb
    replace Z := Z.keep hb
    replace P := P.keep hb
    replace hB := bt hB hb
    clear hb
    obtain ⟨c00, c01, c02, c03⟩ := X.open2
    obtain ⟨c10, c11, c12, c13⟩ := Y.open2
    go_wp2_with fail
    go_returns
    exact ⟨rfl, hB⟩

set_option maxRecDepth 100000 in
set_option maxHeartbeats 4000000 in
theorem law_order (h l x h' l' y h'' l'' z : Int) (w : World) (H : Wi.Wd h l x) (H' : Wi.Wd h' l' y) (H'' : Wi.Wd h'' l'' z) : Calls Try.prog 8 #[.agg #[.int .i64 h, .int .u64 l], .agg #[.int .i64 h', .int .u64 l'], .agg #[.int .i64 h'', .int .u64 l'']] w fun e w' =>
    e = .returned (.bool true) ∧ Below w.heap.size w w' := by
  by_cases h2 : x = y
  · exact order_eq _ _ _ _ _ _ _ _ _ w H H' H'' h2
  · by_cases hh : h = h'
    · subst hh
      have hd : (l == l') = false := by
        cases q : (l == l')
        · rfl
        · have ql : l = l' := by simpa using q
          have b := H.bd
          have b' := H'.bd
          exact absurd (by omega) h2
      by_cases h1 : x < y
      · exact order_ltl _ _ _ _ _ _ _ _ w H H' H'' h1 hd
      · exact order_gtl _ _ _ _ _ _ _ _ w H H' H'' (by omega) hd
    · have hd : (h == h') = false := by simpa using hh
      by_cases h1 : x < y
      · exact order_lth _ _ _ _ _ _ _ _ _ w H H' H'' h1 hd
      · exact order_gth _ _ _ _ _ _ _ _ _ w H H' H'' (by omega) hd
end Go.Proofs.Ytnkgoojjnikaeaa
