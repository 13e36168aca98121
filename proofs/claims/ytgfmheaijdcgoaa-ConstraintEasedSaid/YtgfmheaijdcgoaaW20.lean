/-
  The walk of ConstraintEased.
-/
import Derived.Test.YtgfmheaijdcgoaaW19
namespace Go.Proofs.Ytgfmheaijdcgoaa
set_option linter.unusedVariables false
set_option linter.unusedSimpArgs false
open Go.RowKit

theorem xs_of {n m : Nat} {M S : Nat → Nat → Int} (O : Co.Ok n M m S) {i j : Nat} (hij : i ≤ j) (hj : j < n) : Co.xsE n M m S i j = if Co.ex M S i j ≤ 0 then 6 else 0 := by
  unfold Co.xsE
  rw [if_neg (by have := Co.ck_ok.2 O; omega), if_neg (by omega)]
  simp
theorem Own.lt_ {w : World} {base : Nat} {e : TypeId} {q n c g : Nat} {V : Nat → Nat → Value} (h : Own w base e q (some ⟨g, 0, none⟩) n c V) (hn : 0 < n) : g < w.heap.size := by
  obtain ⟨g', e, _, hl⟩ := h.pos hn
  simp at e
  rw [e]; exact hl
theorem ex_top {n m : Nat} {N S : Nat → Nat → Int} (O : Co.Ok n N m S) {i j : Nat} (hij : i ≤ j) (hj : j < n) : Co.ex N S i j ≤ 2199023255552 := by
  have a0 := O.w0 i (by omega)
  have a1 := O.w1 i (by omega)
  have b0 := O.w0 j hj
  have b1 := O.w1 j hj
  by_cases e : i = j
  · subst e; rw [Co.ex_self]; omega
  · by_cases h : N i 1 < N i 0 ∨ N j 1 < N j 0
    · unfold Co.ex; rw [if_neg e, if_pos h]; omega
    · rw [Co.ex_lt N S (by omega) (by omega) (by omega)]
      have d1 := Co.dd_nonneg O.pos (k := i) (i := j) (by omega) (by omega)
      have d2 := Co.dd_nonneg O.pos (k := j) (i := i) (by omega) (by omega)
      omega

set_option maxRecDepth 100000 in
set_option maxHeartbeats 20000000 in
theorem law_eased (A B : Option Addr) (n c m d : Nat) (N S : Nat → Nat → Int) (w : World) (R : Rd w 2 A n c (iv N)) (T : Rd w 2 B m d (iv S)) :
    Calls Try.prog 10 #[.slice A n c, .slice B m d] w fun e w' => e = .returned (.bool true) ∧ Below w.heap.size w w' := by
  by_cases hgo : Co.ck n N m S = 0 ∧ Co.cB n N S = true
  rotate_left
  · have hno : (Co.ck n N m S ≠ 0) ∨ (Co.ck n N m S = 0 ∧ Co.cB n N S = false) := by
      by_cases h : Co.ck n N m S = 0
      · right; refine ⟨h, ?_⟩
        cases q : Co.cB n N S
        · rfl
        · exact absurd ⟨h, q⟩ hgo
      · exact .inl h
    obtain ⟨f1, f2, f3⟩ := Co.f_no hno
    clear hgo
    rcases hno with h | ⟨h, _⟩
    · have h3 : (Co.ck n N m S != 0) = true := by simpa using h
      clear h
      go_enter Try.func10, Try.ntmps10
      go_wp2_with fail
      refine (awake_c _).mono ?_
      rintro e w1 ⟨rfl, h1⟩
      go_wp2_with fail
      refine (conflicts_c _ _ _ _ _ _ _ _ _ (R.keep h1) (T.keep h1)).mono ?_
      rw [f1, f2, f3]
      rintro e w2 ⟨rfl, h2⟩
      go_wp2_with fail
      go_returns
      exact ⟨rfl, bal (bt h1 h2) _⟩
    · have H0 := Lib.hid h
      clear h
      go_enter Try.func10, Try.ntmps10
      go_wp2_with fail
      refine (awake_c _).mono ?_
      rintro e w1 ⟨rfl, h1⟩
      go_wp2_with fail
      refine (conflicts_c _ _ _ _ _ _ _ _ _ (R.keep h1) (T.keep h1)).mono ?_
      rw [f1, f2, f3, H0.out]
      rintro e w2 ⟨rfl, h2⟩
      go_wp2_with fail
      go_returns
      exact ⟨rfl, bal (bt h1 h2) _⟩
  obtain ⟨hck, hcb⟩ := hgo
  have O := Co.ck_ok.1 hck
  have hn := O.hn
  obtain ⟨f1, f2, f3⟩ := Co.f_yes hck hcb
  obtain ⟨i, j, hij, hj, hx, hI, hJ⟩ := Co.cB_true hcb
  rw [hI] at f2
  rw [hJ] at f3
  have H0 := Lib.hid hck
  have F1 := Lib.hid f1
  have F2 := Lib.hid f2
  have F3 := Lib.hid f3
  obtain ⟨x, hxe⟩ : ∃ x, Co.ex N S i j = x := ⟨_, rfl⟩
  have hx0 : 0 < x := by rw [← hxe]; exact hx
  have hx1 : x ≤ 2199023255552 := by rw [← hxe]; exact ex_top O hij hj
  have b0 := O.w0 j hj
  have b1 := O.w1 j hj
  have e1 : Co.xsE n N m S i j = 0 := by rw [xs_of O hij hj, if_neg (by omega)]
  have e2 : Co.xsV n N m S i j = x := by unfold Co.xsV; rw [if_pos e1]; simpa using hxe
  have E1 := Lib.hid e1
  have E2 := Lib.hid e2
  have EZ := Lib.hid (Co.eased O hij hj hxe hx0)
  have OL := fun k : Int => fun h : 0 ≤ k => xs_of (O.set (i := j) (a := max (N j 0 - k) (-1099511627776)) (b := N j 1) (by omega) b1) hij hj
  have OM := fun k : Int => fun h : 0 ≤ k => xs_of (O.set (i := j) (a := N j 0) (b := min (N j 1 + k) 1099511627776) b0 (by omega)) hij hj
  have HL := Lib.hid OL
  have HM := Lib.hid OM
  clear OL OM e1 e2 hxe hx
  obtain ⟨i0, hi, hz0, hz1, hz2⟩ := info_parts infoW
  have HI := Lib.hid hi
  have HZ0 := Lib.hid hz0
  have HZ1 := Lib.hid hz1
  have HZ2 := Lib.hid hz2
  have hr1 := R.le
  clear hi hz0 hz1 hz2 hck hcb f1 f2 f3 hI hJ
  go_enter Try.func10, Try.ntmps10
  go_wp2_with fail
  refine (awake_c _).mono ?_
  rintro e w1 ⟨rfl, h1⟩
  go_wp2_with fail
  refine (conflicts_c _ _ _ _ _ _ _ _ _ (R.keep h1) (T.keep h1)).mono ?_
  rw [F1.out, F2.out, F3.out, H0.out]
  rintro e w2 ⟨rfl, h2⟩
  replace h2 := bt h1 h2
  have C := Blk.new w2 30 #[.int .i64 i, .int .i64 j]
  replace h2 := bal h2 (.cells #[.int .i64 i, .int .i64 j] 30)
  obtain ⟨c0, c1, c2, c3⟩ := C.open2
  go_wp2_with fail
  refine (excess_c _ _ _ _ _ _ _ _ _ _ _ (R.keep h2) (T.keep h2)).mono ?_
  rw [E1.out, E2.out]
  rintro e w3 ⟨rfl, h3⟩
  clear c0 c1 c2 c3
  replace C := (C.keep h3).alloc (.cells #[.int .i64 x, .int .i64 (x - 1)] 2)
  replace h3 := bal (bt h2 h3) (.cells #[.int .i64 x, .int .i64 (x - 1)] 2)
  have U := Blk.new w3 2 #[.int .i64 x, .int .i64 (x - 1)]
  clear h1 h2
  go_wp2
  generalize World.alloc w3 _ = w6 at C U h3 ⊢
  generalize hcg : w2.heap.size = cg at C ⊢
  generalize hgu : w3.heap.size = gu at U ⊢
  clear hcg hgu
  go_loopw [54] (fun q wr => ∃ e : Nat, e ≤ 2 ∧ q = .int .i64 e ∧ Below w6.heap.size w6 wr) (fun q _ => 2 - (intOf q).toNat)
  case atStart => exact ⟨0, by omega, rfl, Below.refl _ _⟩
  case round =>
    obtain ⟨e, he, rfl, hb⟩ := hrel
    obtain ⟨u0, u1, u2, u3⟩ := (U.keep hb).open2
    have CR := C.keep hb
    rcases (show e = 0 ∨ e = 1 ∨ e = 2 from by omega) with rfl | rfl | rfl
    · skip
      have hz := hb.size
      have hwz := h3.size
      have hcl := CR.lt
      go_wp2_with (at_builtin; refine wpList_append_Rd _ rfl _ _ 22 rfl w6.heap.size 44 i0 _ 2 16 Try.underlying22 HI.out HZ0.out HZ1.out HZ2.out rfl (by decide) rfl (own_empty _ _ _ _ (iv N) (by simp) hb.size) rfl ((R.keep (bt h3 hb)).alloc _) (one_iv _) (by omega) (by omega) (bal hb _).size ?_; intro A7 d7 w7 own' hgr7 hob)
      obtain ⟨gl, rfl, k3, k4⟩ := (app0 own').pos (by omega)
      have own1 := app0 own'
      have hb7 : Below w6.heap.size w6 w7 := (bal hb (.cells #[] 44)).trans (below_grown hgr7 (fun g hg => by simp [ob] at hg; omega) (by simp; omega))
      have C7 : Blk w7 cg 30 #[.int .i64 i, .int .i64 j] := (hgr7.block _ (CR.alloc (.cells #[] 44)).lt (by simp [ob]; omega)).trans (CR.alloc (.cells #[] 44))
      have hgc : cg ≠ gl := by rcases hob with h | h <;> (simp [ob] at h; omega)
      clear own' hgr7 hob u0 u1 u2 u3 CR
      obtain ⟨y0, y1, y2⟩ := own1.two hj
      obtain ⟨c0, c1, c2, c3⟩ := C7.open2
      have j1 : (0 : Int) ≤ (j : Int) := by omega
      have j2 : (j : Int) < (n : Int) := by omega
      have z1 : IntKind.i64.wrap (N j 0 - x) = N j 0 - x := IntWalk.i64_in _ (by omega)
      have z2 : IntKind.i64.wrap (N j 1 + x) = N j 1 + x := IntWalk.i64_in _ (by omega)
      have z3 : (if N j 0 - x < -1099511627776 then -1099511627776 else N j 0 - x) = (max (N j 0 - x) (-1099511627776)) := by omega
      have z4 : (if 1099511627776 < N j 1 + x then 1099511627776 else N j 1 + x) = (min (N j 1 + x) 1099511627776) := by omega
      generalize hlo : (max (N j 0 - x) (-1099511627776)) = lo at z3
      generalize hhi : (min (N j 1 + x) 1099511627776) = hi at z4
      replace hlo := Lib.hid hlo
      replace hhi := Lib.hid hhi
      go_still_tail 20, (by kernel_rfl)
      change wpList _ _ _ _ _ w7.drew
      have own2 := (own1.set2 hj lo (N j 1)).drew
      have C8 := ((C7.far (p := ⟨gl, j * 2, none⟩) hgc (.int .i64 lo)).far (p := ⟨gl, j * 2 + 1, none⟩) hgc (.int .i64 (N j 1))).drew
      have hb8 := bdr (bst (bst hb7 (p := ⟨gl, j * 2, none⟩) k3 (.int .i64 lo)) (p := ⟨gl, j * 2 + 1, none⟩) k3 (.int .i64 (N j 1)))
      have OW2 := Lib.hid own2
      have CW8 := Lib.hid C8
      have HB8 := Lib.hid hb8
      clear own2 C8 hb8
      have hz8 := HB8.out.size
      go_wp2_with (at_builtin; refine wpList_append_Rd _ rfl _ _ 22 rfl w6.heap.size 44 i0 _ 2 16 Try.underlying22 HI.out HZ0.out HZ1.out HZ2.out rfl (by decide) rfl (own_empty _ _ _ _ (iv N) (by simp) HB8.out.size) rfl ((R.keep (bt h3 HB8.out)).alloc _) (one_iv _) (by omega) (by omega) (bal HB8.out _).size ?_; intro A8 d8 w8 own' hgr8 hob)
      clear y0 y1 y2 c0 c1 c2 c3
      obtain ⟨gm, rfl, m3, m4⟩ := (app0 own').pos (by omega)
      have ownm := app0 own'
      have hgl := OW2.out.lt_ (by omega)
      have ownl := (OW2.out.alloc (.cells #[] 44)).kept hgr8 (.inr (by simp [ob]; simp at hgl; omega))
      have hb9 : Below w6.heap.size w6 w8 := (bal HB8.out (.cells #[] 44)).trans (below_grown hgr8 (fun g hg => by simp [ob] at hg; simp at hz8; omega) (bal HB8.out _).size)
      have C9 : Blk w8 cg 30 #[.int .i64 i, .int .i64 j] := (hgr8.block _ (CW8.out.alloc (.cells #[] 44)).lt (by have := CW8.out.lt; simp [ob]; simp at this; omega)).trans (CW8.out.alloc (.cells #[] 44))
      have hgcm : cg ≠ gm := by have := CW8.out.lt; rcases hob with h | h <;> (simp [ob] at h; simp at this; omega)
      have hglm : gl ≠ gm := by rcases hob with h | h <;> (simp [ob] at h; simp at hgl; omega)
      clear own' hgr8 hob OW2 CW8 HB8 hgl hz8
      obtain ⟨y0, y1, y2⟩ := ownm.two hj
      obtain ⟨c0, c1, c2, c3⟩ := C9.open2
      go_still_tail 20, (by kernel_rfl)
      change wpList _ _ _ _ _ w8.drew
      have OM2 := Lib.hid (ownm.set2 hj (N j 0) hi).drew
      have OL2 := Lib.hid ((ownl.far (p := ⟨gm, j * 2, none⟩) (.inr (by simp [ob]; omega)) (.int .i64 (N j 0))).far (p := ⟨gm, j * 2 + 1, none⟩) (.inr (by simp [ob]; omega)) (.int .i64 hi)).drew
      have CC := Lib.hid ((C9.far (p := ⟨gm, j * 2, none⟩) hgcm (.int .i64 (N j 0))).far (p := ⟨gm, j * 2 + 1, none⟩) hgcm (.int .i64 hi)).drew
      have BB := Lib.hid (bdr (bst (bst hb9 (p := ⟨gm, j * 2, none⟩) m3 (.int .i64 (N j 0))) (p := ⟨gm, j * 2 + 1, none⟩) m3 (.int .i64 hi)))
      clear ownm ownl C9 hb9
      go_wp2_with fail
      refine (excess_c _ _ _ _ _ _ _ _ _ _ _ OL2.out.rd (T.keep (bt h3 BB.out))).mono ?_
      rintro er w9 ⟨rfl, h9⟩
      clear y0 y1 y2 c0 c1 c2 c3
      obtain ⟨c0, c1, c2, c3⟩ := (CC.out.keep h9).open2
      go_wp2_with fail
      refine (excess_c _ _ _ _ _ _ _ _ _ _ _ (OM2.out.keep h9).rd (T.keep (bt h3 (bt BB.out h9)))).mono ?_
      rintro er w10 ⟨rfl, h10⟩
      clear c0 c1 c2 c3
      have XL := HL.out (x) (by omega)
      have XM := HM.out (x) (by omega)
      rw [hlo.out] at XL
      rw [hhi.out] at XM
      have EY := EZ.out.1
      rw [hlo.out, hhi.out] at EY
      rcases (show Co.xsE n (Co.setW N j lo (N j 1)) m S i j = 6 ∨ (Co.xsE n (Co.setW N j lo (N j 1)) m S i j ≠ 6 ∧ Co.xsE n (Co.setW N j (N j 0) hi) m S i j = 6) from by rw [XL, XM]; split <;> split <;> omega) with q | ⟨q1, q⟩
      · have Q := Lib.hid q
        clear q XL XM EY
        rw [Q.out]
        go_wp2
        go_roundw
        case rel => exact ⟨1, by omega, by go_num, bt (bt BB.out h9) h10⟩
        case measure => simp [intOf]
      · have Q := Lib.hid q
        have q2 : (Co.xsE n (Co.setW N j lo (N j 1)) m S i j != 6) = true := by simpa using q1
        clear q q1 XL XM EY
        rw [Q.out]
        go_wp2
        go_roundw
        case rel => exact ⟨1, by omega, by go_num, bt (bt BB.out h9) h10⟩
        case measure => simp [intOf]
    · skip
      have hz := hb.size
      have hwz := h3.size
      have hcl := CR.lt
      go_wp2_with (at_builtin; refine wpList_append_Rd _ rfl _ _ 22 rfl w6.heap.size 44 i0 _ 2 16 Try.underlying22 HI.out HZ0.out HZ1.out HZ2.out rfl (by decide) rfl (own_empty _ _ _ _ (iv N) (by simp) hb.size) rfl ((R.keep (bt h3 hb)).alloc _) (one_iv _) (by omega) (by omega) (bal hb _).size ?_; intro A7 d7 w7 own' hgr7 hob)
      obtain ⟨gl, rfl, k3, k4⟩ := (app0 own').pos (by omega)
      have own1 := app0 own'
      have hb7 : Below w6.heap.size w6 w7 := (bal hb (.cells #[] 44)).trans (below_grown hgr7 (fun g hg => by simp [ob] at hg; omega) (by simp; omega))
      have C7 : Blk w7 cg 30 #[.int .i64 i, .int .i64 j] := (hgr7.block _ (CR.alloc (.cells #[] 44)).lt (by simp [ob]; omega)).trans (CR.alloc (.cells #[] 44))
      have hgc : cg ≠ gl := by rcases hob with h | h <;> (simp [ob] at h; omega)
      clear own' hgr7 hob u0 u1 u2 u3 CR
      obtain ⟨y0, y1, y2⟩ := own1.two hj
      obtain ⟨c0, c1, c2, c3⟩ := C7.open2
      have j1 : (0 : Int) ≤ (j : Int) := by omega
      have j2 : (j : Int) < (n : Int) := by omega
      have z1 : IntKind.i64.wrap (N j 0 - (x - 1)) = N j 0 - (x - 1) := IntWalk.i64_in _ (by omega)
      have z2 : IntKind.i64.wrap (N j 1 + (x - 1)) = N j 1 + (x - 1) := IntWalk.i64_in _ (by omega)
      have z3 : (if N j 0 - (x - 1) < -1099511627776 then -1099511627776 else N j 0 - (x - 1)) = (max (N j 0 - (x - 1)) (-1099511627776)) := by omega
      have z4 : (if 1099511627776 < N j 1 + (x - 1) then 1099511627776 else N j 1 + (x - 1)) = (min (N j 1 + (x - 1)) 1099511627776) := by omega
      generalize hlo : (max (N j 0 - (x - 1)) (-1099511627776)) = lo at z3
      generalize hhi : (min (N j 1 + (x - 1)) 1099511627776) = hi at z4
      replace hlo := Lib.hid hlo
      replace hhi := Lib.hid hhi
      go_still_tail 20, (by kernel_rfl)
      change wpList _ _ _ _ _ w7.drew
      have own2 := (own1.set2 hj lo (N j 1)).drew
      have C8 := ((C7.far (p := ⟨gl, j * 2, none⟩) hgc (.int .i64 lo)).far (p := ⟨gl, j * 2 + 1, none⟩) hgc (.int .i64 (N j 1))).drew
      have hb8 := bdr (bst (bst hb7 (p := ⟨gl, j * 2, none⟩) k3 (.int .i64 lo)) (p := ⟨gl, j * 2 + 1, none⟩) k3 (.int .i64 (N j 1)))
      have OW2 := Lib.hid own2
      have CW8 := Lib.hid C8
      have HB8 := Lib.hid hb8
      clear own2 C8 hb8
      have hz8 := HB8.out.size
      go_wp2_with (at_builtin; refine wpList_append_Rd _ rfl _ _ 22 rfl w6.heap.size 44 i0 _ 2 16 Try.underlying22 HI.out HZ0.out HZ1.out HZ2.out rfl (by decide) rfl (own_empty _ _ _ _ (iv N) (by simp) HB8.out.size) rfl ((R.keep (bt h3 HB8.out)).alloc _) (one_iv _) (by omega) (by omega) (bal HB8.out _).size ?_; intro A8 d8 w8 own' hgr8 hob)
      clear y0 y1 y2 c0 c1 c2 c3
      obtain ⟨gm, rfl, m3, m4⟩ := (app0 own').pos (by omega)
      have ownm := app0 own'
      have hgl := OW2.out.lt_ (by omega)
      have ownl := (OW2.out.alloc (.cells #[] 44)).kept hgr8 (.inr (by simp [ob]; simp at hgl; omega))
      have hb9 : Below w6.heap.size w6 w8 := (bal HB8.out (.cells #[] 44)).trans (below_grown hgr8 (fun g hg => by simp [ob] at hg; simp at hz8; omega) (bal HB8.out _).size)
      have C9 : Blk w8 cg 30 #[.int .i64 i, .int .i64 j] := (hgr8.block _ (CW8.out.alloc (.cells #[] 44)).lt (by have := CW8.out.lt; simp [ob]; simp at this; omega)).trans (CW8.out.alloc (.cells #[] 44))
      have hgcm : cg ≠ gm := by have := CW8.out.lt; rcases hob with h | h <;> (simp [ob] at h; simp at this; omega)
      have hglm : gl ≠ gm := by rcases hob with h | h <;> (simp [ob] at h; simp at hgl; omega)
      clear own' hgr8 hob OW2 CW8 HB8 hgl hz8
      obtain ⟨y0, y1, y2⟩ := ownm.two hj
      obtain ⟨c0, c1, c2, c3⟩ := C9.open2
      go_still_tail 20, (by kernel_rfl)
      change wpList _ _ _ _ _ w8.drew
      have OM2 := Lib.hid (ownm.set2 hj (N j 0) hi).drew
      have OL2 := Lib.hid ((ownl.far (p := ⟨gm, j * 2, none⟩) (.inr (by simp [ob]; omega)) (.int .i64 (N j 0))).far (p := ⟨gm, j * 2 + 1, none⟩) (.inr (by simp [ob]; omega)) (.int .i64 hi)).drew
      have CC := Lib.hid ((C9.far (p := ⟨gm, j * 2, none⟩) hgcm (.int .i64 (N j 0))).far (p := ⟨gm, j * 2 + 1, none⟩) hgcm (.int .i64 hi)).drew
      have BB := Lib.hid (bdr (bst (bst hb9 (p := ⟨gm, j * 2, none⟩) m3 (.int .i64 (N j 0))) (p := ⟨gm, j * 2 + 1, none⟩) m3 (.int .i64 hi)))
      clear ownm ownl C9 hb9
      go_wp2_with fail
      refine (excess_c _ _ _ _ _ _ _ _ _ _ _ OL2.out.rd (T.keep (bt h3 BB.out))).mono ?_
      rintro er w9 ⟨rfl, h9⟩
      clear y0 y1 y2 c0 c1 c2 c3
      obtain ⟨c0, c1, c2, c3⟩ := (CC.out.keep h9).open2
      go_wp2_with fail
      refine (excess_c _ _ _ _ _ _ _ _ _ _ _ (OM2.out.keep h9).rd (T.keep (bt h3 (bt BB.out h9)))).mono ?_
      rintro er w10 ⟨rfl, h10⟩
      clear c0 c1 c2 c3
      have XL := HL.out (x - 1) (by omega)
      have XM := HM.out (x - 1) (by omega)
      rw [hlo.out] at XL
      rw [hhi.out] at XM
      have EY := EZ.out.2
      rw [hlo.out, hhi.out] at EY
      rw [if_neg (by omega)] at XL
      rw [if_neg (by omega)] at XM
      rw [XL, XM]
      have XLh := Lib.hid XL
      have XMh := Lib.hid XM
      clear XL XM EY
      have g1 : ((x - 1 : Int) == x) = false := by simp; omega
      have g2 : decide (x - 1 < x) = true := decide_eq_true (by omega)
      go_wp2
      go_roundw
      case rel => exact ⟨2, by omega, by go_num, bt (bt BB.out h9) h10⟩
      case measure => simp [intOf]
    · go_wp2
      go_returns
      exact ⟨rfl, bt h3 hb⟩
end Go.Proofs.Ytgfmheaijdcgoaa
