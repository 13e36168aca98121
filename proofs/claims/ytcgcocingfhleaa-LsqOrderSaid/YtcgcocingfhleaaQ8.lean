/-
  Contracts: what the reference's Solve returns.
-/
import Derived.Test.YtcgcocingfhleaaQ6
namespace Go.Proofs.Ytcgcocingfhleaa
set_option linter.unusedVariables false
set_option linter.unusedSimpArgs false
open Go.RowKit
attribute [local irreducible] World.setCell World.cell?

theorem er_pv' {n : Nat} {M : Lq.Tab} (O : Lq.Ok n M) (hd : 0 < Lq.det n M) (h : Lq.pv (Lq.nr (Lq.sx n M) (Lq.det n M)) (Lq.nr (Lq.sy n M) (Lq.det n M)) = false) : Lq.er n M = 2 := Lq.er_2 (Lq.ee_ok.2 ⟨O, hd⟩) h
theorem pv_in' {x y : Int} (h : Lq.pv x y = true) : Wi.in64 x ∧ Wi.in64 y := by have := Lq.pv_iff.1 h; unfold Wi.in64; omega
theorem pv_no'1 {x y : Int} (h : ¬ Wi.in64 x) : Lq.pv x y = false := decide_eq_false (by unfold Wi.in64 at h; omega)
theorem pv_no'2 {x y : Int} (h : ¬ Wi.in64 y) : Lq.pv x y = false := decide_eq_false (by unfold Wi.in64 at h; omega)
theorem exact_ok (A : Option Addr) (n c : Nat) (M : Lq.Tab) (w : World) (T : Rd w 6 A n c (iv M)) (h : Lq.ee n M = 0) : Calls Try.prog 40 #[.slice A n c] w fun e w' => e = .returned (.tuple #[.agg #[.int .i64 (Wi.Hq (Lq.sx n M)), .int .u64 (Wi.Lr (Lq.sx n M)), .int .i64 (Wi.Hq (Lq.sy n M)), .int .u64 (Wi.Lr (Lq.sy n M)), .int .i64 (Lq.det n M), .int .i64 (0), .int .i64 (0)], .int .i64 0]) ∧ Below w.heap.size w w' := (exact_c A n c M w T).mono fun _ _ q => ⟨q.1.1 h, q.2⟩
theorem exact_no (A : Option Addr) (n c : Nat) (M : Lq.Tab) (w : World) (T : Rd w 6 A n c (iv M)) (h : Lq.ee n M ≠ 0) : Calls Try.prog 40 #[.slice A n c] w fun e w' => e = .returned (.tuple #[.agg #[.int .i64 (0), .int .u64 (0), .int .i64 (0), .int .u64 (0), .int .i64 (0), .int .i64 (0), .int .i64 (0)], .int .i64 (Lq.ee n M)]) ∧ Below w.heap.size w w' := (exact_c A n c M w T).mono fun _ _ q => ⟨q.1.2 h, q.2⟩
set_option maxRecDepth 100000 in
set_option maxHeartbeats 4000000 in
theorem rsolve_c (A : Option Addr) (n c : Nat) (M : Lq.Tab) (w : World) (T : Rd w 6 A n c (iv M)) :
    Calls Try.prog 20 #[.slice A n c] w fun e w' => Sv n M e ∧ Below w.heap.size w w' := by
  by_cases h : Lq.ee n M = 0
  rotate_left
  · have h1 : (Lq.ee n M != 0) = true := by simpa using h
    have H := Lib.hid h
    clear h
    go_enter Try.func20, Try.ntmps20
    have R := Blk.new w 38 #[.int .i64 (0), .int .u64 (0), .int .i64 (0), .int .u64 (0), .int .i64 (0), .int .i64 (0), .int .i64 (0)]
    have hB := ba w (.cells #[.int .i64 (0), .int .u64 (0), .int .i64 (0), .int .u64 (0), .int .i64 (0), .int .i64 (0), .int .i64 (0)] 38)
    go_wp2_with fail
    refine (exact_no _ _ _ _ _ (T.keep hB) H.out).mono ?_
    rintro e w1 ⟨rfl, hb⟩
    replace R := R.keep hb
    replace hB := bt hB hb
    clear hb
    obtain ⟨r00, r01, r02, r03, r04, r05, r06, r07, r08⟩ := R.open7
    go_wp2_with fail
    refine bodyPost_ret (by simp [results, Try.results20, go_sem, r00, r01, r02, r03, r04, r05, r06, r07, r08]; try rfl) rfl ?_
    exact ⟨sv_no (Lq.er_ee H.out) H.out, by repeat (first | exact Below.refl _ _ | (with_reducible assumption) | (with_reducible apply bal) | (with_reducible apply bdr) | (with_reducible apply bdnl) | (with_reducible refine bst ?_ (by first | (simp; done) | (simp; omega) | omega) _) | (with_reducible refine bt ?_ (by with_reducible assumption)))⟩
  obtain ⟨O, hd0⟩ := Lq.ee_ok.1 h
  have HC := Lib.hid h
  clear h
  obtain ⟨bxx, bxy, byy, bxz, byz⟩ := O.bd
  obtain ⟨xx1, xx2⟩ := bxx n (Nat.le_refl _)
  obtain ⟨xy1, xy2⟩ := bxy n (Nat.le_refl _)
  obtain ⟨yy1, yy2⟩ := byy n (Nat.le_refl _)
  obtain ⟨xz1, xz2⟩ := bxz n (Nat.le_refl _)
  obtain ⟨yz1, yz2⟩ := byz n (Nat.le_refl _)
  clear bxx bxy byy bxz byz
  obtain ⟨⟨sx1, sx2⟩, ⟨sy1, sy2⟩, dt1, dt2⟩ := O.sxb
  have q5 := Lq.mul_bd (a := Lq.xx n M) (b := Lq.yy n M) ⟨xx1, xx2⟩ ⟨yy1, yy2⟩
  have q6 := Lq.mul_bd (a := Lq.xy n M) (b := Lq.xy n M) ⟨xy1, xy2⟩ ⟨xy1, xy2⟩
  have f1 : IntKind.i64.wrap (Lq.xx n M * Lq.yy n M) = Lq.xx n M * Lq.yy n M := IntWalk.i64_in _ (by omega)
  have f2 : IntKind.i64.wrap (Lq.xy n M * Lq.xy n M) = Lq.xy n M * Lq.xy n M := IntWalk.i64_in _ (by omega)
  have f3 : IntKind.i64.wrap (Lq.xx n M * Lq.yy n M - Lq.xy n M * Lq.xy n M) = Lq.det n M := IntWalk.i64_in _ (by omega)
  have EX := Lib.hid (show Lq.yy n M * Lq.xz n M - Lq.xy n M * Lq.yz n M = Lq.sx n M from rfl)
  have EY := Lib.hid (show Lq.xx n M * Lq.yz n M - Lq.xy n M * Lq.xz n M = Lq.sy n M from rfl)
  have OX : Wi.Wd (Wi.Hq (Lq.sx n M)) (Wi.Lr (Lq.sx n M)) (Lq.sx n M) := Wi.wd_self (by unfold Wi.inW; omega)
  have OY : Wi.Wd (Wi.Hq (Lq.sy n M)) (Wi.Lr (Lq.sy n M)) (Lq.sy n M) := Wi.wd_self (by unfold Wi.inW; omega)
  clear q5 q6
  go_enter Try.func20, Try.ntmps20
  have R := Blk.new w 38 #[.int .i64 (0), .int .u64 (0), .int .i64 (0), .int .u64 (0), .int .i64 (0), .int .i64 (0), .int .i64 (0)]
  have hB := ba w (.cells #[.int .i64 (0), .int .u64 (0), .int .i64 (0), .int .u64 (0), .int .i64 (0), .int .i64 (0), .int .i64 (0)] 38)
  go_wp2_with fail
  refine (exact_ok _ _ _ _ _ (T.keep hB) HC.out).mono ?_
  rintro e w1 ⟨rfl, hb⟩
  replace R := R.keep hb
  replace hB := bt hB hb
  clear hb
  have hz1 := hB.size
  have l1R := R.lt
  replace R := R.alloc (.cells #[.int .i64 (Wi.Hq (Lq.sx n M)), .int .u64 (Wi.Lr (Lq.sx n M)), .int .i64 (Wi.Hq (Lq.sy n M)), .int .u64 (Wi.Lr (Lq.sy n M)), .int .i64 (Lq.det n M), .int .i64 (0), .int .i64 (0)] 38)
  replace hB := bal hB (.cells #[.int .i64 (Wi.Hq (Lq.sx n M)), .int .u64 (Wi.Lr (Lq.sx n M)), .int .i64 (Wi.Hq (Lq.sy n M)), .int .u64 (Wi.Lr (Lq.sy n M)), .int .i64 (Lq.det n M), .int .i64 (0), .int .i64 (0)] 38)
  have S := Blk.new w1 38 #[.int .i64 (Wi.Hq (Lq.sx n M)), .int .u64 (Wi.Lr (Lq.sx n M)), .int .i64 (Wi.Hq (Lq.sy n M)), .int .u64 (Wi.Lr (Lq.sy n M)), .int .i64 (Lq.det n M), .int .i64 (0), .int .i64 (0)]
  by_cases q1 : Wi.in64 (Lq.nr (Lq.sx n M) (Lq.det n M))
  rotate_left
  · have E1 := Lib.hid (Wi.iv_no q1)
    have E2 := Lib.hid (Wi.ib_no q1)
    have HE := Lib.hid (er_pv' O hd0 (pv_no'1 (y := Lq.nr (Lq.sy n M) (Lq.det n M)) q1))
    clear q1
    obtain ⟨c00, c01, c02, c03, c04, c05, c06, c07, c08⟩ := S.open7
    go_wp2_with fail
    refine (rnear1_c _ _ _ _ _ OX hd0 (by omega) sx1 sx2).mono ?_
    rw [E1.out, E2.out]
    rintro e w2 ⟨rfl, hb⟩
    clear c00 c01 c02 c03 c04 c05 c06 c07 c08
    replace R := R.keep hb
    replace S := S.keep hb
    replace hB := bt hB hb
    clear hb
    obtain ⟨c00, c01, c02, c03, c04, c05, c06, c07, c08⟩ := S.open7
    go_wp2_with fail
    refine (rnear1_c _ _ _ _ _ OY hd0 (by omega) sy1 sy2).mono ?_
    rintro e w3 ⟨rfl, hb⟩
    clear c00 c01 c02 c03 c04 c05 c06 c07 c08
    replace R := R.keep hb
    replace S := S.keep hb
    replace hB := bt hB hb
    clear hb
    obtain ⟨s0, s1, s2, s3, s4, s5, s6, s7, s8⟩ := S.open7
    replace R := R.far (p := ⟨w1.heap.size, 5, none⟩) (by first | (simp; done) | (simp; omega) | omega) (.int .i64 (0))
    replace hB := bst hB (p := ⟨w1.heap.size, 5, none⟩) (by first | (simp; done) | (simp; omega) | omega) (.int .i64 (0))
    replace S := S.set_ 5 (.int .i64 (0))
    replace R := R.far (p := ⟨w1.heap.size, 6, none⟩) (by first | (simp; done) | (simp; omega) | omega) (.int .i64 (Wi.iv (Lq.nr (Lq.sy n M) (Lq.det n M))))
    replace hB := bst hB (p := ⟨w1.heap.size, 6, none⟩) (by first | (simp; done) | (simp; omega) | omega) (.int .i64 (Wi.iv (Lq.nr (Lq.sy n M) (Lq.det n M))))
    replace S := S.set_ 6 (.int .i64 (Wi.iv (Lq.nr (Lq.sy n M) (Lq.det n M))))
    simp only [List.setIfInBounds_toArray, List.set_cons_zero, List.set_cons_succ] at S
    obtain ⟨r00, r01, r02, r03, r04, r05, r06, r07, r08⟩ := R.open7
    go_wp2_with fail
    refine bodyPost_ret (by simp [results, Try.results20, go_sem, r00, r01, r02, r03, r04, r05, r06, r07, r08]; try rfl) rfl ?_
    exact ⟨sv_no HE.out (by omega), by repeat (first | exact Below.refl _ _ | (with_reducible assumption) | (with_reducible apply bal) | (with_reducible apply bdr) | (with_reducible apply bdnl) | (with_reducible refine bst ?_ (by first | (simp; done) | (simp; omega) | omega) _) | (with_reducible refine bt ?_ (by with_reducible assumption)))⟩
  by_cases q2 : Wi.in64 (Lq.nr (Lq.sy n M) (Lq.det n M))
  rotate_left
  · have E1 := Lib.hid (Wi.iv_yes q1)
    have E2 := Lib.hid (Wi.ib_yes q1)
    have E3 := Lib.hid (Wi.iv_no q2)
    have E4 := Lib.hid (Wi.ib_no q2)
    have HE := Lib.hid (er_pv' O hd0 (pv_no'2 (x := Lq.nr (Lq.sx n M) (Lq.det n M)) q2))
    clear q1 q2
    obtain ⟨c00, c01, c02, c03, c04, c05, c06, c07, c08⟩ := S.open7
    go_wp2_with fail
    refine (rnear1_c _ _ _ _ _ OX hd0 (by omega) sx1 sx2).mono ?_
    rw [E1.out, E2.out]
    rintro e w2 ⟨rfl, hb⟩
    clear c00 c01 c02 c03 c04 c05 c06 c07 c08
    replace R := R.keep hb
    replace S := S.keep hb
    replace hB := bt hB hb
    clear hb
    obtain ⟨c00, c01, c02, c03, c04, c05, c06, c07, c08⟩ := S.open7
    go_wp2_with fail
    refine (rnear1_c _ _ _ _ _ OY hd0 (by omega) sy1 sy2).mono ?_
    rw [E3.out, E4.out]
    rintro e w3 ⟨rfl, hb⟩
    clear c00 c01 c02 c03 c04 c05 c06 c07 c08
    replace R := R.keep hb
    replace S := S.keep hb
    replace hB := bt hB hb
    clear hb
    obtain ⟨s0, s1, s2, s3, s4, s5, s6, s7, s8⟩ := S.open7
    replace R := R.far (p := ⟨w1.heap.size, 5, none⟩) (by first | (simp; done) | (simp; omega) | omega) (.int .i64 (Lq.nr (Lq.sx n M) (Lq.det n M)))
    replace hB := bst hB (p := ⟨w1.heap.size, 5, none⟩) (by first | (simp; done) | (simp; omega) | omega) (.int .i64 (Lq.nr (Lq.sx n M) (Lq.det n M)))
    replace S := S.set_ 5 (.int .i64 (Lq.nr (Lq.sx n M) (Lq.det n M)))
    replace R := R.far (p := ⟨w1.heap.size, 6, none⟩) (by first | (simp; done) | (simp; omega) | omega) (.int .i64 (0))
    replace hB := bst hB (p := ⟨w1.heap.size, 6, none⟩) (by first | (simp; done) | (simp; omega) | omega) (.int .i64 (0))
    replace S := S.set_ 6 (.int .i64 (0))
    simp only [List.setIfInBounds_toArray, List.set_cons_zero, List.set_cons_succ] at S
    obtain ⟨r00, r01, r02, r03, r04, r05, r06, r07, r08⟩ := R.open7
    go_wp2_with fail
    refine bodyPost_ret (by simp [results, Try.results20, go_sem, r00, r01, r02, r03, r04, r05, r06, r07, r08]; try rfl) rfl ?_
    exact ⟨sv_no HE.out (by omega), by repeat (first | exact Below.refl _ _ | (with_reducible assumption) | (with_reducible apply bal) | (with_reducible apply bdr) | (with_reducible apply bdnl) | (with_reducible refine bst ?_ (by first | (simp; done) | (simp; omega) | omega) _) | (with_reducible refine bt ?_ (by with_reducible assumption)))⟩
  cases q3 : Lq.pv (Lq.nr (Lq.sx n M) (Lq.det n M)) (Lq.nr (Lq.sy n M) (Lq.det n M))
  · have E1 := Lib.hid (Wi.iv_yes q1)
    have E2 := Lib.hid (Wi.ib_yes q1)
    have E3 := Lib.hid (Wi.iv_yes q2)
    have E4 := Lib.hid (Wi.ib_yes q2)
    have E5 := Lib.hid q3
    have HE := Lib.hid (er_pv' O hd0 q3)
    clear q1 q2 q3
    obtain ⟨c00, c01, c02, c03, c04, c05, c06, c07, c08⟩ := S.open7
    go_wp2_with fail
    refine (rnear1_c _ _ _ _ _ OX hd0 (by omega) sx1 sx2).mono ?_
    rw [E1.out, E2.out]
    rintro e w2 ⟨rfl, hb⟩
    clear c00 c01 c02 c03 c04 c05 c06 c07 c08
    replace R := R.keep hb
    replace S := S.keep hb
    replace hB := bt hB hb
    clear hb
    obtain ⟨c00, c01, c02, c03, c04, c05, c06, c07, c08⟩ := S.open7
    go_wp2_with fail
    refine (rnear1_c _ _ _ _ _ OY hd0 (by omega) sy1 sy2).mono ?_
    rw [E3.out, E4.out]
    rintro e w3 ⟨rfl, hb⟩
    clear c00 c01 c02 c03 c04 c05 c06 c07 c08
    replace R := R.keep hb
    replace S := S.keep hb
    replace hB := bt hB hb
    clear hb
    obtain ⟨s0, s1, s2, s3, s4, s5, s6, s7, s8⟩ := S.open7
    replace R := R.far (p := ⟨w1.heap.size, 5, none⟩) (by first | (simp; done) | (simp; omega) | omega) (.int .i64 (Lq.nr (Lq.sx n M) (Lq.det n M)))
    replace hB := bst hB (p := ⟨w1.heap.size, 5, none⟩) (by first | (simp; done) | (simp; omega) | omega) (.int .i64 (Lq.nr (Lq.sx n M) (Lq.det n M)))
    replace S := S.set_ 5 (.int .i64 (Lq.nr (Lq.sx n M) (Lq.det n M)))
    replace R := R.far (p := ⟨w1.heap.size, 6, none⟩) (by first | (simp; done) | (simp; omega) | omega) (.int .i64 (Lq.nr (Lq.sy n M) (Lq.det n M)))
    replace hB := bst hB (p := ⟨w1.heap.size, 6, none⟩) (by first | (simp; done) | (simp; omega) | omega) (.int .i64 (Lq.nr (Lq.sy n M) (Lq.det n M)))
    replace S := S.set_ 6 (.int .i64 (Lq.nr (Lq.sy n M) (Lq.det n M)))
    simp only [List.setIfInBounds_toArray, List.set_cons_zero, List.set_cons_succ] at S
    go_wp2_with fail
    refine (rpvalid_c _ _ _).mono ?_
    rw [E5.out]
    rintro e w4 ⟨rfl, hb⟩
    clear s0 s1 s2 s3 s4 s5 s6 s7 s8
    replace R := R.keep hb
    replace S := S.keep hb
    replace hB := bt hB hb
    clear hb
    obtain ⟨r00, r01, r02, r03, r04, r05, r06, r07, r08⟩ := R.open7
    go_wp2_with fail
    refine bodyPost_ret (by simp [results, Try.results20, go_sem, r00, r01, r02, r03, r04, r05, r06, r07, r08]; try rfl) rfl ?_
    exact ⟨sv_no HE.out (by omega), by repeat (first | exact Below.refl _ _ | (with_reducible assumption) | (with_reducible apply bal) | (with_reducible apply bdr) | (with_reducible apply bdnl) | (with_reducible refine bst ?_ (by first | (simp; done) | (simp; omega) | omega) _) | (with_reducible refine bt ?_ (by with_reducible assumption)))⟩
  · have E1 := Lib.hid (Wi.iv_yes q1)
    have E2 := Lib.hid (Wi.ib_yes q1)
    have E3 := Lib.hid (Wi.iv_yes q2)
    have E4 := Lib.hid (Wi.ib_yes q2)
    have E5 := Lib.hid q3
    have HE := Lib.hid (Lq.er_ok.2 ⟨O, hd0, q3⟩)
    clear q1 q2 q3
    obtain ⟨c00, c01, c02, c03, c04, c05, c06, c07, c08⟩ := S.open7
    go_wp2_with fail
    refine (rnear1_c _ _ _ _ _ OX hd0 (by omega) sx1 sx2).mono ?_
    rw [E1.out, E2.out]
    rintro e w2 ⟨rfl, hb⟩
    clear c00 c01 c02 c03 c04 c05 c06 c07 c08
    replace R := R.keep hb
    replace S := S.keep hb
    replace hB := bt hB hb
    clear hb
    obtain ⟨c00, c01, c02, c03, c04, c05, c06, c07, c08⟩ := S.open7
    go_wp2_with fail
    refine (rnear1_c _ _ _ _ _ OY hd0 (by omega) sy1 sy2).mono ?_
    rw [E3.out, E4.out]
    rintro e w3 ⟨rfl, hb⟩
    clear c00 c01 c02 c03 c04 c05 c06 c07 c08
    replace R := R.keep hb
    replace S := S.keep hb
    replace hB := bt hB hb
    clear hb
    obtain ⟨s0, s1, s2, s3, s4, s5, s6, s7, s8⟩ := S.open7
    replace R := R.far (p := ⟨w1.heap.size, 5, none⟩) (by first | (simp; done) | (simp; omega) | omega) (.int .i64 (Lq.nr (Lq.sx n M) (Lq.det n M)))
    replace hB := bst hB (p := ⟨w1.heap.size, 5, none⟩) (by first | (simp; done) | (simp; omega) | omega) (.int .i64 (Lq.nr (Lq.sx n M) (Lq.det n M)))
    replace S := S.set_ 5 (.int .i64 (Lq.nr (Lq.sx n M) (Lq.det n M)))
    replace R := R.far (p := ⟨w1.heap.size, 6, none⟩) (by first | (simp; done) | (simp; omega) | omega) (.int .i64 (Lq.nr (Lq.sy n M) (Lq.det n M)))
    replace hB := bst hB (p := ⟨w1.heap.size, 6, none⟩) (by first | (simp; done) | (simp; omega) | omega) (.int .i64 (Lq.nr (Lq.sy n M) (Lq.det n M)))
    replace S := S.set_ 6 (.int .i64 (Lq.nr (Lq.sy n M) (Lq.det n M)))
    simp only [List.setIfInBounds_toArray, List.set_cons_zero, List.set_cons_succ] at S
    go_wp2_with fail
    refine (rpvalid_c _ _ _).mono ?_
    rw [E5.out]
    rintro e w4 ⟨rfl, hb⟩
    clear s0 s1 s2 s3 s4 s5 s6 s7 s8
    replace R := R.keep hb
    replace S := S.keep hb
    replace hB := bt hB hb
    clear hb
    obtain ⟨c00, c01, c02, c03, c04, c05, c06, c07, c08⟩ := S.open7
    obtain ⟨r00, r01, r02, r03, r04, r05, r06, r07, r08⟩ := R.open7
    go_wp2_with fail
    refine bodyPost_ret (by simp [results, Try.results20, go_sem, r00, r01, r02, r03, r04, r05, r06, r07, r08]; try rfl) rfl ?_
    exact ⟨sv_ok HE.out, by repeat (first | exact Below.refl _ _ | (with_reducible assumption) | (with_reducible apply bal) | (with_reducible apply bdr) | (with_reducible apply bdnl) | (with_reducible refine bst ?_ (by first | (simp; done) | (simp; omega) | omega) _) | (with_reducible refine bt ?_ (by with_reducible assumption)))⟩
end Go.Proofs.Ytcgcocingfhleaa
