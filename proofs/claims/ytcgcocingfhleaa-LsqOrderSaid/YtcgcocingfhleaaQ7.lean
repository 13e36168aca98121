/-
  Contracts: what Solve returns.
-/
import Derived.Test.YtcgcocingfhleaaQ6
namespace Go.Proofs.Ytcgcocingfhleaa
set_option linter.unusedVariables false
set_option linter.unusedSimpArgs false
open Go.RowKit
attribute [local irreducible] World.setCell World.cell?

theorem er_pv {n : Nat} {M : Lq.Tab} (O : Lq.Ok n M) (hd : 0 < Lq.det n M) (h : Lq.pv (Lq.nr (Lq.sx n M) (Lq.det n M)) (Lq.nr (Lq.sy n M) (Lq.det n M)) = false) : Lq.er n M = 2 := Lq.er_2 (Lq.ee_ok.2 ⟨O, hd⟩) h
theorem pv_in {x y : Int} (h : Lq.pv x y = true) : Wi.in64 x ∧ Wi.in64 y := by have := Lq.pv_iff.1 h; unfold Wi.in64; omega
theorem pv_no1 {x y : Int} (h : ¬ Wi.in64 x) : Lq.pv x y = false := decide_eq_false (by unfold Wi.in64 at h; omega)
theorem pv_no2 {x y : Int} (h : ¬ Wi.in64 y) : Lq.pv x y = false := decide_eq_false (by unfold Wi.in64 at h; omega)
set_option maxRecDepth 100000 in
set_option maxHeartbeats 4000000 in
theorem solve_c (A : Option Addr) (n c : Nat) (M : Lq.Tab) (w : World) (T : Rd w 6 A n c (iv M)) :
    Calls Try.prog 19 #[.slice A n c] w fun e w' => Sv n M e ∧ Below w.heap.size w w' := by
  by_cases h : Lq.ck n M = 0
  rotate_left
  · have h1 : (Lq.ck n M != 0) = true := by simpa using h
    have H := Lib.hid h
    clear h
    go_enter Try.func19, Try.ntmps19
    try simp only [List.append_eq, List.cons_append, List.nil_append]
    have R := Blk.new w 38 #[.int .i64 (0), .int .u64 (0), .int .i64 (0), .int .u64 (0), .int .i64 (0), .int .i64 (0), .int .i64 (0)]
    have hB := ba w (.cells #[.int .i64 (0), .int .u64 (0), .int .i64 (0), .int .u64 (0), .int .i64 (0), .int .i64 (0), .int .i64 (0)] 38)
    go_wp2_with fail
    refine (normal_no _ _ _ _ _ (T.keep hB) H.out).mono ?_
    rintro e w1 ⟨rfl, hb⟩
    replace R := R.keep hb
    replace hB := bt hB hb
    clear hb
    obtain ⟨r00, r01, r02, r03, r04, r05, r06, r07, r08⟩ := R.open7
    go_wp2_with fail
    refine bodyPost_ret (by simp [results, Try.results19, go_sem, r00, r01, r02, r03, r04, r05, r06, r07, r08]; try rfl) rfl ?_
    exact ⟨sv_no (by rw [Lq.er_ee (by rw [Lq.ee_ck H.out]; exact H.out), Lq.ee_ck H.out]) H.out, by repeat (first | exact Below.refl _ _ | (with_reducible assumption) | (with_reducible apply bal) | (with_reducible apply bdr) | (with_reducible apply bdnl) | (with_reducible refine bst ?_ (by first | (simp; done) | (simp; omega) | omega) _) | (with_reducible refine bt ?_ (by with_reducible assumption)))⟩
  have O := Lq.ck_ok.1 h
  have HC := Lib.hid h
  clear h
  obtain ⟨bxx, bxy, byy, bxz, byz⟩ := O.bd
  obtain ⟨xx1, xx2⟩ := bxx n (Nat.le_refl _)
  obtain ⟨xy1, xy2⟩ := bxy n (Nat.le_refl _)
  obtain ⟨yy1, yy2⟩ := byy n (Nat.le_refl _)
  obtain ⟨xz1, xz2⟩ := bxz n (Nat.le_refl _)
  obtain ⟨yz1, yz2⟩ := byz n (Nat.le_refl _)
  clear bxx bxy byy bxz byz
  obtain ⟨⟨sx1, sx2⟩, ⟨sy1, sy2⟩, dt1, dt2⟩ := O.sxb
  have q5 := Lq.mul_bd (a := Lq.xx n M) (b := Lq.yy n M) ⟨xx1, xx2⟩ ⟨yy1, yy2⟩
  have q6 := Lq.mul_bd (a := Lq.xy n M) (b := Lq.xy n M) ⟨xy1, xy2⟩ ⟨xy1, xy2⟩
  have f1 : IntKind.i64.wrap (Lq.xx n M * Lq.yy n M) = Lq.xx n M * Lq.yy n M := IntWalk.i64_in _ (by omega)
  have f2 : IntKind.i64.wrap (Lq.xy n M * Lq.xy n M) = Lq.xy n M * Lq.xy n M := IntWalk.i64_in _ (by omega)
  have f3 : IntKind.i64.wrap (Lq.xx n M * Lq.yy n M - Lq.xy n M * Lq.xy n M) = Lq.det n M := IntWalk.i64_in _ (by omega)
  have EX := Lib.hid (show Lq.yy n M * Lq.xz n M - Lq.xy n M * Lq.yz n M = Lq.sx n M from rfl)
  have EY := Lib.hid (show Lq.xx n M * Lq.yz n M - Lq.xy n M * Lq.xz n M = Lq.sy n M from rfl)
  have OX : Wi.Wd (Wi.Hq (Lq.sx n M)) (Wi.Lr (Lq.sx n M)) (Lq.sx n M) := Wi.wd_self (by unfold Wi.inW; omega)
  have OY : Wi.Wd (Wi.Hq (Lq.sy n M)) (Wi.Lr (Lq.sy n M)) (Lq.sy n M) := Wi.wd_self (by unfold Wi.inW; omega)
  clear q5 q6
  go_enter Try.func19, Try.ntmps19
  try simp only [List.append_eq, List.cons_append, List.nil_append]
  have R := Blk.new w 38 #[.int .i64 (0), .int .u64 (0), .int .i64 (0), .int .u64 (0), .int .i64 (0), .int .i64 (0), .int .i64 (0)]
  have hB := ba w (.cells #[.int .i64 (0), .int .u64 (0), .int .i64 (0), .int .u64 (0), .int .i64 (0), .int .i64 (0), .int .i64 (0)] 38)
  go_wp2_with fail
  refine (normal_ok _ _ _ _ _ (T.keep hB) O).mono ?_
  rintro e w1 ⟨rfl, hb⟩
  replace R := R.keep hb
  replace hB := bt hB hb
  clear hb
  have hz1 := hB.size
  have l1R := R.lt
  replace R := R.alloc (.cells #[.int .i64 (Lq.xx n M), .int .i64 (Lq.xy n M), .int .i64 (Lq.yy n M), .int .i64 (Lq.xz n M), .int .i64 (Lq.yz n M)] 26)
  replace hB := bal hB (.cells #[.int .i64 (Lq.xx n M), .int .i64 (Lq.xy n M), .int .i64 (Lq.yy n M), .int .i64 (Lq.xz n M), .int .i64 (Lq.yz n M)] 26)
  have N := Blk.new w1 26 #[.int .i64 (Lq.xx n M), .int .i64 (Lq.xy n M), .int .i64 (Lq.yy n M), .int .i64 (Lq.xz n M), .int .i64 (Lq.yz n M)]
  go_wp2_with fail
  refine wp_region_inv (fun L x G wx => Below w.heap.size w wx
        ∧ w.heap.size < wx.heap.size
        ∧ Blk wx (w.heap.size) 38 #[.int .i64 (0), .int .u64 (0), .int .i64 (0), .int .u64 (0), .int .i64 (0), .int .i64 (0), .int .i64 (0)]
        ∧ w1.heap.size < wx.heap.size
        ∧ Blk wx (w1.heap.size) 26 #[.int .i64 (Lq.xx n M), .int .i64 (Lq.xy n M), .int .i64 (Lq.yy n M), .int .i64 (Lq.xz n M), .int .i64 (Lq.yz n M)]
        ∧ (L 30 → w.heap.size ≤ G 30 ∧ G 30 < wx.heap.size ∧ w.heap.size ≠ G 30 ∧ w1.heap.size ≠ G 30)
        ∧ (L 30 → ¬ L 31 → Blk wx (G 30) 38 #[.int .i64 (0), .int .u64 (0), .int .i64 (0), .int .u64 (0), .int .i64 (0), .int .i64 (0), .int .i64 (0)])
        ∧ (L 31 → Blk wx (G 30) 38 #[.int .i64 (Wi.Hq (Lq.sx n M)), .int .u64 (Wi.Lr (Lq.sx n M)), .int .i64 (Wi.Hq (Lq.sy n M)), .int .u64 (Wi.Lr (Lq.sy n M)), .int .i64 (Lq.det n M), .int .i64 (0), .int .i64 (0)])
        ∧ (L 31 → L 30)
        ∧ (L 0 → x 20 = .pointer (some ⟨w1.heap.size, 2, none⟩))
        ∧ (L 1 → x 21 = .int .i64 (Lq.yy n M))
        ∧ (L 2 → x 22 = .pointer (some ⟨w1.heap.size, 3, none⟩))
        ∧ (L 3 → x 23 = .int .i64 (Lq.xz n M))
        ∧ (L 4 → x 24 = .pointer (some ⟨w1.heap.size, 1, none⟩))
        ∧ (L 5 → x 25 = .int .i64 (Lq.xy n M))
        ∧ (L 6 → x 26 = .pointer (some ⟨w1.heap.size, 4, none⟩))
        ∧ (L 7 → x 27 = .int .i64 (Lq.yz n M))
        ∧ (L 8 → x 28 = .agg #[.int .i64 (Wi.Hq (Lq.sx n M)), .int .u64 (Wi.Lr (Lq.sx n M))])
        ∧ (L 9 → x 29 = .pointer (some ⟨w1.heap.size, 0, none⟩))
        ∧ (L 10 → x 30 = .int .i64 (Lq.xx n M))
        ∧ (L 11 → x 31 = .pointer (some ⟨w1.heap.size, 4, none⟩))
        ∧ (L 12 → x 32 = .int .i64 (Lq.yz n M))
        ∧ (L 13 → x 33 = .pointer (some ⟨w1.heap.size, 1, none⟩))
        ∧ (L 14 → x 34 = .int .i64 (Lq.xy n M))
        ∧ (L 15 → x 35 = .pointer (some ⟨w1.heap.size, 3, none⟩))
        ∧ (L 16 → x 36 = .int .i64 (Lq.xz n M))
        ∧ (L 17 → x 37 = .agg #[.int .i64 (Wi.Hq (Lq.sy n M)), .int .u64 (Wi.Lr (Lq.sy n M))])
        ∧ (L 18 → x 38 = .pointer (some ⟨w1.heap.size, 0, none⟩))
        ∧ (L 19 → x 39 = .int .i64 (Lq.xx n M))
        ∧ (L 20 → x 40 = .pointer (some ⟨w1.heap.size, 2, none⟩))
        ∧ (L 21 → x 41 = .int .i64 (Lq.yy n M))
        ∧ (L 22 → x 42 = .int .i64 (Lq.xx n M * Lq.yy n M))
        ∧ (L 23 → x 43 = .pointer (some ⟨w1.heap.size, 1, none⟩))
        ∧ (L 24 → x 44 = .int .i64 (Lq.xy n M))
        ∧ (L 25 → x 45 = .pointer (some ⟨w1.heap.size, 1, none⟩))
        ∧ (L 26 → x 46 = .int .i64 (Lq.xy n M))
        ∧ (L 27 → x 47 = .int .i64 (Lq.xy n M * Lq.xy n M))
        ∧ (L 28 → x 48 = .int .i64 (Lq.det n M))
        ∧ (L 29 → x 49 = .agg #[.int .i64 (Wi.Hq (Lq.sx n M)), .int .u64 (Wi.Lr (Lq.sx n M)), .int .i64 (Wi.Hq (Lq.sy n M)), .int .u64 (Wi.Lr (Lq.sy n M)), .int .i64 (Lq.det n M), .int .i64 (0), .int .i64 (0)])
        ∧ (L 30 → x 6 = .pointer (some ⟨G 30, 0, none⟩))) [20, 21, 22, 23, 24, 25, 26, 27, 28, 29, 30, 31, 32, 33, 34, 35, 36, 37, 38, 39, 40, 41, 42, 43, 44, 45, 46, 47, 48, 49, 6] 32 (by kernel_rfl) (by kernel_rfl) (by kernel_rfl) ?h0 ?st ?fin
  case h0 =>
    exact ⟨bdr hB, Blk.lt R.drew, R.drew, Blk.lt N.drew, N.drew, fun q => q.elim, fun q => q.elim, fun q => q.elim, fun q => q.elim, fun q => q.elim, fun q => q.elim, fun q => q.elim, fun q => q.elim, fun q => q.elim, fun q => q.elim, fun q => q.elim, fun q => q.elim, fun q => q.elim, fun q => q.elim, fun q => q.elim, fun q => q.elim, fun q => q.elim, fun q => q.elim, fun q => q.elim, fun q => q.elim, fun q => q.elim, fun q => q.elim, fun q => q.elim, fun q => q.elim, fun q => q.elim, fun q => q.elim, fun q => q.elim, fun q => q.elim, fun q => q.elim, fun q => q.elim, fun q => q.elim, fun q => q.elim, fun q => q.elim, fun q => q.elim, fun q => q.elim⟩
  case st =>
    refine StepsOk.cons (i := 0) rfl (fun L x G w1 K Q hn hp hJ hK => ?_) ?_
    · skip
      simp only [putAll, Act.put, List.setIfInBounds_toArray, List.set_cons_zero, List.set_cons_succ]
      go_simp
      refine hK _ G _ (by kernel_rfl) ?_
      exact ⟨(hJ.1),
        (hJ.2.1),
        (hJ.2.2.1),
        (hJ.2.2.2.1),
        (hJ.2.2.2.2.1),
        fun q => (hJ.2.2.2.2.2.1) (q.resolve_left (by decide)),
        fun q n => (hJ.2.2.2.2.2.2.1) (q.resolve_left (by decide)) (fun m => n (.inr m)),
        fun q => (hJ.2.2.2.2.2.2.2.1) (q.resolve_left (by decide)),
        fun q => .inr ((hJ.2.2.2.2.2.2.2.2.1) (q.resolve_left (by decide))),
        fun _ => rfl,
        fun q => (hJ.2.2.2.2.2.2.2.2.2.2.1) (q.resolve_left (by decide)),
        fun q => (hJ.2.2.2.2.2.2.2.2.2.2.2.1) (q.resolve_left (by decide)),
        fun q => (hJ.2.2.2.2.2.2.2.2.2.2.2.2.1) (q.resolve_left (by decide)),
        fun q => (hJ.2.2.2.2.2.2.2.2.2.2.2.2.2.1) (q.resolve_left (by decide)),
        fun q => (hJ.2.2.2.2.2.2.2.2.2.2.2.2.2.2.1) (q.resolve_left (by decide)),
        fun q => (hJ.2.2.2.2.2.2.2.2.2.2.2.2.2.2.2.1) (q.resolve_left (by decide)),
        fun q => (hJ.2.2.2.2.2.2.2.2.2.2.2.2.2.2.2.2.1) (q.resolve_left (by decide)),
        fun q => (hJ.2.2.2.2.2.2.2.2.2.2.2.2.2.2.2.2.2.1) (q.resolve_left (by decide)),
        fun q => (hJ.2.2.2.2.2.2.2.2.2.2.2.2.2.2.2.2.2.2.1) (q.resolve_left (by decide)),
        fun q => (hJ.2.2.2.2.2.2.2.2.2.2.2.2.2.2.2.2.2.2.2.1) (q.resolve_left (by decide)),
        fun q => (hJ.2.2.2.2.2.2.2.2.2.2.2.2.2.2.2.2.2.2.2.2.1) (q.resolve_left (by decide)),
        fun q => (hJ.2.2.2.2.2.2.2.2.2.2.2.2.2.2.2.2.2.2.2.2.2.1) (q.resolve_left (by decide)),
        fun q => (hJ.2.2.2.2.2.2.2.2.2.2.2.2.2.2.2.2.2.2.2.2.2.2.1) (q.resolve_left (by decide)),
        fun q => (hJ.2.2.2.2.2.2.2.2.2.2.2.2.2.2.2.2.2.2.2.2.2.2.2.1) (q.resolve_left (by decide)),
        fun q => (hJ.2.2.2.2.2.2.2.2.2.2.2.2.2.2.2.2.2.2.2.2.2.2.2.2.1) (q.resolve_left (by decide)),
        fun q => (hJ.2.2.2.2.2.2.2.2.2.2.2.2.2.2.2.2.2.2.2.2.2.2.2.2.2.1) (q.resolve_left (by decide)),
        fun q => (hJ.2.2.2.2.2.2.2.2.2.2.2.2.2.2.2.2.2.2.2.2.2.2.2.2.2.2.1) (q.resolve_left (by decide)),
        fun q => (hJ.2.2.2.2.2.2.2.2.2.2.2.2.2.2.2.2.2.2.2.2.2.2.2.2.2.2.2.1) (q.resolve_left (by decide)),
        fun q => (hJ.2.2.2.2.2.2.2.2.2.2.2.2.2.2.2.2.2.2.2.2.2.2.2.2.2.2.2.2.1) (q.resolve_left (by decide)),
        fun q => (hJ.2.2.2.2.2.2.2.2.2.2.2.2.2.2.2.2.2.2.2.2.2.2.2.2.2.2.2.2.2.1) (q.resolve_left (by decide)),
        fun q => (hJ.2.2.2.2.2.2.2.2.2.2.2.2.2.2.2.2.2.2.2.2.2.2.2.2.2.2.2.2.2.2.1) (q.resolve_left (by decide)),
        fun q => (hJ.2.2.2.2.2.2.2.2.2.2.2.2.2.2.2.2.2.2.2.2.2.2.2.2.2.2.2.2.2.2.2.1) (q.resolve_left (by decide)),
        fun q => (hJ.2.2.2.2.2.2.2.2.2.2.2.2.2.2.2.2.2.2.2.2.2.2.2.2.2.2.2.2.2.2.2.2.1) (q.resolve_left (by decide)),
        fun q => (hJ.2.2.2.2.2.2.2.2.2.2.2.2.2.2.2.2.2.2.2.2.2.2.2.2.2.2.2.2.2.2.2.2.2.1) (q.resolve_left (by decide)),
        fun q => (hJ.2.2.2.2.2.2.2.2.2.2.2.2.2.2.2.2.2.2.2.2.2.2.2.2.2.2.2.2.2.2.2.2.2.2.1) (q.resolve_left (by decide)),
        fun q => (hJ.2.2.2.2.2.2.2.2.2.2.2.2.2.2.2.2.2.2.2.2.2.2.2.2.2.2.2.2.2.2.2.2.2.2.2.1) (q.resolve_left (by decide)),
        fun q => (hJ.2.2.2.2.2.2.2.2.2.2.2.2.2.2.2.2.2.2.2.2.2.2.2.2.2.2.2.2.2.2.2.2.2.2.2.2.1) (q.resolve_left (by decide)),
        fun q => (hJ.2.2.2.2.2.2.2.2.2.2.2.2.2.2.2.2.2.2.2.2.2.2.2.2.2.2.2.2.2.2.2.2.2.2.2.2.2.1) (q.resolve_left (by decide)),
        fun q => (hJ.2.2.2.2.2.2.2.2.2.2.2.2.2.2.2.2.2.2.2.2.2.2.2.2.2.2.2.2.2.2.2.2.2.2.2.2.2.2.1) (q.resolve_left (by decide)),
        fun q => (hJ.2.2.2.2.2.2.2.2.2.2.2.2.2.2.2.2.2.2.2.2.2.2.2.2.2.2.2.2.2.2.2.2.2.2.2.2.2.2.2) (q.resolve_left (by decide))⟩
    refine StepsOk.cons (i := 1) rfl (fun L x G w1 K Q hn hp hJ hK => ?_) ?_
    · skip
      have p0 : L 0 := hp ⟨0, .data⟩ (by simp) rfl
      have e0 := (hJ.2.2.2.2.2.2.2.2.2.1) p0
      have hc := Blk.open5 ((hJ.2.2.2.2.1))
      have c0 := hc.1
      have c1 := hc.2.1
      have c2 := hc.2.2.1
      have c3 := hc.2.2.2.1
      have c4 := hc.2.2.2.2.1
      have c5 := hc.2.2.2.2.2.1
      have c6 := hc.2.2.2.2.2.2
      clear hc
      simp only [putAll, Act.put, List.setIfInBounds_toArray, List.set_cons_zero, List.set_cons_succ]
      go_simp
      refine hK _ G _ (by kernel_rfl) ?_
      exact ⟨(hJ.1),
        (hJ.2.1),
        (hJ.2.2.1),
        (hJ.2.2.2.1),
        (hJ.2.2.2.2.1),
        fun q => (hJ.2.2.2.2.2.1) (q.resolve_left (by decide)),
        fun q n => (hJ.2.2.2.2.2.2.1) (q.resolve_left (by decide)) (fun m => n (.inr m)),
        fun q => (hJ.2.2.2.2.2.2.2.1) (q.resolve_left (by decide)),
        fun q => .inr ((hJ.2.2.2.2.2.2.2.2.1) (q.resolve_left (by decide))),
        fun _ => by first | exact rfl | exact e0,
        fun _ => rfl,
        fun q => (hJ.2.2.2.2.2.2.2.2.2.2.2.1) (q.resolve_left (by decide)),
        fun q => (hJ.2.2.2.2.2.2.2.2.2.2.2.2.1) (q.resolve_left (by decide)),
        fun q => (hJ.2.2.2.2.2.2.2.2.2.2.2.2.2.1) (q.resolve_left (by decide)),
        fun q => (hJ.2.2.2.2.2.2.2.2.2.2.2.2.2.2.1) (q.resolve_left (by decide)),
        fun q => (hJ.2.2.2.2.2.2.2.2.2.2.2.2.2.2.2.1) (q.resolve_left (by decide)),
        fun q => (hJ.2.2.2.2.2.2.2.2.2.2.2.2.2.2.2.2.1) (q.resolve_left (by decide)),
        fun q => (hJ.2.2.2.2.2.2.2.2.2.2.2.2.2.2.2.2.2.1) (q.resolve_left (by decide)),
        fun q => (hJ.2.2.2.2.2.2.2.2.2.2.2.2.2.2.2.2.2.2.1) (q.resolve_left (by decide)),
        fun q => (hJ.2.2.2.2.2.2.2.2.2.2.2.2.2.2.2.2.2.2.2.1) (q.resolve_left (by decide)),
        fun q => (hJ.2.2.2.2.2.2.2.2.2.2.2.2.2.2.2.2.2.2.2.2.1) (q.resolve_left (by decide)),
        fun q => (hJ.2.2.2.2.2.2.2.2.2.2.2.2.2.2.2.2.2.2.2.2.2.1) (q.resolve_left (by decide)),
        fun q => (hJ.2.2.2.2.2.2.2.2.2.2.2.2.2.2.2.2.2.2.2.2.2.2.1) (q.resolve_left (by decide)),
        fun q => (hJ.2.2.2.2.2.2.2.2.2.2.2.2.2.2.2.2.2.2.2.2.2.2.2.1) (q.resolve_left (by decide)),
        fun q => (hJ.2.2.2.2.2.2.2.2.2.2.2.2.2.2.2.2.2.2.2.2.2.2.2.2.1) (q.resolve_left (by decide)),
        fun q => (hJ.2.2.2.2.2.2.2.2.2.2.2.2.2.2.2.2.2.2.2.2.2.2.2.2.2.1) (q.resolve_left (by decide)),
        fun q => (hJ.2.2.2.2.2.2.2.2.2.2.2.2.2.2.2.2.2.2.2.2.2.2.2.2.2.2.1) (q.resolve_left (by decide)),
        fun q => (hJ.2.2.2.2.2.2.2.2.2.2.2.2.2.2.2.2.2.2.2.2.2.2.2.2.2.2.2.1) (q.resolve_left (by decide)),
        fun q => (hJ.2.2.2.2.2.2.2.2.2.2.2.2.2.2.2.2.2.2.2.2.2.2.2.2.2.2.2.2.1) (q.resolve_left (by decide)),
        fun q => (hJ.2.2.2.2.2.2.2.2.2.2.2.2.2.2.2.2.2.2.2.2.2.2.2.2.2.2.2.2.2.1) (q.resolve_left (by decide)),
        fun q => (hJ.2.2.2.2.2.2.2.2.2.2.2.2.2.2.2.2.2.2.2.2.2.2.2.2.2.2.2.2.2.2.1) (q.resolve_left (by decide)),
        fun q => (hJ.2.2.2.2.2.2.2.2.2.2.2.2.2.2.2.2.2.2.2.2.2.2.2.2.2.2.2.2.2.2.2.1) (q.resolve_left (by decide)),
        fun q => (hJ.2.2.2.2.2.2.2.2.2.2.2.2.2.2.2.2.2.2.2.2.2.2.2.2.2.2.2.2.2.2.2.2.1) (q.resolve_left (by decide)),
        fun q => (hJ.2.2.2.2.2.2.2.2.2.2.2.2.2.2.2.2.2.2.2.2.2.2.2.2.2.2.2.2.2.2.2.2.2.1) (q.resolve_left (by decide)),
        fun q => (hJ.2.2.2.2.2.2.2.2.2.2.2.2.2.2.2.2.2.2.2.2.2.2.2.2.2.2.2.2.2.2.2.2.2.2.1) (q.resolve_left (by decide)),
        fun q => (hJ.2.2.2.2.2.2.2.2.2.2.2.2.2.2.2.2.2.2.2.2.2.2.2.2.2.2.2.2.2.2.2.2.2.2.2.1) (q.resolve_left (by decide)),
        fun q => (hJ.2.2.2.2.2.2.2.2.2.2.2.2.2.2.2.2.2.2.2.2.2.2.2.2.2.2.2.2.2.2.2.2.2.2.2.2.1) (q.resolve_left (by decide)),
        fun q => (hJ.2.2.2.2.2.2.2.2.2.2.2.2.2.2.2.2.2.2.2.2.2.2.2.2.2.2.2.2.2.2.2.2.2.2.2.2.2.1) (q.resolve_left (by decide)),
        fun q => (hJ.2.2.2.2.2.2.2.2.2.2.2.2.2.2.2.2.2.2.2.2.2.2.2.2.2.2.2.2.2.2.2.2.2.2.2.2.2.2.1) (q.resolve_left (by decide)),
        fun q => (hJ.2.2.2.2.2.2.2.2.2.2.2.2.2.2.2.2.2.2.2.2.2.2.2.2.2.2.2.2.2.2.2.2.2.2.2.2.2.2.2) (q.resolve_left (by decide))⟩
    refine StepsOk.cons (i := 2) rfl (fun L x G w1 K Q hn hp hJ hK => ?_) ?_
    · skip
      simp only [putAll, Act.put, List.setIfInBounds_toArray, List.set_cons_zero, List.set_cons_succ]
      go_simp
      refine hK _ G _ (by kernel_rfl) ?_
      exact ⟨(hJ.1),
        (hJ.2.1),
        (hJ.2.2.1),
        (hJ.2.2.2.1),
        (hJ.2.2.2.2.1),
        fun q => (hJ.2.2.2.2.2.1) (q.resolve_left (by decide)),
        fun q n => (hJ.2.2.2.2.2.2.1) (q.resolve_left (by decide)) (fun m => n (.inr m)),
        fun q => (hJ.2.2.2.2.2.2.2.1) (q.resolve_left (by decide)),
        fun q => .inr ((hJ.2.2.2.2.2.2.2.2.1) (q.resolve_left (by decide))),
        fun q => (hJ.2.2.2.2.2.2.2.2.2.1) (q.resolve_left (by decide)),
        fun q => (hJ.2.2.2.2.2.2.2.2.2.2.1) (q.resolve_left (by decide)),
        fun _ => rfl,
        fun q => (hJ.2.2.2.2.2.2.2.2.2.2.2.2.1) (q.resolve_left (by decide)),
        fun q => (hJ.2.2.2.2.2.2.2.2.2.2.2.2.2.1) (q.resolve_left (by decide)),
        fun q => (hJ.2.2.2.2.2.2.2.2.2.2.2.2.2.2.1) (q.resolve_left (by decide)),
        fun q => (hJ.2.2.2.2.2.2.2.2.2.2.2.2.2.2.2.1) (q.resolve_left (by decide)),
        fun q => (hJ.2.2.2.2.2.2.2.2.2.2.2.2.2.2.2.2.1) (q.resolve_left (by decide)),
        fun q => (hJ.2.2.2.2.2.2.2.2.2.2.2.2.2.2.2.2.2.1) (q.resolve_left (by decide)),
        fun q => (hJ.2.2.2.2.2.2.2.2.2.2.2.2.2.2.2.2.2.2.1) (q.resolve_left (by decide)),
        fun q => (hJ.2.2.2.2.2.2.2.2.2.2.2.2.2.2.2.2.2.2.2.1) (q.resolve_left (by decide)),
        fun q => (hJ.2.2.2.2.2.2.2.2.2.2.2.2.2.2.2.2.2.2.2.2.1) (q.resolve_left (by decide)),
        fun q => (hJ.2.2.2.2.2.2.2.2.2.2.2.2.2.2.2.2.2.2.2.2.2.1) (q.resolve_left (by decide)),
        fun q => (hJ.2.2.2.2.2.2.2.2.2.2.2.2.2.2.2.2.2.2.2.2.2.2.1) (q.resolve_left (by decide)),
        fun q => (hJ.2.2.2.2.2.2.2.2.2.2.2.2.2.2.2.2.2.2.2.2.2.2.2.1) (q.resolve_left (by decide)),
        fun q => (hJ.2.2.2.2.2.2.2.2.2.2.2.2.2.2.2.2.2.2.2.2.2.2.2.2.1) (q.resolve_left (by decide)),
        fun q => (hJ.2.2.2.2.2.2.2.2.2.2.2.2.2.2.2.2.2.2.2.2.2.2.2.2.2.1) (q.resolve_left (by decide)),
        fun q => (hJ.2.2.2.2.2.2.2.2.2.2.2.2.2.2.2.2.2.2.2.2.2.2.2.2.2.2.1) (q.resolve_left (by decide)),
        fun q => (hJ.2.2.2.2.2.2.2.2.2.2.2.2.2.2.2.2.2.2.2.2.2.2.2.2.2.2.2.1) (q.resolve_left (by decide)),
        fun q => (hJ.2.2.2.2.2.2.2.2.2.2.2.2.2.2.2.2.2.2.2.2.2.2.2.2.2.2.2.2.1) (q.resolve_left (by decide)),
        fun q => (hJ.2.2.2.2.2.2.2.2.2.2.2.2.2.2.2.2.2.2.2.2.2.2.2.2.2.2.2.2.2.1) (q.resolve_left (by decide)),
        fun q => (hJ.2.2.2.2.2.2.2.2.2.2.2.2.2.2.2.2.2.2.2.2.2.2.2.2.2.2.2.2.2.2.1) (q.resolve_left (by decide)),
        fun q => (hJ.2.2.2.2.2.2.2.2.2.2.2.2.2.2.2.2.2.2.2.2.2.2.2.2.2.2.2.2.2.2.2.1) (q.resolve_left (by decide)),
        fun q => (hJ.2.2.2.2.2.2.2.2.2.2.2.2.2.2.2.2.2.2.2.2.2.2.2.2.2.2.2.2.2.2.2.2.1) (q.resolve_left (by decide)),
        fun q => (hJ.2.2.2.2.2.2.2.2.2.2.2.2.2.2.2.2.2.2.2.2.2.2.2.2.2.2.2.2.2.2.2.2.2.1) (q.resolve_left (by decide)),
        fun q => (hJ.2.2.2.2.2.2.2.2.2.2.2.2.2.2.2.2.2.2.2.2.2.2.2.2.2.2.2.2.2.2.2.2.2.2.1) (q.resolve_left (by decide)),
        fun q => (hJ.2.2.2.2.2.2.2.2.2.2.2.2.2.2.2.2.2.2.2.2.2.2.2.2.2.2.2.2.2.2.2.2.2.2.2.1) (q.resolve_left (by decide)),
        fun q => (hJ.2.2.2.2.2.2.2.2.2.2.2.2.2.2.2.2.2.2.2.2.2.2.2.2.2.2.2.2.2.2.2.2.2.2.2.2.1) (q.resolve_left (by decide)),
        fun q => (hJ.2.2.2.2.2.2.2.2.2.2.2.2.2.2.2.2.2.2.2.2.2.2.2.2.2.2.2.2.2.2.2.2.2.2.2.2.2.1) (q.resolve_left (by decide)),
        fun q => (hJ.2.2.2.2.2.2.2.2.2.2.2.2.2.2.2.2.2.2.2.2.2.2.2.2.2.2.2.2.2.2.2.2.2.2.2.2.2.2.1) (q.resolve_left (by decide)),
        fun q => (hJ.2.2.2.2.2.2.2.2.2.2.2.2.2.2.2.2.2.2.2.2.2.2.2.2.2.2.2.2.2.2.2.2.2.2.2.2.2.2.2) (q.resolve_left (by decide))⟩
    refine StepsOk.cons (i := 3) rfl (fun L x G w1 K Q hn hp hJ hK => ?_) ?_
    · skip
      have p2 : L 2 := hp ⟨2, .data⟩ (by simp) rfl
      have e2 := (hJ.2.2.2.2.2.2.2.2.2.2.2.1) p2
      have hc := Blk.open5 ((hJ.2.2.2.2.1))
      have c0 := hc.1
      have c1 := hc.2.1
      have c2 := hc.2.2.1
      have c3 := hc.2.2.2.1
      have c4 := hc.2.2.2.2.1
      have c5 := hc.2.2.2.2.2.1
      have c6 := hc.2.2.2.2.2.2
      clear hc
      simp only [putAll, Act.put, List.setIfInBounds_toArray, List.set_cons_zero, List.set_cons_succ]
      go_simp
      refine hK _ G _ (by kernel_rfl) ?_
      exact ⟨(hJ.1),
        (hJ.2.1),
        (hJ.2.2.1),
        (hJ.2.2.2.1),
        (hJ.2.2.2.2.1),
        fun q => (hJ.2.2.2.2.2.1) (q.resolve_left (by decide)),
        fun q n => (hJ.2.2.2.2.2.2.1) (q.resolve_left (by decide)) (fun m => n (.inr m)),
        fun q => (hJ.2.2.2.2.2.2.2.1) (q.resolve_left (by decide)),
        fun q => .inr ((hJ.2.2.2.2.2.2.2.2.1) (q.resolve_left (by decide))),
        fun q => (hJ.2.2.2.2.2.2.2.2.2.1) (q.resolve_left (by decide)),
        fun q => (hJ.2.2.2.2.2.2.2.2.2.2.1) (q.resolve_left (by decide)),
        fun _ => by first | exact rfl | exact e2,
        fun _ => rfl,
        fun q => (hJ.2.2.2.2.2.2.2.2.2.2.2.2.2.1) (q.resolve_left (by decide)),
        fun q => (hJ.2.2.2.2.2.2.2.2.2.2.2.2.2.2.1) (q.resolve_left (by decide)),
        fun q => (hJ.2.2.2.2.2.2.2.2.2.2.2.2.2.2.2.1) (q.resolve_left (by decide)),
        fun q => (hJ.2.2.2.2.2.2.2.2.2.2.2.2.2.2.2.2.1) (q.resolve_left (by decide)),
        fun q => (hJ.2.2.2.2.2.2.2.2.2.2.2.2.2.2.2.2.2.1) (q.resolve_left (by decide)),
        fun q => (hJ.2.2.2.2.2.2.2.2.2.2.2.2.2.2.2.2.2.2.1) (q.resolve_left (by decide)),
        fun q => (hJ.2.2.2.2.2.2.2.2.2.2.2.2.2.2.2.2.2.2.2.1) (q.resolve_left (by decide)),
        fun q => (hJ.2.2.2.2.2.2.2.2.2.2.2.2.2.2.2.2.2.2.2.2.1) (q.resolve_left (by decide)),
        fun q => (hJ.2.2.2.2.2.2.2.2.2.2.2.2.2.2.2.2.2.2.2.2.2.1) (q.resolve_left (by decide)),
        fun q => (hJ.2.2.2.2.2.2.2.2.2.2.2.2.2.2.2.2.2.2.2.2.2.2.1) (q.resolve_left (by decide)),
        fun q => (hJ.2.2.2.2.2.2.2.2.2.2.2.2.2.2.2.2.2.2.2.2.2.2.2.1) (q.resolve_left (by decide)),
        fun q => (hJ.2.2.2.2.2.2.2.2.2.2.2.2.2.2.2.2.2.2.2.2.2.2.2.2.1) (q.resolve_left (by decide)),
        fun q => (hJ.2.2.2.2.2.2.2.2.2.2.2.2.2.2.2.2.2.2.2.2.2.2.2.2.2.1) (q.resolve_left (by decide)),
        fun q => (hJ.2.2.2.2.2.2.2.2.2.2.2.2.2.2.2.2.2.2.2.2.2.2.2.2.2.2.1) (q.resolve_left (by decide)),
        fun q => (hJ.2.2.2.2.2.2.2.2.2.2.2.2.2.2.2.2.2.2.2.2.2.2.2.2.2.2.2.1) (q.resolve_left (by decide)),
        fun q => (hJ.2.2.2.2.2.2.2.2.2.2.2.2.2.2.2.2.2.2.2.2.2.2.2.2.2.2.2.2.1) (q.resolve_left (by decide)),
        fun q => (hJ.2.2.2.2.2.2.2.2.2.2.2.2.2.2.2.2.2.2.2.2.2.2.2.2.2.2.2.2.2.1) (q.resolve_left (by decide)),
        fun q => (hJ.2.2.2.2.2.2.2.2.2.2.2.2.2.2.2.2.2.2.2.2.2.2.2.2.2.2.2.2.2.2.1) (q.resolve_left (by decide)),
        fun q => (hJ.2.2.2.2.2.2.2.2.2.2.2.2.2.2.2.2.2.2.2.2.2.2.2.2.2.2.2.2.2.2.2.1) (q.resolve_left (by decide)),
        fun q => (hJ.2.2.2.2.2.2.2.2.2.2.2.2.2.2.2.2.2.2.2.2.2.2.2.2.2.2.2.2.2.2.2.2.1) (q.resolve_left (by decide)),
        fun q => (hJ.2.2.2.2.2.2.2.2.2.2.2.2.2.2.2.2.2.2.2.2.2.2.2.2.2.2.2.2.2.2.2.2.2.1) (q.resolve_left (by decide)),
        fun q => (hJ.2.2.2.2.2.2.2.2.2.2.2.2.2.2.2.2.2.2.2.2.2.2.2.2.2.2.2.2.2.2.2.2.2.2.1) (q.resolve_left (by decide)),
        fun q => (hJ.2.2.2.2.2.2.2.2.2.2.2.2.2.2.2.2.2.2.2.2.2.2.2.2.2.2.2.2.2.2.2.2.2.2.2.1) (q.resolve_left (by decide)),
        fun q => (hJ.2.2.2.2.2.2.2.2.2.2.2.2.2.2.2.2.2.2.2.2.2.2.2.2.2.2.2.2.2.2.2.2.2.2.2.2.1) (q.resolve_left (by decide)),
        fun q => (hJ.2.2.2.2.2.2.2.2.2.2.2.2.2.2.2.2.2.2.2.2.2.2.2.2.2.2.2.2.2.2.2.2.2.2.2.2.2.1) (q.resolve_left (by decide)),
        fun q => (hJ.2.2.2.2.2.2.2.2.2.2.2.2.2.2.2.2.2.2.2.2.2.2.2.2.2.2.2.2.2.2.2.2.2.2.2.2.2.2.1) (q.resolve_left (by decide)),
        fun q => (hJ.2.2.2.2.2.2.2.2.2.2.2.2.2.2.2.2.2.2.2.2.2.2.2.2.2.2.2.2.2.2.2.2.2.2.2.2.2.2.2) (q.resolve_left (by decide))⟩
    refine StepsOk.cons (i := 4) rfl (fun L x G w1 K Q hn hp hJ hK => ?_) ?_
    · skip
      simp only [putAll, Act.put, List.setIfInBounds_toArray, List.set_cons_zero, List.set_cons_succ]
      go_simp
      refine hK _ G _ (by kernel_rfl) ?_
      exact ⟨(hJ.1),
        (hJ.2.1),
        (hJ.2.2.1),
        (hJ.2.2.2.1),
        (hJ.2.2.2.2.1),
        fun q => (hJ.2.2.2.2.2.1) (q.resolve_left (by decide)),
        fun q n => (hJ.2.2.2.2.2.2.1) (q.resolve_left (by decide)) (fun m => n (.inr m)),
        fun q => (hJ.2.2.2.2.2.2.2.1) (q.resolve_left (by decide)),
        fun q => .inr ((hJ.2.2.2.2.2.2.2.2.1) (q.resolve_left (by decide))),
        fun q => (hJ.2.2.2.2.2.2.2.2.2.1) (q.resolve_left (by decide)),
        fun q => (hJ.2.2.2.2.2.2.2.2.2.2.1) (q.resolve_left (by decide)),
        fun q => (hJ.2.2.2.2.2.2.2.2.2.2.2.1) (q.resolve_left (by decide)),
        fun q => (hJ.2.2.2.2.2.2.2.2.2.2.2.2.1) (q.resolve_left (by decide)),
        fun _ => rfl,
        fun q => (hJ.2.2.2.2.2.2.2.2.2.2.2.2.2.2.1) (q.resolve_left (by decide)),
        fun q => (hJ.2.2.2.2.2.2.2.2.2.2.2.2.2.2.2.1) (q.resolve_left (by decide)),
        fun q => (hJ.2.2.2.2.2.2.2.2.2.2.2.2.2.2.2.2.1) (q.resolve_left (by decide)),
        fun q => (hJ.2.2.2.2.2.2.2.2.2.2.2.2.2.2.2.2.2.1) (q.resolve_left (by decide)),
        fun q => (hJ.2.2.2.2.2.2.2.2.2.2.2.2.2.2.2.2.2.2.1) (q.resolve_left (by decide)),
        fun q => (hJ.2.2.2.2.2.2.2.2.2.2.2.2.2.2.2.2.2.2.2.1) (q.resolve_left (by decide)),
        fun q => (hJ.2.2.2.2.2.2.2.2.2.2.2.2.2.2.2.2.2.2.2.2.1) (q.resolve_left (by decide)),
        fun q => (hJ.2.2.2.2.2.2.2.2.2.2.2.2.2.2.2.2.2.2.2.2.2.1) (q.resolve_left (by decide)),
        fun q => (hJ.2.2.2.2.2.2.2.2.2.2.2.2.2.2.2.2.2.2.2.2.2.2.1) (q.resolve_left (by decide)),
        fun q => (hJ.2.2.2.2.2.2.2.2.2.2.2.2.2.2.2.2.2.2.2.2.2.2.2.1) (q.resolve_left (by decide)),
        fun q => (hJ.2.2.2.2.2.2.2.2.2.2.2.2.2.2.2.2.2.2.2.2.2.2.2.2.1) (q.resolve_left (by decide)),
        fun q => (hJ.2.2.2.2.2.2.2.2.2.2.2.2.2.2.2.2.2.2.2.2.2.2.2.2.2.1) (q.resolve_left (by decide)),
        fun q => (hJ.2.2.2.2.2.2.2.2.2.2.2.2.2.2.2.2.2.2.2.2.2.2.2.2.2.2.1) (q.resolve_left (by decide)),
        fun q => (hJ.2.2.2.2.2.2.2.2.2.2.2.2.2.2.2.2.2.2.2.2.2.2.2.2.2.2.2.1) (q.resolve_left (by decide)),
        fun q => (hJ.2.2.2.2.2.2.2.2.2.2.2.2.2.2.2.2.2.2.2.2.2.2.2.2.2.2.2.2.1) (q.resolve_left (by decide)),
        fun q => (hJ.2.2.2.2.2.2.2.2.2.2.2.2.2.2.2.2.2.2.2.2.2.2.2.2.2.2.2.2.2.1) (q.resolve_left (by decide)),
        fun q => (hJ.2.2.2.2.2.2.2.2.2.2.2.2.2.2.2.2.2.2.2.2.2.2.2.2.2.2.2.2.2.2.1) (q.resolve_left (by decide)),
        fun q => (hJ.2.2.2.2.2.2.2.2.2.2.2.2.2.2.2.2.2.2.2.2.2.2.2.2.2.2.2.2.2.2.2.1) (q.resolve_left (by decide)),
        fun q => (hJ.2.2.2.2.2.2.2.2.2.2.2.2.2.2.2.2.2.2.2.2.2.2.2.2.2.2.2.2.2.2.2.2.1) (q.resolve_left (by decide)),
        fun q => (hJ.2.2.2.2.2.2.2.2.2.2.2.2.2.2.2.2.2.2.2.2.2.2.2.2.2.2.2.2.2.2.2.2.2.1) (q.resolve_left (by decide)),
        fun q => (hJ.2.2.2.2.2.2.2.2.2.2.2.2.2.2.2.2.2.2.2.2.2.2.2.2.2.2.2.2.2.2.2.2.2.2.1) (q.resolve_left (by decide)),
        fun q => (hJ.2.2.2.2.2.2.2.2.2.2.2.2.2.2.2.2.2.2.2.2.2.2.2.2.2.2.2.2.2.2.2.2.2.2.2.1) (q.resolve_left (by decide)),
        fun q => (hJ.2.2.2.2.2.2.2.2.2.2.2.2.2.2.2.2.2.2.2.2.2.2.2.2.2.2.2.2.2.2.2.2.2.2.2.2.1) (q.resolve_left (by decide)),
        fun q => (hJ.2.2.2.2.2.2.2.2.2.2.2.2.2.2.2.2.2.2.2.2.2.2.2.2.2.2.2.2.2.2.2.2.2.2.2.2.2.1) (q.resolve_left (by decide)),
        fun q => (hJ.2.2.2.2.2.2.2.2.2.2.2.2.2.2.2.2.2.2.2.2.2.2.2.2.2.2.2.2.2.2.2.2.2.2.2.2.2.2.1) (q.resolve_left (by decide)),
        fun q => (hJ.2.2.2.2.2.2.2.2.2.2.2.2.2.2.2.2.2.2.2.2.2.2.2.2.2.2.2.2.2.2.2.2.2.2.2.2.2.2.2) (q.resolve_left (by decide))⟩
    refine StepsOk.cons (i := 5) rfl (fun L x G w1 K Q hn hp hJ hK => ?_) ?_
    · skip
      have p4 : L 4 := hp ⟨4, .data⟩ (by simp) rfl
      have e4 := (hJ.2.2.2.2.2.2.2.2.2.2.2.2.2.1) p4
      have hc := Blk.open5 ((hJ.2.2.2.2.1))
      have c0 := hc.1
      have c1 := hc.2.1
      have c2 := hc.2.2.1
      have c3 := hc.2.2.2.1
      have c4 := hc.2.2.2.2.1
      have c5 := hc.2.2.2.2.2.1
      have c6 := hc.2.2.2.2.2.2
      clear hc
      simp only [putAll, Act.put, List.setIfInBounds_toArray, List.set_cons_zero, List.set_cons_succ]
      go_simp
      refine hK _ G _ (by kernel_rfl) ?_
      exact ⟨(hJ.1),
        (hJ.2.1),
        (hJ.2.2.1),
        (hJ.2.2.2.1),
        (hJ.2.2.2.2.1),
        fun q => (hJ.2.2.2.2.2.1) (q.resolve_left (by decide)),
        fun q n => (hJ.2.2.2.2.2.2.1) (q.resolve_left (by decide)) (fun m => n (.inr m)),
        fun q => (hJ.2.2.2.2.2.2.2.1) (q.resolve_left (by decide)),
        fun q => .inr ((hJ.2.2.2.2.2.2.2.2.1) (q.resolve_left (by decide))),
        fun q => (hJ.2.2.2.2.2.2.2.2.2.1) (q.resolve_left (by decide)),
        fun q => (hJ.2.2.2.2.2.2.2.2.2.2.1) (q.resolve_left (by decide)),
        fun q => (hJ.2.2.2.2.2.2.2.2.2.2.2.1) (q.resolve_left (by decide)),
        fun q => (hJ.2.2.2.2.2.2.2.2.2.2.2.2.1) (q.resolve_left (by decide)),
        fun _ => by first | exact rfl | exact e4,
        fun _ => rfl,
        fun q => (hJ.2.2.2.2.2.2.2.2.2.2.2.2.2.2.2.1) (q.resolve_left (by decide)),
        fun q => (hJ.2.2.2.2.2.2.2.2.2.2.2.2.2.2.2.2.1) (q.resolve_left (by decide)),
        fun q => (hJ.2.2.2.2.2.2.2.2.2.2.2.2.2.2.2.2.2.1) (q.resolve_left (by decide)),
        fun q => (hJ.2.2.2.2.2.2.2.2.2.2.2.2.2.2.2.2.2.2.1) (q.resolve_left (by decide)),
        fun q => (hJ.2.2.2.2.2.2.2.2.2.2.2.2.2.2.2.2.2.2.2.1) (q.resolve_left (by decide)),
        fun q => (hJ.2.2.2.2.2.2.2.2.2.2.2.2.2.2.2.2.2.2.2.2.1) (q.resolve_left (by decide)),
        fun q => (hJ.2.2.2.2.2.2.2.2.2.2.2.2.2.2.2.2.2.2.2.2.2.1) (q.resolve_left (by decide)),
        fun q => (hJ.2.2.2.2.2.2.2.2.2.2.2.2.2.2.2.2.2.2.2.2.2.2.1) (q.resolve_left (by decide)),
        fun q => (hJ.2.2.2.2.2.2.2.2.2.2.2.2.2.2.2.2.2.2.2.2.2.2.2.1) (q.resolve_left (by decide)),
        fun q => (hJ.2.2.2.2.2.2.2.2.2.2.2.2.2.2.2.2.2.2.2.2.2.2.2.2.1) (q.resolve_left (by decide)),
        fun q => (hJ.2.2.2.2.2.2.2.2.2.2.2.2.2.2.2.2.2.2.2.2.2.2.2.2.2.1) (q.resolve_left (by decide)),
        fun q => (hJ.2.2.2.2.2.2.2.2.2.2.2.2.2.2.2.2.2.2.2.2.2.2.2.2.2.2.1) (q.resolve_left (by decide)),
        fun q => (hJ.2.2.2.2.2.2.2.2.2.2.2.2.2.2.2.2.2.2.2.2.2.2.2.2.2.2.2.1) (q.resolve_left (by decide)),
        fun q => (hJ.2.2.2.2.2.2.2.2.2.2.2.2.2.2.2.2.2.2.2.2.2.2.2.2.2.2.2.2.1) (q.resolve_left (by decide)),
        fun q => (hJ.2.2.2.2.2.2.2.2.2.2.2.2.2.2.2.2.2.2.2.2.2.2.2.2.2.2.2.2.2.1) (q.resolve_left (by decide)),
        fun q => (hJ.2.2.2.2.2.2.2.2.2.2.2.2.2.2.2.2.2.2.2.2.2.2.2.2.2.2.2.2.2.2.1) (q.resolve_left (by decide)),
        fun q => (hJ.2.2.2.2.2.2.2.2.2.2.2.2.2.2.2.2.2.2.2.2.2.2.2.2.2.2.2.2.2.2.2.1) (q.resolve_left (by decide)),
        fun q => (hJ.2.2.2.2.2.2.2.2.2.2.2.2.2.2.2.2.2.2.2.2.2.2.2.2.2.2.2.2.2.2.2.2.1) (q.resolve_left (by decide)),
        fun q => (hJ.2.2.2.2.2.2.2.2.2.2.2.2.2.2.2.2.2.2.2.2.2.2.2.2.2.2.2.2.2.2.2.2.2.1) (q.resolve_left (by decide)),
        fun q => (hJ.2.2.2.2.2.2.2.2.2.2.2.2.2.2.2.2.2.2.2.2.2.2.2.2.2.2.2.2.2.2.2.2.2.2.1) (q.resolve_left (by decide)),
        fun q => (hJ.2.2.2.2.2.2.2.2.2.2.2.2.2.2.2.2.2.2.2.2.2.2.2.2.2.2.2.2.2.2.2.2.2.2.2.1) (q.resolve_left (by decide)),
        fun q => (hJ.2.2.2.2.2.2.2.2.2.2.2.2.2.2.2.2.2.2.2.2.2.2.2.2.2.2.2.2.2.2.2.2.2.2.2.2.1) (q.resolve_left (by decide)),
        fun q => (hJ.2.2.2.2.2.2.2.2.2.2.2.2.2.2.2.2.2.2.2.2.2.2.2.2.2.2.2.2.2.2.2.2.2.2.2.2.2.1) (q.resolve_left (by decide)),
        fun q => (hJ.2.2.2.2.2.2.2.2.2.2.2.2.2.2.2.2.2.2.2.2.2.2.2.2.2.2.2.2.2.2.2.2.2.2.2.2.2.2.1) (q.resolve_left (by decide)),
        fun q => (hJ.2.2.2.2.2.2.2.2.2.2.2.2.2.2.2.2.2.2.2.2.2.2.2.2.2.2.2.2.2.2.2.2.2.2.2.2.2.2.2) (q.resolve_left (by decide))⟩
    refine StepsOk.cons (i := 6) rfl (fun L x G w1 K Q hn hp hJ hK => ?_) ?_
    · skip
      simp only [putAll, Act.put, List.setIfInBounds_toArray, List.set_cons_zero, List.set_cons_succ]
      go_simp
      refine hK _ G _ (by kernel_rfl) ?_
      exact ⟨(hJ.1),
        (hJ.2.1),
        (hJ.2.2.1),
        (hJ.2.2.2.1),
        (hJ.2.2.2.2.1),
        fun q => (hJ.2.2.2.2.2.1) (q.resolve_left (by decide)),
        fun q n => (hJ.2.2.2.2.2.2.1) (q.resolve_left (by decide)) (fun m => n (.inr m)),
        fun q => (hJ.2.2.2.2.2.2.2.1) (q.resolve_left (by decide)),
        fun q => .inr ((hJ.2.2.2.2.2.2.2.2.1) (q.resolve_left (by decide))),
        fun q => (hJ.2.2.2.2.2.2.2.2.2.1) (q.resolve_left (by decide)),
        fun q => (hJ.2.2.2.2.2.2.2.2.2.2.1) (q.resolve_left (by decide)),
        fun q => (hJ.2.2.2.2.2.2.2.2.2.2.2.1) (q.resolve_left (by decide)),
        fun q => (hJ.2.2.2.2.2.2.2.2.2.2.2.2.1) (q.resolve_left (by decide)),
        fun q => (hJ.2.2.2.2.2.2.2.2.2.2.2.2.2.1) (q.resolve_left (by decide)),
        fun q => (hJ.2.2.2.2.2.2.2.2.2.2.2.2.2.2.1) (q.resolve_left (by decide)),
        fun _ => rfl,
        fun q => (hJ.2.2.2.2.2.2.2.2.2.2.2.2.2.2.2.2.1) (q.resolve_left (by decide)),
        fun q => (hJ.2.2.2.2.2.2.2.2.2.2.2.2.2.2.2.2.2.1) (q.resolve_left (by decide)),
        fun q => (hJ.2.2.2.2.2.2.2.2.2.2.2.2.2.2.2.2.2.2.1) (q.resolve_left (by decide)),
        fun q => (hJ.2.2.2.2.2.2.2.2.2.2.2.2.2.2.2.2.2.2.2.1) (q.resolve_left (by decide)),
        fun q => (hJ.2.2.2.2.2.2.2.2.2.2.2.2.2.2.2.2.2.2.2.2.1) (q.resolve_left (by decide)),
        fun q => (hJ.2.2.2.2.2.2.2.2.2.2.2.2.2.2.2.2.2.2.2.2.2.1) (q.resolve_left (by decide)),
        fun q => (hJ.2.2.2.2.2.2.2.2.2.2.2.2.2.2.2.2.2.2.2.2.2.2.1) (q.resolve_left (by decide)),
        fun q => (hJ.2.2.2.2.2.2.2.2.2.2.2.2.2.2.2.2.2.2.2.2.2.2.2.1) (q.resolve_left (by decide)),
        fun q => (hJ.2.2.2.2.2.2.2.2.2.2.2.2.2.2.2.2.2.2.2.2.2.2.2.2.1) (q.resolve_left (by decide)),
        fun q => (hJ.2.2.2.2.2.2.2.2.2.2.2.2.2.2.2.2.2.2.2.2.2.2.2.2.2.1) (q.resolve_left (by decide)),
        fun q => (hJ.2.2.2.2.2.2.2.2.2.2.2.2.2.2.2.2.2.2.2.2.2.2.2.2.2.2.1) (q.resolve_left (by decide)),
        fun q => (hJ.2.2.2.2.2.2.2.2.2.2.2.2.2.2.2.2.2.2.2.2.2.2.2.2.2.2.2.1) (q.resolve_left (by decide)),
        fun q => (hJ.2.2.2.2.2.2.2.2.2.2.2.2.2.2.2.2.2.2.2.2.2.2.2.2.2.2.2.2.1) (q.resolve_left (by decide)),
        fun q => (hJ.2.2.2.2.2.2.2.2.2.2.2.2.2.2.2.2.2.2.2.2.2.2.2.2.2.2.2.2.2.1) (q.resolve_left (by decide)),
        fun q => (hJ.2.2.2.2.2.2.2.2.2.2.2.2.2.2.2.2.2.2.2.2.2.2.2.2.2.2.2.2.2.2.1) (q.resolve_left (by decide)),
        fun q => (hJ.2.2.2.2.2.2.2.2.2.2.2.2.2.2.2.2.2.2.2.2.2.2.2.2.2.2.2.2.2.2.2.1) (q.resolve_left (by decide)),
        fun q => (hJ.2.2.2.2.2.2.2.2.2.2.2.2.2.2.2.2.2.2.2.2.2.2.2.2.2.2.2.2.2.2.2.2.1) (q.resolve_left (by decide)),
        fun q => (hJ.2.2.2.2.2.2.2.2.2.2.2.2.2.2.2.2.2.2.2.2.2.2.2.2.2.2.2.2.2.2.2.2.2.1) (q.resolve_left (by decide)),
        fun q => (hJ.2.2.2.2.2.2.2.2.2.2.2.2.2.2.2.2.2.2.2.2.2.2.2.2.2.2.2.2.2.2.2.2.2.2.1) (q.resolve_left (by decide)),
        fun q => (hJ.2.2.2.2.2.2.2.2.2.2.2.2.2.2.2.2.2.2.2.2.2.2.2.2.2.2.2.2.2.2.2.2.2.2.2.1) (q.resolve_left (by decide)),
        fun q => (hJ.2.2.2.2.2.2.2.2.2.2.2.2.2.2.2.2.2.2.2.2.2.2.2.2.2.2.2.2.2.2.2.2.2.2.2.2.1) (q.resolve_left (by decide)),
        fun q => (hJ.2.2.2.2.2.2.2.2.2.2.2.2.2.2.2.2.2.2.2.2.2.2.2.2.2.2.2.2.2.2.2.2.2.2.2.2.2.1) (q.resolve_left (by decide)),
        fun q => (hJ.2.2.2.2.2.2.2.2.2.2.2.2.2.2.2.2.2.2.2.2.2.2.2.2.2.2.2.2.2.2.2.2.2.2.2.2.2.2.1) (q.resolve_left (by decide)),
        fun q => (hJ.2.2.2.2.2.2.2.2.2.2.2.2.2.2.2.2.2.2.2.2.2.2.2.2.2.2.2.2.2.2.2.2.2.2.2.2.2.2.2) (q.resolve_left (by decide))⟩
    refine StepsOk.cons (i := 7) rfl (fun L x G w1 K Q hn hp hJ hK => ?_) ?_
    · skip
      have p6 : L 6 := hp ⟨6, .data⟩ (by simp) rfl
      have e6 := (hJ.2.2.2.2.2.2.2.2.2.2.2.2.2.2.2.1) p6
      have hc := Blk.open5 ((hJ.2.2.2.2.1))
      have c0 := hc.1
      have c1 := hc.2.1
      have c2 := hc.2.2.1
      have c3 := hc.2.2.2.1
      have c4 := hc.2.2.2.2.1
      have c5 := hc.2.2.2.2.2.1
      have c6 := hc.2.2.2.2.2.2
      clear hc
      simp only [putAll, Act.put, List.setIfInBounds_toArray, List.set_cons_zero, List.set_cons_succ]
      go_simp
      refine hK _ G _ (by kernel_rfl) ?_
      exact ⟨(hJ.1),
        (hJ.2.1),
        (hJ.2.2.1),
        (hJ.2.2.2.1),
        (hJ.2.2.2.2.1),
        fun q => (hJ.2.2.2.2.2.1) (q.resolve_left (by decide)),
        fun q n => (hJ.2.2.2.2.2.2.1) (q.resolve_left (by decide)) (fun m => n (.inr m)),
        fun q => (hJ.2.2.2.2.2.2.2.1) (q.resolve_left (by decide)),
        fun q => .inr ((hJ.2.2.2.2.2.2.2.2.1) (q.resolve_left (by decide))),
        fun q => (hJ.2.2.2.2.2.2.2.2.2.1) (q.resolve_left (by decide)),
        fun q => (hJ.2.2.2.2.2.2.2.2.2.2.1) (q.resolve_left (by decide)),
        fun q => (hJ.2.2.2.2.2.2.2.2.2.2.2.1) (q.resolve_left (by decide)),
        fun q => (hJ.2.2.2.2.2.2.2.2.2.2.2.2.1) (q.resolve_left (by decide)),
        fun q => (hJ.2.2.2.2.2.2.2.2.2.2.2.2.2.1) (q.resolve_left (by decide)),
        fun q => (hJ.2.2.2.2.2.2.2.2.2.2.2.2.2.2.1) (q.resolve_left (by decide)),
        fun _ => by first | exact rfl | exact e6,
        fun _ => rfl,
        fun q => (hJ.2.2.2.2.2.2.2.2.2.2.2.2.2.2.2.2.2.1) (q.resolve_left (by decide)),
        fun q => (hJ.2.2.2.2.2.2.2.2.2.2.2.2.2.2.2.2.2.2.1) (q.resolve_left (by decide)),
        fun q => (hJ.2.2.2.2.2.2.2.2.2.2.2.2.2.2.2.2.2.2.2.1) (q.resolve_left (by decide)),
        fun q => (hJ.2.2.2.2.2.2.2.2.2.2.2.2.2.2.2.2.2.2.2.2.1) (q.resolve_left (by decide)),
        fun q => (hJ.2.2.2.2.2.2.2.2.2.2.2.2.2.2.2.2.2.2.2.2.2.1) (q.resolve_left (by decide)),
        fun q => (hJ.2.2.2.2.2.2.2.2.2.2.2.2.2.2.2.2.2.2.2.2.2.2.1) (q.resolve_left (by decide)),
        fun q => (hJ.2.2.2.2.2.2.2.2.2.2.2.2.2.2.2.2.2.2.2.2.2.2.2.1) (q.resolve_left (by decide)),
        fun q => (hJ.2.2.2.2.2.2.2.2.2.2.2.2.2.2.2.2.2.2.2.2.2.2.2.2.1) (q.resolve_left (by decide)),
        fun q => (hJ.2.2.2.2.2.2.2.2.2.2.2.2.2.2.2.2.2.2.2.2.2.2.2.2.2.1) (q.resolve_left (by decide)),
        fun q => (hJ.2.2.2.2.2.2.2.2.2.2.2.2.2.2.2.2.2.2.2.2.2.2.2.2.2.2.1) (q.resolve_left (by decide)),
        fun q => (hJ.2.2.2.2.2.2.2.2.2.2.2.2.2.2.2.2.2.2.2.2.2.2.2.2.2.2.2.1) (q.resolve_left (by decide)),
        fun q => (hJ.2.2.2.2.2.2.2.2.2.2.2.2.2.2.2.2.2.2.2.2.2.2.2.2.2.2.2.2.1) (q.resolve_left (by decide)),
        fun q => (hJ.2.2.2.2.2.2.2.2.2.2.2.2.2.2.2.2.2.2.2.2.2.2.2.2.2.2.2.2.2.1) (q.resolve_left (by decide)),
        fun q => (hJ.2.2.2.2.2.2.2.2.2.2.2.2.2.2.2.2.2.2.2.2.2.2.2.2.2.2.2.2.2.2.1) (q.resolve_left (by decide)),
        fun q => (hJ.2.2.2.2.2.2.2.2.2.2.2.2.2.2.2.2.2.2.2.2.2.2.2.2.2.2.2.2.2.2.2.1) (q.resolve_left (by decide)),
        fun q => (hJ.2.2.2.2.2.2.2.2.2.2.2.2.2.2.2.2.2.2.2.2.2.2.2.2.2.2.2.2.2.2.2.2.1) (q.resolve_left (by decide)),
        fun q => (hJ.2.2.2.2.2.2.2.2.2.2.2.2.2.2.2.2.2.2.2.2.2.2.2.2.2.2.2.2.2.2.2.2.2.1) (q.resolve_left (by decide)),
        fun q => (hJ.2.2.2.2.2.2.2.2.2.2.2.2.2.2.2.2.2.2.2.2.2.2.2.2.2.2.2.2.2.2.2.2.2.2.1) (q.resolve_left (by decide)),
        fun q => (hJ.2.2.2.2.2.2.2.2.2.2.2.2.2.2.2.2.2.2.2.2.2.2.2.2.2.2.2.2.2.2.2.2.2.2.2.1) (q.resolve_left (by decide)),
        fun q => (hJ.2.2.2.2.2.2.2.2.2.2.2.2.2.2.2.2.2.2.2.2.2.2.2.2.2.2.2.2.2.2.2.2.2.2.2.2.1) (q.resolve_left (by decide)),
        fun q => (hJ.2.2.2.2.2.2.2.2.2.2.2.2.2.2.2.2.2.2.2.2.2.2.2.2.2.2.2.2.2.2.2.2.2.2.2.2.2.1) (q.resolve_left (by decide)),
        fun q => (hJ.2.2.2.2.2.2.2.2.2.2.2.2.2.2.2.2.2.2.2.2.2.2.2.2.2.2.2.2.2.2.2.2.2.2.2.2.2.2.1) (q.resolve_left (by decide)),
        fun q => (hJ.2.2.2.2.2.2.2.2.2.2.2.2.2.2.2.2.2.2.2.2.2.2.2.2.2.2.2.2.2.2.2.2.2.2.2.2.2.2.2) (q.resolve_left (by decide))⟩
    refine StepsOk.cons (i := 8) rfl (fun L x G w1 K Q hn hp hJ hK => ?_) ?_
    · skip
      have p1 : L 1 := hp ⟨1, .data⟩ (by simp) rfl
      have e1 := (hJ.2.2.2.2.2.2.2.2.2.2.1) p1
      have p3 : L 3 := hp ⟨3, .data⟩ (by simp) rfl
      have e3 := (hJ.2.2.2.2.2.2.2.2.2.2.2.2.1) p3
      have p5 : L 5 := hp ⟨5, .data⟩ (by simp) rfl
      have e5 := (hJ.2.2.2.2.2.2.2.2.2.2.2.2.2.2.1) p5
      have p7 : L 7 := hp ⟨7, .data⟩ (by simp) rfl
      have e7 := (hJ.2.2.2.2.2.2.2.2.2.2.2.2.2.2.2.2.1) p7
      simp only [putAll, Act.put, List.setIfInBounds_toArray, List.set_cons_zero, List.set_cons_succ]
      go_simp
      refine (lless_c _ _ _ _ _ (by omega) (by omega) (by omega) (by omega) (by omega) (by omega) (by omega) (by omega)).mono ?_
      rw [EX.out]
      rintro e w2 ⟨rfl, hb⟩
      have hz := hb.size
      try go_simp
      refine hK _ G _ (by kernel_rfl) ?_
      exact ⟨bt (hJ.1) hb,
        Nat.lt_of_lt_of_le (hJ.2.1) hb.size,
        Blk.keep ((hJ.2.2.1)) hb,
        Nat.lt_of_lt_of_le (hJ.2.2.2.1) hb.size,
        Blk.keep ((hJ.2.2.2.2.1)) hb,
        fun q => ⟨((hJ.2.2.2.2.2.1) (q.resolve_left (by decide))).1, by have := ((hJ.2.2.2.2.2.1) (q.resolve_left (by decide))).2.1; omega, ((hJ.2.2.2.2.2.1) (q.resolve_left (by decide))).2.2⟩,
        fun q n => Blk.keep ((hJ.2.2.2.2.2.2.1) (q.resolve_left (by decide)) (fun m => n (.inr m))) hb,
        fun q => Blk.keep ((hJ.2.2.2.2.2.2.2.1) (q.resolve_left (by decide))) hb,
        fun q => .inr ((hJ.2.2.2.2.2.2.2.2.1) (q.resolve_left (by decide))),
        fun q => (hJ.2.2.2.2.2.2.2.2.2.1) (q.resolve_left (by decide)),
        fun _ => by first | exact rfl | exact e1,
        fun q => (hJ.2.2.2.2.2.2.2.2.2.2.2.1) (q.resolve_left (by decide)),
        fun _ => by first | exact rfl | exact e3,
        fun q => (hJ.2.2.2.2.2.2.2.2.2.2.2.2.2.1) (q.resolve_left (by decide)),
        fun _ => by first | exact rfl | exact e5,
        fun q => (hJ.2.2.2.2.2.2.2.2.2.2.2.2.2.2.2.1) (q.resolve_left (by decide)),
        fun _ => by first | exact rfl | exact e7,
        fun _ => rfl,
        fun q => (hJ.2.2.2.2.2.2.2.2.2.2.2.2.2.2.2.2.2.2.1) (q.resolve_left (by decide)),
        fun q => (hJ.2.2.2.2.2.2.2.2.2.2.2.2.2.2.2.2.2.2.2.1) (q.resolve_left (by decide)),
        fun q => (hJ.2.2.2.2.2.2.2.2.2.2.2.2.2.2.2.2.2.2.2.2.1) (q.resolve_left (by decide)),
        fun q => (hJ.2.2.2.2.2.2.2.2.2.2.2.2.2.2.2.2.2.2.2.2.2.1) (q.resolve_left (by decide)),
        fun q => (hJ.2.2.2.2.2.2.2.2.2.2.2.2.2.2.2.2.2.2.2.2.2.2.1) (q.resolve_left (by decide)),
        fun q => (hJ.2.2.2.2.2.2.2.2.2.2.2.2.2.2.2.2.2.2.2.2.2.2.2.1) (q.resolve_left (by decide)),
        fun q => (hJ.2.2.2.2.2.2.2.2.2.2.2.2.2.2.2.2.2.2.2.2.2.2.2.2.1) (q.resolve_left (by decide)),
        fun q => (hJ.2.2.2.2.2.2.2.2.2.2.2.2.2.2.2.2.2.2.2.2.2.2.2.2.2.1) (q.resolve_left (by decide)),
        fun q => (hJ.2.2.2.2.2.2.2.2.2.2.2.2.2.2.2.2.2.2.2.2.2.2.2.2.2.2.1) (q.resolve_left (by decide)),
        fun q => (hJ.2.2.2.2.2.2.2.2.2.2.2.2.2.2.2.2.2.2.2.2.2.2.2.2.2.2.2.1) (q.resolve_left (by decide)),
        fun q => (hJ.2.2.2.2.2.2.2.2.2.2.2.2.2.2.2.2.2.2.2.2.2.2.2.2.2.2.2.2.1) (q.resolve_left (by decide)),
        fun q => (hJ.2.2.2.2.2.2.2.2.2.2.2.2.2.2.2.2.2.2.2.2.2.2.2.2.2.2.2.2.2.1) (q.resolve_left (by decide)),
        fun q => (hJ.2.2.2.2.2.2.2.2.2.2.2.2.2.2.2.2.2.2.2.2.2.2.2.2.2.2.2.2.2.2.1) (q.resolve_left (by decide)),
        fun q => (hJ.2.2.2.2.2.2.2.2.2.2.2.2.2.2.2.2.2.2.2.2.2.2.2.2.2.2.2.2.2.2.2.1) (q.resolve_left (by decide)),
        fun q => (hJ.2.2.2.2.2.2.2.2.2.2.2.2.2.2.2.2.2.2.2.2.2.2.2.2.2.2.2.2.2.2.2.2.1) (q.resolve_left (by decide)),
        fun q => (hJ.2.2.2.2.2.2.2.2.2.2.2.2.2.2.2.2.2.2.2.2.2.2.2.2.2.2.2.2.2.2.2.2.2.1) (q.resolve_left (by decide)),
        fun q => (hJ.2.2.2.2.2.2.2.2.2.2.2.2.2.2.2.2.2.2.2.2.2.2.2.2.2.2.2.2.2.2.2.2.2.2.1) (q.resolve_left (by decide)),
        fun q => (hJ.2.2.2.2.2.2.2.2.2.2.2.2.2.2.2.2.2.2.2.2.2.2.2.2.2.2.2.2.2.2.2.2.2.2.2.1) (q.resolve_left (by decide)),
        fun q => (hJ.2.2.2.2.2.2.2.2.2.2.2.2.2.2.2.2.2.2.2.2.2.2.2.2.2.2.2.2.2.2.2.2.2.2.2.2.1) (q.resolve_left (by decide)),
        fun q => (hJ.2.2.2.2.2.2.2.2.2.2.2.2.2.2.2.2.2.2.2.2.2.2.2.2.2.2.2.2.2.2.2.2.2.2.2.2.2.1) (q.resolve_left (by decide)),
        fun q => (hJ.2.2.2.2.2.2.2.2.2.2.2.2.2.2.2.2.2.2.2.2.2.2.2.2.2.2.2.2.2.2.2.2.2.2.2.2.2.2.1) (q.resolve_left (by decide)),
        fun q => (hJ.2.2.2.2.2.2.2.2.2.2.2.2.2.2.2.2.2.2.2.2.2.2.2.2.2.2.2.2.2.2.2.2.2.2.2.2.2.2.2) (q.resolve_left (by decide))⟩
    refine StepsOk.cons (i := 9) rfl (fun L x G w1 K Q hn hp hJ hK => ?_) ?_
    · skip
      simp only [putAll, Act.put, List.setIfInBounds_toArray, List.set_cons_zero, List.set_cons_succ]
      go_simp
      refine hK _ G _ (by kernel_rfl) ?_
      exact ⟨(hJ.1),
        (hJ.2.1),
        (hJ.2.2.1),
        (hJ.2.2.2.1),
        (hJ.2.2.2.2.1),
        fun q => (hJ.2.2.2.2.2.1) (q.resolve_left (by decide)),
        fun q n => (hJ.2.2.2.2.2.2.1) (q.resolve_left (by decide)) (fun m => n (.inr m)),
        fun q => (hJ.2.2.2.2.2.2.2.1) (q.resolve_left (by decide)),
        fun q => .inr ((hJ.2.2.2.2.2.2.2.2.1) (q.resolve_left (by decide))),
        fun q => (hJ.2.2.2.2.2.2.2.2.2.1) (q.resolve_left (by decide)),
        fun q => (hJ.2.2.2.2.2.2.2.2.2.2.1) (q.resolve_left (by decide)),
        fun q => (hJ.2.2.2.2.2.2.2.2.2.2.2.1) (q.resolve_left (by decide)),
        fun q => (hJ.2.2.2.2.2.2.2.2.2.2.2.2.1) (q.resolve_left (by decide)),
        fun q => (hJ.2.2.2.2.2.2.2.2.2.2.2.2.2.1) (q.resolve_left (by decide)),
        fun q => (hJ.2.2.2.2.2.2.2.2.2.2.2.2.2.2.1) (q.resolve_left (by decide)),
        fun q => (hJ.2.2.2.2.2.2.2.2.2.2.2.2.2.2.2.1) (q.resolve_left (by decide)),
        fun q => (hJ.2.2.2.2.2.2.2.2.2.2.2.2.2.2.2.2.1) (q.resolve_left (by decide)),
        fun q => (hJ.2.2.2.2.2.2.2.2.2.2.2.2.2.2.2.2.2.1) (q.resolve_left (by decide)),
        fun _ => rfl,
        fun q => (hJ.2.2.2.2.2.2.2.2.2.2.2.2.2.2.2.2.2.2.2.1) (q.resolve_left (by decide)),
        fun q => (hJ.2.2.2.2.2.2.2.2.2.2.2.2.2.2.2.2.2.2.2.2.1) (q.resolve_left (by decide)),
        fun q => (hJ.2.2.2.2.2.2.2.2.2.2.2.2.2.2.2.2.2.2.2.2.2.1) (q.resolve_left (by decide)),
        fun q => (hJ.2.2.2.2.2.2.2.2.2.2.2.2.2.2.2.2.2.2.2.2.2.2.1) (q.resolve_left (by decide)),
        fun q => (hJ.2.2.2.2.2.2.2.2.2.2.2.2.2.2.2.2.2.2.2.2.2.2.2.1) (q.resolve_left (by decide)),
        fun q => (hJ.2.2.2.2.2.2.2.2.2.2.2.2.2.2.2.2.2.2.2.2.2.2.2.2.1) (q.resolve_left (by decide)),
        fun q => (hJ.2.2.2.2.2.2.2.2.2.2.2.2.2.2.2.2.2.2.2.2.2.2.2.2.2.1) (q.resolve_left (by decide)),
        fun q => (hJ.2.2.2.2.2.2.2.2.2.2.2.2.2.2.2.2.2.2.2.2.2.2.2.2.2.2.1) (q.resolve_left (by decide)),
        fun q => (hJ.2.2.2.2.2.2.2.2.2.2.2.2.2.2.2.2.2.2.2.2.2.2.2.2.2.2.2.1) (q.resolve_left (by decide)),
        fun q => (hJ.2.2.2.2.2.2.2.2.2.2.2.2.2.2.2.2.2.2.2.2.2.2.2.2.2.2.2.2.1) (q.resolve_left (by decide)),
        fun q => (hJ.2.2.2.2.2.2.2.2.2.2.2.2.2.2.2.2.2.2.2.2.2.2.2.2.2.2.2.2.2.1) (q.resolve_left (by decide)),
        fun q => (hJ.2.2.2.2.2.2.2.2.2.2.2.2.2.2.2.2.2.2.2.2.2.2.2.2.2.2.2.2.2.2.1) (q.resolve_left (by decide)),
        fun q => (hJ.2.2.2.2.2.2.2.2.2.2.2.2.2.2.2.2.2.2.2.2.2.2.2.2.2.2.2.2.2.2.2.1) (q.resolve_left (by decide)),
        fun q => (hJ.2.2.2.2.2.2.2.2.2.2.2.2.2.2.2.2.2.2.2.2.2.2.2.2.2.2.2.2.2.2.2.2.1) (q.resolve_left (by decide)),
        fun q => (hJ.2.2.2.2.2.2.2.2.2.2.2.2.2.2.2.2.2.2.2.2.2.2.2.2.2.2.2.2.2.2.2.2.2.1) (q.resolve_left (by decide)),
        fun q => (hJ.2.2.2.2.2.2.2.2.2.2.2.2.2.2.2.2.2.2.2.2.2.2.2.2.2.2.2.2.2.2.2.2.2.2.1) (q.resolve_left (by decide)),
        fun q => (hJ.2.2.2.2.2.2.2.2.2.2.2.2.2.2.2.2.2.2.2.2.2.2.2.2.2.2.2.2.2.2.2.2.2.2.2.1) (q.resolve_left (by decide)),
        fun q => (hJ.2.2.2.2.2.2.2.2.2.2.2.2.2.2.2.2.2.2.2.2.2.2.2.2.2.2.2.2.2.2.2.2.2.2.2.2.1) (q.resolve_left (by decide)),
        fun q => (hJ.2.2.2.2.2.2.2.2.2.2.2.2.2.2.2.2.2.2.2.2.2.2.2.2.2.2.2.2.2.2.2.2.2.2.2.2.2.1) (q.resolve_left (by decide)),
        fun q => (hJ.2.2.2.2.2.2.2.2.2.2.2.2.2.2.2.2.2.2.2.2.2.2.2.2.2.2.2.2.2.2.2.2.2.2.2.2.2.2.1) (q.resolve_left (by decide)),
        fun q => (hJ.2.2.2.2.2.2.2.2.2.2.2.2.2.2.2.2.2.2.2.2.2.2.2.2.2.2.2.2.2.2.2.2.2.2.2.2.2.2.2) (q.resolve_left (by decide))⟩
    refine StepsOk.cons (i := 10) rfl (fun L x G w1 K Q hn hp hJ hK => ?_) ?_
    · skip
      have p9 : L 9 := hp ⟨9, .data⟩ (by simp) rfl
      have e9 := (hJ.2.2.2.2.2.2.2.2.2.2.2.2.2.2.2.2.2.2.1) p9
      have hc := Blk.open5 ((hJ.2.2.2.2.1))
      have c0 := hc.1
      have c1 := hc.2.1
      have c2 := hc.2.2.1
      have c3 := hc.2.2.2.1
      have c4 := hc.2.2.2.2.1
      have c5 := hc.2.2.2.2.2.1
      have c6 := hc.2.2.2.2.2.2
      clear hc
      simp only [putAll, Act.put, List.setIfInBounds_toArray, List.set_cons_zero, List.set_cons_succ]
      go_simp
      refine hK _ G _ (by kernel_rfl) ?_
      exact ⟨(hJ.1),
        (hJ.2.1),
        (hJ.2.2.1),
        (hJ.2.2.2.1),
        (hJ.2.2.2.2.1),
        fun q => (hJ.2.2.2.2.2.1) (q.resolve_left (by decide)),
        fun q n => (hJ.2.2.2.2.2.2.1) (q.resolve_left (by decide)) (fun m => n (.inr m)),
        fun q => (hJ.2.2.2.2.2.2.2.1) (q.resolve_left (by decide)),
        fun q => .inr ((hJ.2.2.2.2.2.2.2.2.1) (q.resolve_left (by decide))),
        fun q => (hJ.2.2.2.2.2.2.2.2.2.1) (q.resolve_left (by decide)),
        fun q => (hJ.2.2.2.2.2.2.2.2.2.2.1) (q.resolve_left (by decide)),
        fun q => (hJ.2.2.2.2.2.2.2.2.2.2.2.1) (q.resolve_left (by decide)),
        fun q => (hJ.2.2.2.2.2.2.2.2.2.2.2.2.1) (q.resolve_left (by decide)),
        fun q => (hJ.2.2.2.2.2.2.2.2.2.2.2.2.2.1) (q.resolve_left (by decide)),
        fun q => (hJ.2.2.2.2.2.2.2.2.2.2.2.2.2.2.1) (q.resolve_left (by decide)),
        fun q => (hJ.2.2.2.2.2.2.2.2.2.2.2.2.2.2.2.1) (q.resolve_left (by decide)),
        fun q => (hJ.2.2.2.2.2.2.2.2.2.2.2.2.2.2.2.2.1) (q.resolve_left (by decide)),
        fun q => (hJ.2.2.2.2.2.2.2.2.2.2.2.2.2.2.2.2.2.1) (q.resolve_left (by decide)),
        fun _ => by first | exact rfl | exact e9,
        fun _ => rfl,
        fun q => (hJ.2.2.2.2.2.2.2.2.2.2.2.2.2.2.2.2.2.2.2.2.1) (q.resolve_left (by decide)),
        fun q => (hJ.2.2.2.2.2.2.2.2.2.2.2.2.2.2.2.2.2.2.2.2.2.1) (q.resolve_left (by decide)),
        fun q => (hJ.2.2.2.2.2.2.2.2.2.2.2.2.2.2.2.2.2.2.2.2.2.2.1) (q.resolve_left (by decide)),
        fun q => (hJ.2.2.2.2.2.2.2.2.2.2.2.2.2.2.2.2.2.2.2.2.2.2.2.1) (q.resolve_left (by decide)),
        fun q => (hJ.2.2.2.2.2.2.2.2.2.2.2.2.2.2.2.2.2.2.2.2.2.2.2.2.1) (q.resolve_left (by decide)),
        fun q => (hJ.2.2.2.2.2.2.2.2.2.2.2.2.2.2.2.2.2.2.2.2.2.2.2.2.2.1) (q.resolve_left (by decide)),
        fun q => (hJ.2.2.2.2.2.2.2.2.2.2.2.2.2.2.2.2.2.2.2.2.2.2.2.2.2.2.1) (q.resolve_left (by decide)),
        fun q => (hJ.2.2.2.2.2.2.2.2.2.2.2.2.2.2.2.2.2.2.2.2.2.2.2.2.2.2.2.1) (q.resolve_left (by decide)),
        fun q => (hJ.2.2.2.2.2.2.2.2.2.2.2.2.2.2.2.2.2.2.2.2.2.2.2.2.2.2.2.2.1) (q.resolve_left (by decide)),
        fun q => (hJ.2.2.2.2.2.2.2.2.2.2.2.2.2.2.2.2.2.2.2.2.2.2.2.2.2.2.2.2.2.1) (q.resolve_left (by decide)),
        fun q => (hJ.2.2.2.2.2.2.2.2.2.2.2.2.2.2.2.2.2.2.2.2.2.2.2.2.2.2.2.2.2.2.1) (q.resolve_left (by decide)),
        fun q => (hJ.2.2.2.2.2.2.2.2.2.2.2.2.2.2.2.2.2.2.2.2.2.2.2.2.2.2.2.2.2.2.2.1) (q.resolve_left (by decide)),
        fun q => (hJ.2.2.2.2.2.2.2.2.2.2.2.2.2.2.2.2.2.2.2.2.2.2.2.2.2.2.2.2.2.2.2.2.1) (q.resolve_left (by decide)),
        fun q => (hJ.2.2.2.2.2.2.2.2.2.2.2.2.2.2.2.2.2.2.2.2.2.2.2.2.2.2.2.2.2.2.2.2.2.1) (q.resolve_left (by decide)),
        fun q => (hJ.2.2.2.2.2.2.2.2.2.2.2.2.2.2.2.2.2.2.2.2.2.2.2.2.2.2.2.2.2.2.2.2.2.2.1) (q.resolve_left (by decide)),
        fun q => (hJ.2.2.2.2.2.2.2.2.2.2.2.2.2.2.2.2.2.2.2.2.2.2.2.2.2.2.2.2.2.2.2.2.2.2.2.1) (q.resolve_left (by decide)),
        fun q => (hJ.2.2.2.2.2.2.2.2.2.2.2.2.2.2.2.2.2.2.2.2.2.2.2.2.2.2.2.2.2.2.2.2.2.2.2.2.1) (q.resolve_left (by decide)),
        fun q => (hJ.2.2.2.2.2.2.2.2.2.2.2.2.2.2.2.2.2.2.2.2.2.2.2.2.2.2.2.2.2.2.2.2.2.2.2.2.2.1) (q.resolve_left (by decide)),
        fun q => (hJ.2.2.2.2.2.2.2.2.2.2.2.2.2.2.2.2.2.2.2.2.2.2.2.2.2.2.2.2.2.2.2.2.2.2.2.2.2.2.1) (q.resolve_left (by decide)),
        fun q => (hJ.2.2.2.2.2.2.2.2.2.2.2.2.2.2.2.2.2.2.2.2.2.2.2.2.2.2.2.2.2.2.2.2.2.2.2.2.2.2.2) (q.resolve_left (by decide))⟩
    refine StepsOk.cons (i := 11) rfl (fun L x G w1 K Q hn hp hJ hK => ?_) ?_
    · skip
      simp only [putAll, Act.put, List.setIfInBounds_toArray, List.set_cons_zero, List.set_cons_succ]
      go_simp
      refine hK _ G _ (by kernel_rfl) ?_
      exact ⟨(hJ.1),
        (hJ.2.1),
        (hJ.2.2.1),
        (hJ.2.2.2.1),
        (hJ.2.2.2.2.1),
        fun q => (hJ.2.2.2.2.2.1) (q.resolve_left (by decide)),
        fun q n => (hJ.2.2.2.2.2.2.1) (q.resolve_left (by decide)) (fun m => n (.inr m)),
        fun q => (hJ.2.2.2.2.2.2.2.1) (q.resolve_left (by decide)),
        fun q => .inr ((hJ.2.2.2.2.2.2.2.2.1) (q.resolve_left (by decide))),
        fun q => (hJ.2.2.2.2.2.2.2.2.2.1) (q.resolve_left (by decide)),
        fun q => (hJ.2.2.2.2.2.2.2.2.2.2.1) (q.resolve_left (by decide)),
        fun q => (hJ.2.2.2.2.2.2.2.2.2.2.2.1) (q.resolve_left (by decide)),
        fun q => (hJ.2.2.2.2.2.2.2.2.2.2.2.2.1) (q.resolve_left (by decide)),
        fun q => (hJ.2.2.2.2.2.2.2.2.2.2.2.2.2.1) (q.resolve_left (by decide)),
        fun q => (hJ.2.2.2.2.2.2.2.2.2.2.2.2.2.2.1) (q.resolve_left (by decide)),
        fun q => (hJ.2.2.2.2.2.2.2.2.2.2.2.2.2.2.2.1) (q.resolve_left (by decide)),
        fun q => (hJ.2.2.2.2.2.2.2.2.2.2.2.2.2.2.2.2.1) (q.resolve_left (by decide)),
        fun q => (hJ.2.2.2.2.2.2.2.2.2.2.2.2.2.2.2.2.2.1) (q.resolve_left (by decide)),
        fun q => (hJ.2.2.2.2.2.2.2.2.2.2.2.2.2.2.2.2.2.2.1) (q.resolve_left (by decide)),
        fun q => (hJ.2.2.2.2.2.2.2.2.2.2.2.2.2.2.2.2.2.2.2.1) (q.resolve_left (by decide)),
        fun _ => rfl,
        fun q => (hJ.2.2.2.2.2.2.2.2.2.2.2.2.2.2.2.2.2.2.2.2.2.1) (q.resolve_left (by decide)),
        fun q => (hJ.2.2.2.2.2.2.2.2.2.2.2.2.2.2.2.2.2.2.2.2.2.2.1) (q.resolve_left (by decide)),
        fun q => (hJ.2.2.2.2.2.2.2.2.2.2.2.2.2.2.2.2.2.2.2.2.2.2.2.1) (q.resolve_left (by decide)),
        fun q => (hJ.2.2.2.2.2.2.2.2.2.2.2.2.2.2.2.2.2.2.2.2.2.2.2.2.1) (q.resolve_left (by decide)),
        fun q => (hJ.2.2.2.2.2.2.2.2.2.2.2.2.2.2.2.2.2.2.2.2.2.2.2.2.2.1) (q.resolve_left (by decide)),
        fun q => (hJ.2.2.2.2.2.2.2.2.2.2.2.2.2.2.2.2.2.2.2.2.2.2.2.2.2.2.1) (q.resolve_left (by decide)),
        fun q => (hJ.2.2.2.2.2.2.2.2.2.2.2.2.2.2.2.2.2.2.2.2.2.2.2.2.2.2.2.1) (q.resolve_left (by decide)),
        fun q => (hJ.2.2.2.2.2.2.2.2.2.2.2.2.2.2.2.2.2.2.2.2.2.2.2.2.2.2.2.2.1) (q.resolve_left (by decide)),
        fun q => (hJ.2.2.2.2.2.2.2.2.2.2.2.2.2.2.2.2.2.2.2.2.2.2.2.2.2.2.2.2.2.1) (q.resolve_left (by decide)),
        fun q => (hJ.2.2.2.2.2.2.2.2.2.2.2.2.2.2.2.2.2.2.2.2.2.2.2.2.2.2.2.2.2.2.1) (q.resolve_left (by decide)),
        fun q => (hJ.2.2.2.2.2.2.2.2.2.2.2.2.2.2.2.2.2.2.2.2.2.2.2.2.2.2.2.2.2.2.2.1) (q.resolve_left (by decide)),
        fun q => (hJ.2.2.2.2.2.2.2.2.2.2.2.2.2.2.2.2.2.2.2.2.2.2.2.2.2.2.2.2.2.2.2.2.1) (q.resolve_left (by decide)),
        fun q => (hJ.2.2.2.2.2.2.2.2.2.2.2.2.2.2.2.2.2.2.2.2.2.2.2.2.2.2.2.2.2.2.2.2.2.1) (q.resolve_left (by decide)),
        fun q => (hJ.2.2.2.2.2.2.2.2.2.2.2.2.2.2.2.2.2.2.2.2.2.2.2.2.2.2.2.2.2.2.2.2.2.2.1) (q.resolve_left (by decide)),
        fun q => (hJ.2.2.2.2.2.2.2.2.2.2.2.2.2.2.2.2.2.2.2.2.2.2.2.2.2.2.2.2.2.2.2.2.2.2.2.1) (q.resolve_left (by decide)),
        fun q => (hJ.2.2.2.2.2.2.2.2.2.2.2.2.2.2.2.2.2.2.2.2.2.2.2.2.2.2.2.2.2.2.2.2.2.2.2.2.1) (q.resolve_left (by decide)),
        fun q => (hJ.2.2.2.2.2.2.2.2.2.2.2.2.2.2.2.2.2.2.2.2.2.2.2.2.2.2.2.2.2.2.2.2.2.2.2.2.2.1) (q.resolve_left (by decide)),
        fun q => (hJ.2.2.2.2.2.2.2.2.2.2.2.2.2.2.2.2.2.2.2.2.2.2.2.2.2.2.2.2.2.2.2.2.2.2.2.2.2.2.1) (q.resolve_left (by decide)),
        fun q => (hJ.2.2.2.2.2.2.2.2.2.2.2.2.2.2.2.2.2.2.2.2.2.2.2.2.2.2.2.2.2.2.2.2.2.2.2.2.2.2.2) (q.resolve_left (by decide))⟩
    refine StepsOk.cons (i := 12) rfl (fun L x G w1 K Q hn hp hJ hK => ?_) ?_
    · skip
      have p11 : L 11 := hp ⟨11, .data⟩ (by simp) rfl
      have e11 := (hJ.2.2.2.2.2.2.2.2.2.2.2.2.2.2.2.2.2.2.2.2.1) p11
      have hc := Blk.open5 ((hJ.2.2.2.2.1))
      have c0 := hc.1
      have c1 := hc.2.1
      have c2 := hc.2.2.1
      have c3 := hc.2.2.2.1
      have c4 := hc.2.2.2.2.1
      have c5 := hc.2.2.2.2.2.1
      have c6 := hc.2.2.2.2.2.2
      clear hc
      simp only [putAll, Act.put, List.setIfInBounds_toArray, List.set_cons_zero, List.set_cons_succ]
      go_simp
      refine hK _ G _ (by kernel_rfl) ?_
      exact ⟨(hJ.1),
        (hJ.2.1),
        (hJ.2.2.1),
        (hJ.2.2.2.1),
        (hJ.2.2.2.2.1),
        fun q => (hJ.2.2.2.2.2.1) (q.resolve_left (by decide)),
        fun q n => (hJ.2.2.2.2.2.2.1) (q.resolve_left (by decide)) (fun m => n (.inr m)),
        fun q => (hJ.2.2.2.2.2.2.2.1) (q.resolve_left (by decide)),
        fun q => .inr ((hJ.2.2.2.2.2.2.2.2.1) (q.resolve_left (by decide))),
        fun q => (hJ.2.2.2.2.2.2.2.2.2.1) (q.resolve_left (by decide)),
        fun q => (hJ.2.2.2.2.2.2.2.2.2.2.1) (q.resolve_left (by decide)),
        fun q => (hJ.2.2.2.2.2.2.2.2.2.2.2.1) (q.resolve_left (by decide)),
        fun q => (hJ.2.2.2.2.2.2.2.2.2.2.2.2.1) (q.resolve_left (by decide)),
        fun q => (hJ.2.2.2.2.2.2.2.2.2.2.2.2.2.1) (q.resolve_left (by decide)),
        fun q => (hJ.2.2.2.2.2.2.2.2.2.2.2.2.2.2.1) (q.resolve_left (by decide)),
        fun q => (hJ.2.2.2.2.2.2.2.2.2.2.2.2.2.2.2.1) (q.resolve_left (by decide)),
        fun q => (hJ.2.2.2.2.2.2.2.2.2.2.2.2.2.2.2.2.1) (q.resolve_left (by decide)),
        fun q => (hJ.2.2.2.2.2.2.2.2.2.2.2.2.2.2.2.2.2.1) (q.resolve_left (by decide)),
        fun q => (hJ.2.2.2.2.2.2.2.2.2.2.2.2.2.2.2.2.2.2.1) (q.resolve_left (by decide)),
        fun q => (hJ.2.2.2.2.2.2.2.2.2.2.2.2.2.2.2.2.2.2.2.1) (q.resolve_left (by decide)),
        fun _ => by first | exact rfl | exact e11,
        fun _ => rfl,
        fun q => (hJ.2.2.2.2.2.2.2.2.2.2.2.2.2.2.2.2.2.2.2.2.2.2.1) (q.resolve_left (by decide)),
        fun q => (hJ.2.2.2.2.2.2.2.2.2.2.2.2.2.2.2.2.2.2.2.2.2.2.2.1) (q.resolve_left (by decide)),
        fun q => (hJ.2.2.2.2.2.2.2.2.2.2.2.2.2.2.2.2.2.2.2.2.2.2.2.2.1) (q.resolve_left (by decide)),
        fun q => (hJ.2.2.2.2.2.2.2.2.2.2.2.2.2.2.2.2.2.2.2.2.2.2.2.2.2.1) (q.resolve_left (by decide)),
        fun q => (hJ.2.2.2.2.2.2.2.2.2.2.2.2.2.2.2.2.2.2.2.2.2.2.2.2.2.2.1) (q.resolve_left (by decide)),
        fun q => (hJ.2.2.2.2.2.2.2.2.2.2.2.2.2.2.2.2.2.2.2.2.2.2.2.2.2.2.2.1) (q.resolve_left (by decide)),
        fun q => (hJ.2.2.2.2.2.2.2.2.2.2.2.2.2.2.2.2.2.2.2.2.2.2.2.2.2.2.2.2.1) (q.resolve_left (by decide)),
        fun q => (hJ.2.2.2.2.2.2.2.2.2.2.2.2.2.2.2.2.2.2.2.2.2.2.2.2.2.2.2.2.2.1) (q.resolve_left (by decide)),
        fun q => (hJ.2.2.2.2.2.2.2.2.2.2.2.2.2.2.2.2.2.2.2.2.2.2.2.2.2.2.2.2.2.2.1) (q.resolve_left (by decide)),
        fun q => (hJ.2.2.2.2.2.2.2.2.2.2.2.2.2.2.2.2.2.2.2.2.2.2.2.2.2.2.2.2.2.2.2.1) (q.resolve_left (by decide)),
        fun q => (hJ.2.2.2.2.2.2.2.2.2.2.2.2.2.2.2.2.2.2.2.2.2.2.2.2.2.2.2.2.2.2.2.2.1) (q.resolve_left (by decide)),
        fun q => (hJ.2.2.2.2.2.2.2.2.2.2.2.2.2.2.2.2.2.2.2.2.2.2.2.2.2.2.2.2.2.2.2.2.2.1) (q.resolve_left (by decide)),
        fun q => (hJ.2.2.2.2.2.2.2.2.2.2.2.2.2.2.2.2.2.2.2.2.2.2.2.2.2.2.2.2.2.2.2.2.2.2.1) (q.resolve_left (by decide)),
        fun q => (hJ.2.2.2.2.2.2.2.2.2.2.2.2.2.2.2.2.2.2.2.2.2.2.2.2.2.2.2.2.2.2.2.2.2.2.2.1) (q.resolve_left (by decide)),
        fun q => (hJ.2.2.2.2.2.2.2.2.2.2.2.2.2.2.2.2.2.2.2.2.2.2.2.2.2.2.2.2.2.2.2.2.2.2.2.2.1) (q.resolve_left (by decide)),
        fun q => (hJ.2.2.2.2.2.2.2.2.2.2.2.2.2.2.2.2.2.2.2.2.2.2.2.2.2.2.2.2.2.2.2.2.2.2.2.2.2.1) (q.resolve_left (by decide)),
        fun q => (hJ.2.2.2.2.2.2.2.2.2.2.2.2.2.2.2.2.2.2.2.2.2.2.2.2.2.2.2.2.2.2.2.2.2.2.2.2.2.2.1) (q.resolve_left (by decide)),
        fun q => (hJ.2.2.2.2.2.2.2.2.2.2.2.2.2.2.2.2.2.2.2.2.2.2.2.2.2.2.2.2.2.2.2.2.2.2.2.2.2.2.2) (q.resolve_left (by decide))⟩
    refine StepsOk.cons (i := 13) rfl (fun L x G w1 K Q hn hp hJ hK => ?_) ?_
    · skip
      simp only [putAll, Act.put, List.setIfInBounds_toArray, List.set_cons_zero, List.set_cons_succ]
      go_simp
      refine hK _ G _ (by kernel_rfl) ?_
      exact ⟨(hJ.1),
        (hJ.2.1),
        (hJ.2.2.1),
        (hJ.2.2.2.1),
        (hJ.2.2.2.2.1),
        fun q => (hJ.2.2.2.2.2.1) (q.resolve_left (by decide)),
        fun q n => (hJ.2.2.2.2.2.2.1) (q.resolve_left (by decide)) (fun m => n (.inr m)),
        fun q => (hJ.2.2.2.2.2.2.2.1) (q.resolve_left (by decide)),
        fun q => .inr ((hJ.2.2.2.2.2.2.2.2.1) (q.resolve_left (by decide))),
        fun q => (hJ.2.2.2.2.2.2.2.2.2.1) (q.resolve_left (by decide)),
        fun q => (hJ.2.2.2.2.2.2.2.2.2.2.1) (q.resolve_left (by decide)),
        fun q => (hJ.2.2.2.2.2.2.2.2.2.2.2.1) (q.resolve_left (by decide)),
        fun q => (hJ.2.2.2.2.2.2.2.2.2.2.2.2.1) (q.resolve_left (by decide)),
        fun q => (hJ.2.2.2.2.2.2.2.2.2.2.2.2.2.1) (q.resolve_left (by decide)),
        fun q => (hJ.2.2.2.2.2.2.2.2.2.2.2.2.2.2.1) (q.resolve_left (by decide)),
        fun q => (hJ.2.2.2.2.2.2.2.2.2.2.2.2.2.2.2.1) (q.resolve_left (by decide)),
        fun q => (hJ.2.2.2.2.2.2.2.2.2.2.2.2.2.2.2.2.1) (q.resolve_left (by decide)),
        fun q => (hJ.2.2.2.2.2.2.2.2.2.2.2.2.2.2.2.2.2.1) (q.resolve_left (by decide)),
        fun q => (hJ.2.2.2.2.2.2.2.2.2.2.2.2.2.2.2.2.2.2.1) (q.resolve_left (by decide)),
        fun q => (hJ.2.2.2.2.2.2.2.2.2.2.2.2.2.2.2.2.2.2.2.1) (q.resolve_left (by decide)),
        fun q => (hJ.2.2.2.2.2.2.2.2.2.2.2.2.2.2.2.2.2.2.2.2.1) (q.resolve_left (by decide)),
        fun q => (hJ.2.2.2.2.2.2.2.2.2.2.2.2.2.2.2.2.2.2.2.2.2.1) (q.resolve_left (by decide)),
        fun _ => rfl,
        fun q => (hJ.2.2.2.2.2.2.2.2.2.2.2.2.2.2.2.2.2.2.2.2.2.2.2.1) (q.resolve_left (by decide)),
        fun q => (hJ.2.2.2.2.2.2.2.2.2.2.2.2.2.2.2.2.2.2.2.2.2.2.2.2.1) (q.resolve_left (by decide)),
        fun q => (hJ.2.2.2.2.2.2.2.2.2.2.2.2.2.2.2.2.2.2.2.2.2.2.2.2.2.1) (q.resolve_left (by decide)),
        fun q => (hJ.2.2.2.2.2.2.2.2.2.2.2.2.2.2.2.2.2.2.2.2.2.2.2.2.2.2.1) (q.resolve_left (by decide)),
        fun q => (hJ.2.2.2.2.2.2.2.2.2.2.2.2.2.2.2.2.2.2.2.2.2.2.2.2.2.2.2.1) (q.resolve_left (by decide)),
        fun q => (hJ.2.2.2.2.2.2.2.2.2.2.2.2.2.2.2.2.2.2.2.2.2.2.2.2.2.2.2.2.1) (q.resolve_left (by decide)),
        fun q => (hJ.2.2.2.2.2.2.2.2.2.2.2.2.2.2.2.2.2.2.2.2.2.2.2.2.2.2.2.2.2.1) (q.resolve_left (by decide)),
        fun q => (hJ.2.2.2.2.2.2.2.2.2.2.2.2.2.2.2.2.2.2.2.2.2.2.2.2.2.2.2.2.2.2.1) (q.resolve_left (by decide)),
        fun q => (hJ.2.2.2.2.2.2.2.2.2.2.2.2.2.2.2.2.2.2.2.2.2.2.2.2.2.2.2.2.2.2.2.1) (q.resolve_left (by decide)),
        fun q => (hJ.2.2.2.2.2.2.2.2.2.2.2.2.2.2.2.2.2.2.2.2.2.2.2.2.2.2.2.2.2.2.2.2.1) (q.resolve_left (by decide)),
        fun q => (hJ.2.2.2.2.2.2.2.2.2.2.2.2.2.2.2.2.2.2.2.2.2.2.2.2.2.2.2.2.2.2.2.2.2.1) (q.resolve_left (by decide)),
        fun q => (hJ.2.2.2.2.2.2.2.2.2.2.2.2.2.2.2.2.2.2.2.2.2.2.2.2.2.2.2.2.2.2.2.2.2.2.1) (q.resolve_left (by decide)),
        fun q => (hJ.2.2.2.2.2.2.2.2.2.2.2.2.2.2.2.2.2.2.2.2.2.2.2.2.2.2.2.2.2.2.2.2.2.2.2.1) (q.resolve_left (by decide)),
        fun q => (hJ.2.2.2.2.2.2.2.2.2.2.2.2.2.2.2.2.2.2.2.2.2.2.2.2.2.2.2.2.2.2.2.2.2.2.2.2.1) (q.resolve_left (by decide)),
        fun q => (hJ.2.2.2.2.2.2.2.2.2.2.2.2.2.2.2.2.2.2.2.2.2.2.2.2.2.2.2.2.2.2.2.2.2.2.2.2.2.1) (q.resolve_left (by decide)),
        fun q => (hJ.2.2.2.2.2.2.2.2.2.2.2.2.2.2.2.2.2.2.2.2.2.2.2.2.2.2.2.2.2.2.2.2.2.2.2.2.2.2.1) (q.resolve_left (by decide)),
        fun q => (hJ.2.2.2.2.2.2.2.2.2.2.2.2.2.2.2.2.2.2.2.2.2.2.2.2.2.2.2.2.2.2.2.2.2.2.2.2.2.2.2) (q.resolve_left (by decide))⟩
    refine StepsOk.cons (i := 14) rfl (fun L x G w1 K Q hn hp hJ hK => ?_) ?_
    · skip
      have p13 : L 13 := hp ⟨13, .data⟩ (by simp) rfl
      have e13 := (hJ.2.2.2.2.2.2.2.2.2.2.2.2.2.2.2.2.2.2.2.2.2.2.1) p13
      have hc := Blk.open5 ((hJ.2.2.2.2.1))
      have c0 := hc.1
      have c1 := hc.2.1
      have c2 := hc.2.2.1
      have c3 := hc.2.2.2.1
      have c4 := hc.2.2.2.2.1
      have c5 := hc.2.2.2.2.2.1
      have c6 := hc.2.2.2.2.2.2
      clear hc
      simp only [putAll, Act.put, List.setIfInBounds_toArray, List.set_cons_zero, List.set_cons_succ]
      go_simp
      refine hK _ G _ (by kernel_rfl) ?_
      exact ⟨(hJ.1),
        (hJ.2.1),
        (hJ.2.2.1),
        (hJ.2.2.2.1),
        (hJ.2.2.2.2.1),
        fun q => (hJ.2.2.2.2.2.1) (q.resolve_left (by decide)),
        fun q n => (hJ.2.2.2.2.2.2.1) (q.resolve_left (by decide)) (fun m => n (.inr m)),
        fun q => (hJ.2.2.2.2.2.2.2.1) (q.resolve_left (by decide)),
        fun q => .inr ((hJ.2.2.2.2.2.2.2.2.1) (q.resolve_left (by decide))),
        fun q => (hJ.2.2.2.2.2.2.2.2.2.1) (q.resolve_left (by decide)),
        fun q => (hJ.2.2.2.2.2.2.2.2.2.2.1) (q.resolve_left (by decide)),
        fun q => (hJ.2.2.2.2.2.2.2.2.2.2.2.1) (q.resolve_left (by decide)),
        fun q => (hJ.2.2.2.2.2.2.2.2.2.2.2.2.1) (q.resolve_left (by decide)),
        fun q => (hJ.2.2.2.2.2.2.2.2.2.2.2.2.2.1) (q.resolve_left (by decide)),
        fun q => (hJ.2.2.2.2.2.2.2.2.2.2.2.2.2.2.1) (q.resolve_left (by decide)),
        fun q => (hJ.2.2.2.2.2.2.2.2.2.2.2.2.2.2.2.1) (q.resolve_left (by decide)),
        fun q => (hJ.2.2.2.2.2.2.2.2.2.2.2.2.2.2.2.2.1) (q.resolve_left (by decide)),
        fun q => (hJ.2.2.2.2.2.2.2.2.2.2.2.2.2.2.2.2.2.1) (q.resolve_left (by decide)),
        fun q => (hJ.2.2.2.2.2.2.2.2.2.2.2.2.2.2.2.2.2.2.1) (q.resolve_left (by decide)),
        fun q => (hJ.2.2.2.2.2.2.2.2.2.2.2.2.2.2.2.2.2.2.2.1) (q.resolve_left (by decide)),
        fun q => (hJ.2.2.2.2.2.2.2.2.2.2.2.2.2.2.2.2.2.2.2.2.1) (q.resolve_left (by decide)),
        fun q => (hJ.2.2.2.2.2.2.2.2.2.2.2.2.2.2.2.2.2.2.2.2.2.1) (q.resolve_left (by decide)),
        fun _ => by first | exact rfl | exact e13,
        fun _ => rfl,
        fun q => (hJ.2.2.2.2.2.2.2.2.2.2.2.2.2.2.2.2.2.2.2.2.2.2.2.2.1) (q.resolve_left (by decide)),
        fun q => (hJ.2.2.2.2.2.2.2.2.2.2.2.2.2.2.2.2.2.2.2.2.2.2.2.2.2.1) (q.resolve_left (by decide)),
        fun q => (hJ.2.2.2.2.2.2.2.2.2.2.2.2.2.2.2.2.2.2.2.2.2.2.2.2.2.2.1) (q.resolve_left (by decide)),
        fun q => (hJ.2.2.2.2.2.2.2.2.2.2.2.2.2.2.2.2.2.2.2.2.2.2.2.2.2.2.2.1) (q.resolve_left (by decide)),
        fun q => (hJ.2.2.2.2.2.2.2.2.2.2.2.2.2.2.2.2.2.2.2.2.2.2.2.2.2.2.2.2.1) (q.resolve_left (by decide)),
        fun q => (hJ.2.2.2.2.2.2.2.2.2.2.2.2.2.2.2.2.2.2.2.2.2.2.2.2.2.2.2.2.2.1) (q.resolve_left (by decide)),
        fun q => (hJ.2.2.2.2.2.2.2.2.2.2.2.2.2.2.2.2.2.2.2.2.2.2.2.2.2.2.2.2.2.2.1) (q.resolve_left (by decide)),
        fun q => (hJ.2.2.2.2.2.2.2.2.2.2.2.2.2.2.2.2.2.2.2.2.2.2.2.2.2.2.2.2.2.2.2.1) (q.resolve_left (by decide)),
        fun q => (hJ.2.2.2.2.2.2.2.2.2.2.2.2.2.2.2.2.2.2.2.2.2.2.2.2.2.2.2.2.2.2.2.2.1) (q.resolve_left (by decide)),
        fun q => (hJ.2.2.2.2.2.2.2.2.2.2.2.2.2.2.2.2.2.2.2.2.2.2.2.2.2.2.2.2.2.2.2.2.2.1) (q.resolve_left (by decide)),
        fun q => (hJ.2.2.2.2.2.2.2.2.2.2.2.2.2.2.2.2.2.2.2.2.2.2.2.2.2.2.2.2.2.2.2.2.2.2.1) (q.resolve_left (by decide)),
        fun q => (hJ.2.2.2.2.2.2.2.2.2.2.2.2.2.2.2.2.2.2.2.2.2.2.2.2.2.2.2.2.2.2.2.2.2.2.2.1) (q.resolve_left (by decide)),
        fun q => (hJ.2.2.2.2.2.2.2.2.2.2.2.2.2.2.2.2.2.2.2.2.2.2.2.2.2.2.2.2.2.2.2.2.2.2.2.2.1) (q.resolve_left (by decide)),
        fun q => (hJ.2.2.2.2.2.2.2.2.2.2.2.2.2.2.2.2.2.2.2.2.2.2.2.2.2.2.2.2.2.2.2.2.2.2.2.2.2.1) (q.resolve_left (by decide)),
        fun q => (hJ.2.2.2.2.2.2.2.2.2.2.2.2.2.2.2.2.2.2.2.2.2.2.2.2.2.2.2.2.2.2.2.2.2.2.2.2.2.2.1) (q.resolve_left (by decide)),
        fun q => (hJ.2.2.2.2.2.2.2.2.2.2.2.2.2.2.2.2.2.2.2.2.2.2.2.2.2.2.2.2.2.2.2.2.2.2.2.2.2.2.2) (q.resolve_left (by decide))⟩
    refine StepsOk.cons (i := 15) rfl (fun L x G w1 K Q hn hp hJ hK => ?_) ?_
    · skip
      simp only [putAll, Act.put, List.setIfInBounds_toArray, List.set_cons_zero, List.set_cons_succ]
      go_simp
      refine hK _ G _ (by kernel_rfl) ?_
      exact ⟨(hJ.1),
        (hJ.2.1),
        (hJ.2.2.1),
        (hJ.2.2.2.1),
        (hJ.2.2.2.2.1),
        fun q => (hJ.2.2.2.2.2.1) (q.resolve_left (by decide)),
        fun q n => (hJ.2.2.2.2.2.2.1) (q.resolve_left (by decide)) (fun m => n (.inr m)),
        fun q => (hJ.2.2.2.2.2.2.2.1) (q.resolve_left (by decide)),
        fun q => .inr ((hJ.2.2.2.2.2.2.2.2.1) (q.resolve_left (by decide))),
        fun q => (hJ.2.2.2.2.2.2.2.2.2.1) (q.resolve_left (by decide)),
        fun q => (hJ.2.2.2.2.2.2.2.2.2.2.1) (q.resolve_left (by decide)),
        fun q => (hJ.2.2.2.2.2.2.2.2.2.2.2.1) (q.resolve_left (by decide)),
        fun q => (hJ.2.2.2.2.2.2.2.2.2.2.2.2.1) (q.resolve_left (by decide)),
        fun q => (hJ.2.2.2.2.2.2.2.2.2.2.2.2.2.1) (q.resolve_left (by decide)),
        fun q => (hJ.2.2.2.2.2.2.2.2.2.2.2.2.2.2.1) (q.resolve_left (by decide)),
        fun q => (hJ.2.2.2.2.2.2.2.2.2.2.2.2.2.2.2.1) (q.resolve_left (by decide)),
        fun q => (hJ.2.2.2.2.2.2.2.2.2.2.2.2.2.2.2.2.1) (q.resolve_left (by decide)),
        fun q => (hJ.2.2.2.2.2.2.2.2.2.2.2.2.2.2.2.2.2.1) (q.resolve_left (by decide)),
        fun q => (hJ.2.2.2.2.2.2.2.2.2.2.2.2.2.2.2.2.2.2.1) (q.resolve_left (by decide)),
        fun q => (hJ.2.2.2.2.2.2.2.2.2.2.2.2.2.2.2.2.2.2.2.1) (q.resolve_left (by decide)),
        fun q => (hJ.2.2.2.2.2.2.2.2.2.2.2.2.2.2.2.2.2.2.2.2.1) (q.resolve_left (by decide)),
        fun q => (hJ.2.2.2.2.2.2.2.2.2.2.2.2.2.2.2.2.2.2.2.2.2.1) (q.resolve_left (by decide)),
        fun q => (hJ.2.2.2.2.2.2.2.2.2.2.2.2.2.2.2.2.2.2.2.2.2.2.1) (q.resolve_left (by decide)),
        fun q => (hJ.2.2.2.2.2.2.2.2.2.2.2.2.2.2.2.2.2.2.2.2.2.2.2.1) (q.resolve_left (by decide)),
        fun _ => rfl,
        fun q => (hJ.2.2.2.2.2.2.2.2.2.2.2.2.2.2.2.2.2.2.2.2.2.2.2.2.2.1) (q.resolve_left (by decide)),
        fun q => (hJ.2.2.2.2.2.2.2.2.2.2.2.2.2.2.2.2.2.2.2.2.2.2.2.2.2.2.1) (q.resolve_left (by decide)),
        fun q => (hJ.2.2.2.2.2.2.2.2.2.2.2.2.2.2.2.2.2.2.2.2.2.2.2.2.2.2.2.1) (q.resolve_left (by decide)),
        fun q => (hJ.2.2.2.2.2.2.2.2.2.2.2.2.2.2.2.2.2.2.2.2.2.2.2.2.2.2.2.2.1) (q.resolve_left (by decide)),
        fun q => (hJ.2.2.2.2.2.2.2.2.2.2.2.2.2.2.2.2.2.2.2.2.2.2.2.2.2.2.2.2.2.1) (q.resolve_left (by decide)),
        fun q => (hJ.2.2.2.2.2.2.2.2.2.2.2.2.2.2.2.2.2.2.2.2.2.2.2.2.2.2.2.2.2.2.1) (q.resolve_left (by decide)),
        fun q => (hJ.2.2.2.2.2.2.2.2.2.2.2.2.2.2.2.2.2.2.2.2.2.2.2.2.2.2.2.2.2.2.2.1) (q.resolve_left (by decide)),
        fun q => (hJ.2.2.2.2.2.2.2.2.2.2.2.2.2.2.2.2.2.2.2.2.2.2.2.2.2.2.2.2.2.2.2.2.1) (q.resolve_left (by decide)),
        fun q => (hJ.2.2.2.2.2.2.2.2.2.2.2.2.2.2.2.2.2.2.2.2.2.2.2.2.2.2.2.2.2.2.2.2.2.1) (q.resolve_left (by decide)),
        fun q => (hJ.2.2.2.2.2.2.2.2.2.2.2.2.2.2.2.2.2.2.2.2.2.2.2.2.2.2.2.2.2.2.2.2.2.2.1) (q.resolve_left (by decide)),
        fun q => (hJ.2.2.2.2.2.2.2.2.2.2.2.2.2.2.2.2.2.2.2.2.2.2.2.2.2.2.2.2.2.2.2.2.2.2.2.1) (q.resolve_left (by decide)),
        fun q => (hJ.2.2.2.2.2.2.2.2.2.2.2.2.2.2.2.2.2.2.2.2.2.2.2.2.2.2.2.2.2.2.2.2.2.2.2.2.1) (q.resolve_left (by decide)),
        fun q => (hJ.2.2.2.2.2.2.2.2.2.2.2.2.2.2.2.2.2.2.2.2.2.2.2.2.2.2.2.2.2.2.2.2.2.2.2.2.2.1) (q.resolve_left (by decide)),
        fun q => (hJ.2.2.2.2.2.2.2.2.2.2.2.2.2.2.2.2.2.2.2.2.2.2.2.2.2.2.2.2.2.2.2.2.2.2.2.2.2.2.1) (q.resolve_left (by decide)),
        fun q => (hJ.2.2.2.2.2.2.2.2.2.2.2.2.2.2.2.2.2.2.2.2.2.2.2.2.2.2.2.2.2.2.2.2.2.2.2.2.2.2.2) (q.resolve_left (by decide))⟩
    refine StepsOk.cons (i := 16) rfl (fun L x G w1 K Q hn hp hJ hK => ?_) ?_
    · skip
      have p15 : L 15 := hp ⟨15, .data⟩ (by simp) rfl
      have e15 := (hJ.2.2.2.2.2.2.2.2.2.2.2.2.2.2.2.2.2.2.2.2.2.2.2.2.1) p15
      have hc := Blk.open5 ((hJ.2.2.2.2.1))
      have c0 := hc.1
      have c1 := hc.2.1
      have c2 := hc.2.2.1
      have c3 := hc.2.2.2.1
      have c4 := hc.2.2.2.2.1
      have c5 := hc.2.2.2.2.2.1
      have c6 := hc.2.2.2.2.2.2
      clear hc
      simp only [putAll, Act.put, List.setIfInBounds_toArray, List.set_cons_zero, List.set_cons_succ]
      go_simp
      refine hK _ G _ (by kernel_rfl) ?_
      exact ⟨(hJ.1),
        (hJ.2.1),
        (hJ.2.2.1),
        (hJ.2.2.2.1),
        (hJ.2.2.2.2.1),
        fun q => (hJ.2.2.2.2.2.1) (q.resolve_left (by decide)),
        fun q n => (hJ.2.2.2.2.2.2.1) (q.resolve_left (by decide)) (fun m => n (.inr m)),
        fun q => (hJ.2.2.2.2.2.2.2.1) (q.resolve_left (by decide)),
        fun q => .inr ((hJ.2.2.2.2.2.2.2.2.1) (q.resolve_left (by decide))),
        fun q => (hJ.2.2.2.2.2.2.2.2.2.1) (q.resolve_left (by decide)),
        fun q => (hJ.2.2.2.2.2.2.2.2.2.2.1) (q.resolve_left (by decide)),
        fun q => (hJ.2.2.2.2.2.2.2.2.2.2.2.1) (q.resolve_left (by decide)),
        fun q => (hJ.2.2.2.2.2.2.2.2.2.2.2.2.1) (q.resolve_left (by decide)),
        fun q => (hJ.2.2.2.2.2.2.2.2.2.2.2.2.2.1) (q.resolve_left (by decide)),
        fun q => (hJ.2.2.2.2.2.2.2.2.2.2.2.2.2.2.1) (q.resolve_left (by decide)),
        fun q => (hJ.2.2.2.2.2.2.2.2.2.2.2.2.2.2.2.1) (q.resolve_left (by decide)),
        fun q => (hJ.2.2.2.2.2.2.2.2.2.2.2.2.2.2.2.2.1) (q.resolve_left (by decide)),
        fun q => (hJ.2.2.2.2.2.2.2.2.2.2.2.2.2.2.2.2.2.1) (q.resolve_left (by decide)),
        fun q => (hJ.2.2.2.2.2.2.2.2.2.2.2.2.2.2.2.2.2.2.1) (q.resolve_left (by decide)),
        fun q => (hJ.2.2.2.2.2.2.2.2.2.2.2.2.2.2.2.2.2.2.2.1) (q.resolve_left (by decide)),
        fun q => (hJ.2.2.2.2.2.2.2.2.2.2.2.2.2.2.2.2.2.2.2.2.1) (q.resolve_left (by decide)),
        fun q => (hJ.2.2.2.2.2.2.2.2.2.2.2.2.2.2.2.2.2.2.2.2.2.1) (q.resolve_left (by decide)),
        fun q => (hJ.2.2.2.2.2.2.2.2.2.2.2.2.2.2.2.2.2.2.2.2.2.2.1) (q.resolve_left (by decide)),
        fun q => (hJ.2.2.2.2.2.2.2.2.2.2.2.2.2.2.2.2.2.2.2.2.2.2.2.1) (q.resolve_left (by decide)),
        fun _ => by first | exact rfl | exact e15,
        fun _ => rfl,
        fun q => (hJ.2.2.2.2.2.2.2.2.2.2.2.2.2.2.2.2.2.2.2.2.2.2.2.2.2.2.1) (q.resolve_left (by decide)),
        fun q => (hJ.2.2.2.2.2.2.2.2.2.2.2.2.2.2.2.2.2.2.2.2.2.2.2.2.2.2.2.1) (q.resolve_left (by decide)),
        fun q => (hJ.2.2.2.2.2.2.2.2.2.2.2.2.2.2.2.2.2.2.2.2.2.2.2.2.2.2.2.2.1) (q.resolve_left (by decide)),
        fun q => (hJ.2.2.2.2.2.2.2.2.2.2.2.2.2.2.2.2.2.2.2.2.2.2.2.2.2.2.2.2.2.1) (q.resolve_left (by decide)),
        fun q => (hJ.2.2.2.2.2.2.2.2.2.2.2.2.2.2.2.2.2.2.2.2.2.2.2.2.2.2.2.2.2.2.1) (q.resolve_left (by decide)),
        fun q => (hJ.2.2.2.2.2.2.2.2.2.2.2.2.2.2.2.2.2.2.2.2.2.2.2.2.2.2.2.2.2.2.2.1) (q.resolve_left (by decide)),
        fun q => (hJ.2.2.2.2.2.2.2.2.2.2.2.2.2.2.2.2.2.2.2.2.2.2.2.2.2.2.2.2.2.2.2.2.1) (q.resolve_left (by decide)),
        fun q => (hJ.2.2.2.2.2.2.2.2.2.2.2.2.2.2.2.2.2.2.2.2.2.2.2.2.2.2.2.2.2.2.2.2.2.1) (q.resolve_left (by decide)),
        fun q => (hJ.2.2.2.2.2.2.2.2.2.2.2.2.2.2.2.2.2.2.2.2.2.2.2.2.2.2.2.2.2.2.2.2.2.2.1) (q.resolve_left (by decide)),
        fun q => (hJ.2.2.2.2.2.2.2.2.2.2.2.2.2.2.2.2.2.2.2.2.2.2.2.2.2.2.2.2.2.2.2.2.2.2.2.1) (q.resolve_left (by decide)),
        fun q => (hJ.2.2.2.2.2.2.2.2.2.2.2.2.2.2.2.2.2.2.2.2.2.2.2.2.2.2.2.2.2.2.2.2.2.2.2.2.1) (q.resolve_left (by decide)),
        fun q => (hJ.2.2.2.2.2.2.2.2.2.2.2.2.2.2.2.2.2.2.2.2.2.2.2.2.2.2.2.2.2.2.2.2.2.2.2.2.2.1) (q.resolve_left (by decide)),
        fun q => (hJ.2.2.2.2.2.2.2.2.2.2.2.2.2.2.2.2.2.2.2.2.2.2.2.2.2.2.2.2.2.2.2.2.2.2.2.2.2.2.1) (q.resolve_left (by decide)),
        fun q => (hJ.2.2.2.2.2.2.2.2.2.2.2.2.2.2.2.2.2.2.2.2.2.2.2.2.2.2.2.2.2.2.2.2.2.2.2.2.2.2.2) (q.resolve_left (by decide))⟩
    refine StepsOk.cons (i := 17) rfl (fun L x G w1 K Q hn hp hJ hK => ?_) ?_
    · skip
      have p10 : L 10 := hp ⟨10, .data⟩ (by simp) rfl
      have e10 := (hJ.2.2.2.2.2.2.2.2.2.2.2.2.2.2.2.2.2.2.2.1) p10
      have p12 : L 12 := hp ⟨12, .data⟩ (by simp) rfl
      have e12 := (hJ.2.2.2.2.2.2.2.2.2.2.2.2.2.2.2.2.2.2.2.2.2.1) p12
      have p14 : L 14 := hp ⟨14, .data⟩ (by simp) rfl
      have e14 := (hJ.2.2.2.2.2.2.2.2.2.2.2.2.2.2.2.2.2.2.2.2.2.2.2.1) p14
      have p16 : L 16 := hp ⟨16, .data⟩ (by simp) rfl
      have e16 := (hJ.2.2.2.2.2.2.2.2.2.2.2.2.2.2.2.2.2.2.2.2.2.2.2.2.2.1) p16
      simp only [putAll, Act.put, List.setIfInBounds_toArray, List.set_cons_zero, List.set_cons_succ]
      go_simp
      refine (lless_c _ _ _ _ _ (by omega) (by omega) (by omega) (by omega) (by omega) (by omega) (by omega) (by omega)).mono ?_
      rw [EY.out]
      rintro e w2 ⟨rfl, hb⟩
      have hz := hb.size
      try go_simp
      refine hK _ G _ (by kernel_rfl) ?_
      exact ⟨bt (hJ.1) hb,
        Nat.lt_of_lt_of_le (hJ.2.1) hb.size,
        Blk.keep ((hJ.2.2.1)) hb,
        Nat.lt_of_lt_of_le (hJ.2.2.2.1) hb.size,
        Blk.keep ((hJ.2.2.2.2.1)) hb,
        fun q => ⟨((hJ.2.2.2.2.2.1) (q.resolve_left (by decide))).1, by have := ((hJ.2.2.2.2.2.1) (q.resolve_left (by decide))).2.1; omega, ((hJ.2.2.2.2.2.1) (q.resolve_left (by decide))).2.2⟩,
        fun q n => Blk.keep ((hJ.2.2.2.2.2.2.1) (q.resolve_left (by decide)) (fun m => n (.inr m))) hb,
        fun q => Blk.keep ((hJ.2.2.2.2.2.2.2.1) (q.resolve_left (by decide))) hb,
        fun q => .inr ((hJ.2.2.2.2.2.2.2.2.1) (q.resolve_left (by decide))),
        fun q => (hJ.2.2.2.2.2.2.2.2.2.1) (q.resolve_left (by decide)),
        fun q => (hJ.2.2.2.2.2.2.2.2.2.2.1) (q.resolve_left (by decide)),
        fun q => (hJ.2.2.2.2.2.2.2.2.2.2.2.1) (q.resolve_left (by decide)),
        fun q => (hJ.2.2.2.2.2.2.2.2.2.2.2.2.1) (q.resolve_left (by decide)),
        fun q => (hJ.2.2.2.2.2.2.2.2.2.2.2.2.2.1) (q.resolve_left (by decide)),
        fun q => (hJ.2.2.2.2.2.2.2.2.2.2.2.2.2.2.1) (q.resolve_left (by decide)),
        fun q => (hJ.2.2.2.2.2.2.2.2.2.2.2.2.2.2.2.1) (q.resolve_left (by decide)),
        fun q => (hJ.2.2.2.2.2.2.2.2.2.2.2.2.2.2.2.2.1) (q.resolve_left (by decide)),
        fun q => (hJ.2.2.2.2.2.2.2.2.2.2.2.2.2.2.2.2.2.1) (q.resolve_left (by decide)),
        fun q => (hJ.2.2.2.2.2.2.2.2.2.2.2.2.2.2.2.2.2.2.1) (q.resolve_left (by decide)),
        fun _ => by first | exact rfl | exact e10,
        fun q => (hJ.2.2.2.2.2.2.2.2.2.2.2.2.2.2.2.2.2.2.2.2.1) (q.resolve_left (by decide)),
        fun _ => by first | exact rfl | exact e12,
        fun q => (hJ.2.2.2.2.2.2.2.2.2.2.2.2.2.2.2.2.2.2.2.2.2.2.1) (q.resolve_left (by decide)),
        fun _ => by first | exact rfl | exact e14,
        fun q => (hJ.2.2.2.2.2.2.2.2.2.2.2.2.2.2.2.2.2.2.2.2.2.2.2.2.1) (q.resolve_left (by decide)),
        fun _ => by first | exact rfl | exact e16,
        fun _ => rfl,
        fun q => (hJ.2.2.2.2.2.2.2.2.2.2.2.2.2.2.2.2.2.2.2.2.2.2.2.2.2.2.2.1) (q.resolve_left (by decide)),
        fun q => (hJ.2.2.2.2.2.2.2.2.2.2.2.2.2.2.2.2.2.2.2.2.2.2.2.2.2.2.2.2.1) (q.resolve_left (by decide)),
        fun q => (hJ.2.2.2.2.2.2.2.2.2.2.2.2.2.2.2.2.2.2.2.2.2.2.2.2.2.2.2.2.2.1) (q.resolve_left (by decide)),
        fun q => (hJ.2.2.2.2.2.2.2.2.2.2.2.2.2.2.2.2.2.2.2.2.2.2.2.2.2.2.2.2.2.2.1) (q.resolve_left (by decide)),
        fun q => (hJ.2.2.2.2.2.2.2.2.2.2.2.2.2.2.2.2.2.2.2.2.2.2.2.2.2.2.2.2.2.2.2.1) (q.resolve_left (by decide)),
        fun q => (hJ.2.2.2.2.2.2.2.2.2.2.2.2.2.2.2.2.2.2.2.2.2.2.2.2.2.2.2.2.2.2.2.2.1) (q.resolve_left (by decide)),
        fun q => (hJ.2.2.2.2.2.2.2.2.2.2.2.2.2.2.2.2.2.2.2.2.2.2.2.2.2.2.2.2.2.2.2.2.2.1) (q.resolve_left (by decide)),
        fun q => (hJ.2.2.2.2.2.2.2.2.2.2.2.2.2.2.2.2.2.2.2.2.2.2.2.2.2.2.2.2.2.2.2.2.2.2.1) (q.resolve_left (by decide)),
        fun q => (hJ.2.2.2.2.2.2.2.2.2.2.2.2.2.2.2.2.2.2.2.2.2.2.2.2.2.2.2.2.2.2.2.2.2.2.2.1) (q.resolve_left (by decide)),
        fun q => (hJ.2.2.2.2.2.2.2.2.2.2.2.2.2.2.2.2.2.2.2.2.2.2.2.2.2.2.2.2.2.2.2.2.2.2.2.2.1) (q.resolve_left (by decide)),
        fun q => (hJ.2.2.2.2.2.2.2.2.2.2.2.2.2.2.2.2.2.2.2.2.2.2.2.2.2.2.2.2.2.2.2.2.2.2.2.2.2.1) (q.resolve_left (by decide)),
        fun q => (hJ.2.2.2.2.2.2.2.2.2.2.2.2.2.2.2.2.2.2.2.2.2.2.2.2.2.2.2.2.2.2.2.2.2.2.2.2.2.2.1) (q.resolve_left (by decide)),
        fun q => (hJ.2.2.2.2.2.2.2.2.2.2.2.2.2.2.2.2.2.2.2.2.2.2.2.2.2.2.2.2.2.2.2.2.2.2.2.2.2.2.2) (q.resolve_left (by decide))⟩
    refine StepsOk.cons (i := 18) rfl (fun L x G w1 K Q hn hp hJ hK => ?_) ?_
    · skip
      simp only [putAll, Act.put, List.setIfInBounds_toArray, List.set_cons_zero, List.set_cons_succ]
      go_simp
      refine hK _ G _ (by kernel_rfl) ?_
      exact ⟨(hJ.1),
        (hJ.2.1),
        (hJ.2.2.1),
        (hJ.2.2.2.1),
        (hJ.2.2.2.2.1),
        fun q => (hJ.2.2.2.2.2.1) (q.resolve_left (by decide)),
        fun q n => (hJ.2.2.2.2.2.2.1) (q.resolve_left (by decide)) (fun m => n (.inr m)),
        fun q => (hJ.2.2.2.2.2.2.2.1) (q.resolve_left (by decide)),
        fun q => .inr ((hJ.2.2.2.2.2.2.2.2.1) (q.resolve_left (by decide))),
        fun q => (hJ.2.2.2.2.2.2.2.2.2.1) (q.resolve_left (by decide)),
        fun q => (hJ.2.2.2.2.2.2.2.2.2.2.1) (q.resolve_left (by decide)),
        fun q => (hJ.2.2.2.2.2.2.2.2.2.2.2.1) (q.resolve_left (by decide)),
        fun q => (hJ.2.2.2.2.2.2.2.2.2.2.2.2.1) (q.resolve_left (by decide)),
        fun q => (hJ.2.2.2.2.2.2.2.2.2.2.2.2.2.1) (q.resolve_left (by decide)),
        fun q => (hJ.2.2.2.2.2.2.2.2.2.2.2.2.2.2.1) (q.resolve_left (by decide)),
        fun q => (hJ.2.2.2.2.2.2.2.2.2.2.2.2.2.2.2.1) (q.resolve_left (by decide)),
        fun q => (hJ.2.2.2.2.2.2.2.2.2.2.2.2.2.2.2.2.1) (q.resolve_left (by decide)),
        fun q => (hJ.2.2.2.2.2.2.2.2.2.2.2.2.2.2.2.2.2.1) (q.resolve_left (by decide)),
        fun q => (hJ.2.2.2.2.2.2.2.2.2.2.2.2.2.2.2.2.2.2.1) (q.resolve_left (by decide)),
        fun q => (hJ.2.2.2.2.2.2.2.2.2.2.2.2.2.2.2.2.2.2.2.1) (q.resolve_left (by decide)),
        fun q => (hJ.2.2.2.2.2.2.2.2.2.2.2.2.2.2.2.2.2.2.2.2.1) (q.resolve_left (by decide)),
        fun q => (hJ.2.2.2.2.2.2.2.2.2.2.2.2.2.2.2.2.2.2.2.2.2.1) (q.resolve_left (by decide)),
        fun q => (hJ.2.2.2.2.2.2.2.2.2.2.2.2.2.2.2.2.2.2.2.2.2.2.1) (q.resolve_left (by decide)),
        fun q => (hJ.2.2.2.2.2.2.2.2.2.2.2.2.2.2.2.2.2.2.2.2.2.2.2.1) (q.resolve_left (by decide)),
        fun q => (hJ.2.2.2.2.2.2.2.2.2.2.2.2.2.2.2.2.2.2.2.2.2.2.2.2.1) (q.resolve_left (by decide)),
        fun q => (hJ.2.2.2.2.2.2.2.2.2.2.2.2.2.2.2.2.2.2.2.2.2.2.2.2.2.1) (q.resolve_left (by decide)),
        fun q => (hJ.2.2.2.2.2.2.2.2.2.2.2.2.2.2.2.2.2.2.2.2.2.2.2.2.2.2.1) (q.resolve_left (by decide)),
        fun _ => rfl,
        fun q => (hJ.2.2.2.2.2.2.2.2.2.2.2.2.2.2.2.2.2.2.2.2.2.2.2.2.2.2.2.2.1) (q.resolve_left (by decide)),
        fun q => (hJ.2.2.2.2.2.2.2.2.2.2.2.2.2.2.2.2.2.2.2.2.2.2.2.2.2.2.2.2.2.1) (q.resolve_left (by decide)),
        fun q => (hJ.2.2.2.2.2.2.2.2.2.2.2.2.2.2.2.2.2.2.2.2.2.2.2.2.2.2.2.2.2.2.1) (q.resolve_left (by decide)),
        fun q => (hJ.2.2.2.2.2.2.2.2.2.2.2.2.2.2.2.2.2.2.2.2.2.2.2.2.2.2.2.2.2.2.2.1) (q.resolve_left (by decide)),
        fun q => (hJ.2.2.2.2.2.2.2.2.2.2.2.2.2.2.2.2.2.2.2.2.2.2.2.2.2.2.2.2.2.2.2.2.1) (q.resolve_left (by decide)),
        fun q => (hJ.2.2.2.2.2.2.2.2.2.2.2.2.2.2.2.2.2.2.2.2.2.2.2.2.2.2.2.2.2.2.2.2.2.1) (q.resolve_left (by decide)),
        fun q => (hJ.2.2.2.2.2.2.2.2.2.2.2.2.2.2.2.2.2.2.2.2.2.2.2.2.2.2.2.2.2.2.2.2.2.2.1) (q.resolve_left (by decide)),
        fun q => (hJ.2.2.2.2.2.2.2.2.2.2.2.2.2.2.2.2.2.2.2.2.2.2.2.2.2.2.2.2.2.2.2.2.2.2.2.1) (q.resolve_left (by decide)),
        fun q => (hJ.2.2.2.2.2.2.2.2.2.2.2.2.2.2.2.2.2.2.2.2.2.2.2.2.2.2.2.2.2.2.2.2.2.2.2.2.1) (q.resolve_left (by decide)),
        fun q => (hJ.2.2.2.2.2.2.2.2.2.2.2.2.2.2.2.2.2.2.2.2.2.2.2.2.2.2.2.2.2.2.2.2.2.2.2.2.2.1) (q.resolve_left (by decide)),
        fun q => (hJ.2.2.2.2.2.2.2.2.2.2.2.2.2.2.2.2.2.2.2.2.2.2.2.2.2.2.2.2.2.2.2.2.2.2.2.2.2.2.1) (q.resolve_left (by decide)),
        fun q => (hJ.2.2.2.2.2.2.2.2.2.2.2.2.2.2.2.2.2.2.2.2.2.2.2.2.2.2.2.2.2.2.2.2.2.2.2.2.2.2.2) (q.resolve_left (by decide))⟩
    refine StepsOk.cons (i := 19) rfl (fun L x G w1 K Q hn hp hJ hK => ?_) ?_
    · skip
      have p18 : L 18 := hp ⟨18, .data⟩ (by simp) rfl
      have e18 := (hJ.2.2.2.2.2.2.2.2.2.2.2.2.2.2.2.2.2.2.2.2.2.2.2.2.2.2.2.1) p18
      have hc := Blk.open5 ((hJ.2.2.2.2.1))
      have c0 := hc.1
      have c1 := hc.2.1
      have c2 := hc.2.2.1
      have c3 := hc.2.2.2.1
      have c4 := hc.2.2.2.2.1
      have c5 := hc.2.2.2.2.2.1
      have c6 := hc.2.2.2.2.2.2
      clear hc
      simp only [putAll, Act.put, List.setIfInBounds_toArray, List.set_cons_zero, List.set_cons_succ]
      go_simp
      refine hK _ G _ (by kernel_rfl) ?_
      exact ⟨(hJ.1),
        (hJ.2.1),
        (hJ.2.2.1),
        (hJ.2.2.2.1),
        (hJ.2.2.2.2.1),
        fun q => (hJ.2.2.2.2.2.1) (q.resolve_left (by decide)),
        fun q n => (hJ.2.2.2.2.2.2.1) (q.resolve_left (by decide)) (fun m => n (.inr m)),
        fun q => (hJ.2.2.2.2.2.2.2.1) (q.resolve_left (by decide)),
        fun q => .inr ((hJ.2.2.2.2.2.2.2.2.1) (q.resolve_left (by decide))),
        fun q => (hJ.2.2.2.2.2.2.2.2.2.1) (q.resolve_left (by decide)),
        fun q => (hJ.2.2.2.2.2.2.2.2.2.2.1) (q.resolve_left (by decide)),
        fun q => (hJ.2.2.2.2.2.2.2.2.2.2.2.1) (q.resolve_left (by decide)),
        fun q => (hJ.2.2.2.2.2.2.2.2.2.2.2.2.1) (q.resolve_left (by decide)),
        fun q => (hJ.2.2.2.2.2.2.2.2.2.2.2.2.2.1) (q.resolve_left (by decide)),
        fun q => (hJ.2.2.2.2.2.2.2.2.2.2.2.2.2.2.1) (q.resolve_left (by decide)),
        fun q => (hJ.2.2.2.2.2.2.2.2.2.2.2.2.2.2.2.1) (q.resolve_left (by decide)),
        fun q => (hJ.2.2.2.2.2.2.2.2.2.2.2.2.2.2.2.2.1) (q.resolve_left (by decide)),
        fun q => (hJ.2.2.2.2.2.2.2.2.2.2.2.2.2.2.2.2.2.1) (q.resolve_left (by decide)),
        fun q => (hJ.2.2.2.2.2.2.2.2.2.2.2.2.2.2.2.2.2.2.1) (q.resolve_left (by decide)),
        fun q => (hJ.2.2.2.2.2.2.2.2.2.2.2.2.2.2.2.2.2.2.2.1) (q.resolve_left (by decide)),
        fun q => (hJ.2.2.2.2.2.2.2.2.2.2.2.2.2.2.2.2.2.2.2.2.1) (q.resolve_left (by decide)),
        fun q => (hJ.2.2.2.2.2.2.2.2.2.2.2.2.2.2.2.2.2.2.2.2.2.1) (q.resolve_left (by decide)),
        fun q => (hJ.2.2.2.2.2.2.2.2.2.2.2.2.2.2.2.2.2.2.2.2.2.2.1) (q.resolve_left (by decide)),
        fun q => (hJ.2.2.2.2.2.2.2.2.2.2.2.2.2.2.2.2.2.2.2.2.2.2.2.1) (q.resolve_left (by decide)),
        fun q => (hJ.2.2.2.2.2.2.2.2.2.2.2.2.2.2.2.2.2.2.2.2.2.2.2.2.1) (q.resolve_left (by decide)),
        fun q => (hJ.2.2.2.2.2.2.2.2.2.2.2.2.2.2.2.2.2.2.2.2.2.2.2.2.2.1) (q.resolve_left (by decide)),
        fun q => (hJ.2.2.2.2.2.2.2.2.2.2.2.2.2.2.2.2.2.2.2.2.2.2.2.2.2.2.1) (q.resolve_left (by decide)),
        fun _ => by first | exact rfl | exact e18,
        fun _ => rfl,
        fun q => (hJ.2.2.2.2.2.2.2.2.2.2.2.2.2.2.2.2.2.2.2.2.2.2.2.2.2.2.2.2.2.1) (q.resolve_left (by decide)),
        fun q => (hJ.2.2.2.2.2.2.2.2.2.2.2.2.2.2.2.2.2.2.2.2.2.2.2.2.2.2.2.2.2.2.1) (q.resolve_left (by decide)),
        fun q => (hJ.2.2.2.2.2.2.2.2.2.2.2.2.2.2.2.2.2.2.2.2.2.2.2.2.2.2.2.2.2.2.2.1) (q.resolve_left (by decide)),
        fun q => (hJ.2.2.2.2.2.2.2.2.2.2.2.2.2.2.2.2.2.2.2.2.2.2.2.2.2.2.2.2.2.2.2.2.1) (q.resolve_left (by decide)),
        fun q => (hJ.2.2.2.2.2.2.2.2.2.2.2.2.2.2.2.2.2.2.2.2.2.2.2.2.2.2.2.2.2.2.2.2.2.1) (q.resolve_left (by decide)),
        fun q => (hJ.2.2.2.2.2.2.2.2.2.2.2.2.2.2.2.2.2.2.2.2.2.2.2.2.2.2.2.2.2.2.2.2.2.2.1) (q.resolve_left (by decide)),
        fun q => (hJ.2.2.2.2.2.2.2.2.2.2.2.2.2.2.2.2.2.2.2.2.2.2.2.2.2.2.2.2.2.2.2.2.2.2.2.1) (q.resolve_left (by decide)),
        fun q => (hJ.2.2.2.2.2.2.2.2.2.2.2.2.2.2.2.2.2.2.2.2.2.2.2.2.2.2.2.2.2.2.2.2.2.2.2.2.1) (q.resolve_left (by decide)),
        fun q => (hJ.2.2.2.2.2.2.2.2.2.2.2.2.2.2.2.2.2.2.2.2.2.2.2.2.2.2.2.2.2.2.2.2.2.2.2.2.2.1) (q.resolve_left (by decide)),
        fun q => (hJ.2.2.2.2.2.2.2.2.2.2.2.2.2.2.2.2.2.2.2.2.2.2.2.2.2.2.2.2.2.2.2.2.2.2.2.2.2.2.1) (q.resolve_left (by decide)),
        fun q => (hJ.2.2.2.2.2.2.2.2.2.2.2.2.2.2.2.2.2.2.2.2.2.2.2.2.2.2.2.2.2.2.2.2.2.2.2.2.2.2.2) (q.resolve_left (by decide))⟩
    refine StepsOk.cons (i := 20) rfl (fun L x G w1 K Q hn hp hJ hK => ?_) ?_
    · skip
      simp only [putAll, Act.put, List.setIfInBounds_toArray, List.set_cons_zero, List.set_cons_succ]
      go_simp
      refine hK _ G _ (by kernel_rfl) ?_
      exact ⟨(hJ.1),
        (hJ.2.1),
        (hJ.2.2.1),
        (hJ.2.2.2.1),
        (hJ.2.2.2.2.1),
        fun q => (hJ.2.2.2.2.2.1) (q.resolve_left (by decide)),
        fun q n => (hJ.2.2.2.2.2.2.1) (q.resolve_left (by decide)) (fun m => n (.inr m)),
        fun q => (hJ.2.2.2.2.2.2.2.1) (q.resolve_left (by decide)),
        fun q => .inr ((hJ.2.2.2.2.2.2.2.2.1) (q.resolve_left (by decide))),
        fun q => (hJ.2.2.2.2.2.2.2.2.2.1) (q.resolve_left (by decide)),
        fun q => (hJ.2.2.2.2.2.2.2.2.2.2.1) (q.resolve_left (by decide)),
        fun q => (hJ.2.2.2.2.2.2.2.2.2.2.2.1) (q.resolve_left (by decide)),
        fun q => (hJ.2.2.2.2.2.2.2.2.2.2.2.2.1) (q.resolve_left (by decide)),
        fun q => (hJ.2.2.2.2.2.2.2.2.2.2.2.2.2.1) (q.resolve_left (by decide)),
        fun q => (hJ.2.2.2.2.2.2.2.2.2.2.2.2.2.2.1) (q.resolve_left (by decide)),
        fun q => (hJ.2.2.2.2.2.2.2.2.2.2.2.2.2.2.2.1) (q.resolve_left (by decide)),
        fun q => (hJ.2.2.2.2.2.2.2.2.2.2.2.2.2.2.2.2.1) (q.resolve_left (by decide)),
        fun q => (hJ.2.2.2.2.2.2.2.2.2.2.2.2.2.2.2.2.2.1) (q.resolve_left (by decide)),
        fun q => (hJ.2.2.2.2.2.2.2.2.2.2.2.2.2.2.2.2.2.2.1) (q.resolve_left (by decide)),
        fun q => (hJ.2.2.2.2.2.2.2.2.2.2.2.2.2.2.2.2.2.2.2.1) (q.resolve_left (by decide)),
        fun q => (hJ.2.2.2.2.2.2.2.2.2.2.2.2.2.2.2.2.2.2.2.2.1) (q.resolve_left (by decide)),
        fun q => (hJ.2.2.2.2.2.2.2.2.2.2.2.2.2.2.2.2.2.2.2.2.2.1) (q.resolve_left (by decide)),
        fun q => (hJ.2.2.2.2.2.2.2.2.2.2.2.2.2.2.2.2.2.2.2.2.2.2.1) (q.resolve_left (by decide)),
        fun q => (hJ.2.2.2.2.2.2.2.2.2.2.2.2.2.2.2.2.2.2.2.2.2.2.2.1) (q.resolve_left (by decide)),
        fun q => (hJ.2.2.2.2.2.2.2.2.2.2.2.2.2.2.2.2.2.2.2.2.2.2.2.2.1) (q.resolve_left (by decide)),
        fun q => (hJ.2.2.2.2.2.2.2.2.2.2.2.2.2.2.2.2.2.2.2.2.2.2.2.2.2.1) (q.resolve_left (by decide)),
        fun q => (hJ.2.2.2.2.2.2.2.2.2.2.2.2.2.2.2.2.2.2.2.2.2.2.2.2.2.2.1) (q.resolve_left (by decide)),
        fun q => (hJ.2.2.2.2.2.2.2.2.2.2.2.2.2.2.2.2.2.2.2.2.2.2.2.2.2.2.2.1) (q.resolve_left (by decide)),
        fun q => (hJ.2.2.2.2.2.2.2.2.2.2.2.2.2.2.2.2.2.2.2.2.2.2.2.2.2.2.2.2.1) (q.resolve_left (by decide)),
        fun _ => rfl,
        fun q => (hJ.2.2.2.2.2.2.2.2.2.2.2.2.2.2.2.2.2.2.2.2.2.2.2.2.2.2.2.2.2.2.1) (q.resolve_left (by decide)),
        fun q => (hJ.2.2.2.2.2.2.2.2.2.2.2.2.2.2.2.2.2.2.2.2.2.2.2.2.2.2.2.2.2.2.2.1) (q.resolve_left (by decide)),
        fun q => (hJ.2.2.2.2.2.2.2.2.2.2.2.2.2.2.2.2.2.2.2.2.2.2.2.2.2.2.2.2.2.2.2.2.1) (q.resolve_left (by decide)),
        fun q => (hJ.2.2.2.2.2.2.2.2.2.2.2.2.2.2.2.2.2.2.2.2.2.2.2.2.2.2.2.2.2.2.2.2.2.1) (q.resolve_left (by decide)),
        fun q => (hJ.2.2.2.2.2.2.2.2.2.2.2.2.2.2.2.2.2.2.2.2.2.2.2.2.2.2.2.2.2.2.2.2.2.2.1) (q.resolve_left (by decide)),
        fun q => (hJ.2.2.2.2.2.2.2.2.2.2.2.2.2.2.2.2.2.2.2.2.2.2.2.2.2.2.2.2.2.2.2.2.2.2.2.1) (q.resolve_left (by decide)),
        fun q => (hJ.2.2.2.2.2.2.2.2.2.2.2.2.2.2.2.2.2.2.2.2.2.2.2.2.2.2.2.2.2.2.2.2.2.2.2.2.1) (q.resolve_left (by decide)),
        fun q => (hJ.2.2.2.2.2.2.2.2.2.2.2.2.2.2.2.2.2.2.2.2.2.2.2.2.2.2.2.2.2.2.2.2.2.2.2.2.2.1) (q.resolve_left (by decide)),
        fun q => (hJ.2.2.2.2.2.2.2.2.2.2.2.2.2.2.2.2.2.2.2.2.2.2.2.2.2.2.2.2.2.2.2.2.2.2.2.2.2.2.1) (q.resolve_left (by decide)),
        fun q => (hJ.2.2.2.2.2.2.2.2.2.2.2.2.2.2.2.2.2.2.2.2.2.2.2.2.2.2.2.2.2.2.2.2.2.2.2.2.2.2.2) (q.resolve_left (by decide))⟩
    refine StepsOk.cons (i := 21) rfl (fun L x G w1 K Q hn hp hJ hK => ?_) ?_
    · skip
      have p20 : L 20 := hp ⟨20, .data⟩ (by simp) rfl
      have e20 := (hJ.2.2.2.2.2.2.2.2.2.2.2.2.2.2.2.2.2.2.2.2.2.2.2.2.2.2.2.2.2.1) p20
      have hc := Blk.open5 ((hJ.2.2.2.2.1))
      have c0 := hc.1
      have c1 := hc.2.1
      have c2 := hc.2.2.1
      have c3 := hc.2.2.2.1
      have c4 := hc.2.2.2.2.1
      have c5 := hc.2.2.2.2.2.1
      have c6 := hc.2.2.2.2.2.2
      clear hc
      simp only [putAll, Act.put, List.setIfInBounds_toArray, List.set_cons_zero, List.set_cons_succ]
      go_simp
      refine hK _ G _ (by kernel_rfl) ?_
      exact ⟨(hJ.1),
        (hJ.2.1),
        (hJ.2.2.1),
        (hJ.2.2.2.1),
        (hJ.2.2.2.2.1),
        fun q => (hJ.2.2.2.2.2.1) (q.resolve_left (by decide)),
        fun q n => (hJ.2.2.2.2.2.2.1) (q.resolve_left (by decide)) (fun m => n (.inr m)),
        fun q => (hJ.2.2.2.2.2.2.2.1) (q.resolve_left (by decide)),
        fun q => .inr ((hJ.2.2.2.2.2.2.2.2.1) (q.resolve_left (by decide))),
        fun q => (hJ.2.2.2.2.2.2.2.2.2.1) (q.resolve_left (by decide)),
        fun q => (hJ.2.2.2.2.2.2.2.2.2.2.1) (q.resolve_left (by decide)),
        fun q => (hJ.2.2.2.2.2.2.2.2.2.2.2.1) (q.resolve_left (by decide)),
        fun q => (hJ.2.2.2.2.2.2.2.2.2.2.2.2.1) (q.resolve_left (by decide)),
        fun q => (hJ.2.2.2.2.2.2.2.2.2.2.2.2.2.1) (q.resolve_left (by decide)),
        fun q => (hJ.2.2.2.2.2.2.2.2.2.2.2.2.2.2.1) (q.resolve_left (by decide)),
        fun q => (hJ.2.2.2.2.2.2.2.2.2.2.2.2.2.2.2.1) (q.resolve_left (by decide)),
        fun q => (hJ.2.2.2.2.2.2.2.2.2.2.2.2.2.2.2.2.1) (q.resolve_left (by decide)),
        fun q => (hJ.2.2.2.2.2.2.2.2.2.2.2.2.2.2.2.2.2.1) (q.resolve_left (by decide)),
        fun q => (hJ.2.2.2.2.2.2.2.2.2.2.2.2.2.2.2.2.2.2.1) (q.resolve_left (by decide)),
        fun q => (hJ.2.2.2.2.2.2.2.2.2.2.2.2.2.2.2.2.2.2.2.1) (q.resolve_left (by decide)),
        fun q => (hJ.2.2.2.2.2.2.2.2.2.2.2.2.2.2.2.2.2.2.2.2.1) (q.resolve_left (by decide)),
        fun q => (hJ.2.2.2.2.2.2.2.2.2.2.2.2.2.2.2.2.2.2.2.2.2.1) (q.resolve_left (by decide)),
        fun q => (hJ.2.2.2.2.2.2.2.2.2.2.2.2.2.2.2.2.2.2.2.2.2.2.1) (q.resolve_left (by decide)),
        fun q => (hJ.2.2.2.2.2.2.2.2.2.2.2.2.2.2.2.2.2.2.2.2.2.2.2.1) (q.resolve_left (by decide)),
        fun q => (hJ.2.2.2.2.2.2.2.2.2.2.2.2.2.2.2.2.2.2.2.2.2.2.2.2.1) (q.resolve_left (by decide)),
        fun q => (hJ.2.2.2.2.2.2.2.2.2.2.2.2.2.2.2.2.2.2.2.2.2.2.2.2.2.1) (q.resolve_left (by decide)),
        fun q => (hJ.2.2.2.2.2.2.2.2.2.2.2.2.2.2.2.2.2.2.2.2.2.2.2.2.2.2.1) (q.resolve_left (by decide)),
        fun q => (hJ.2.2.2.2.2.2.2.2.2.2.2.2.2.2.2.2.2.2.2.2.2.2.2.2.2.2.2.1) (q.resolve_left (by decide)),
        fun q => (hJ.2.2.2.2.2.2.2.2.2.2.2.2.2.2.2.2.2.2.2.2.2.2.2.2.2.2.2.2.1) (q.resolve_left (by decide)),
        fun _ => by first | exact rfl | exact e20,
        fun _ => rfl,
        fun q => (hJ.2.2.2.2.2.2.2.2.2.2.2.2.2.2.2.2.2.2.2.2.2.2.2.2.2.2.2.2.2.2.2.1) (q.resolve_left (by decide)),
        fun q => (hJ.2.2.2.2.2.2.2.2.2.2.2.2.2.2.2.2.2.2.2.2.2.2.2.2.2.2.2.2.2.2.2.2.1) (q.resolve_left (by decide)),
        fun q => (hJ.2.2.2.2.2.2.2.2.2.2.2.2.2.2.2.2.2.2.2.2.2.2.2.2.2.2.2.2.2.2.2.2.2.1) (q.resolve_left (by decide)),
        fun q => (hJ.2.2.2.2.2.2.2.2.2.2.2.2.2.2.2.2.2.2.2.2.2.2.2.2.2.2.2.2.2.2.2.2.2.2.1) (q.resolve_left (by decide)),
        fun q => (hJ.2.2.2.2.2.2.2.2.2.2.2.2.2.2.2.2.2.2.2.2.2.2.2.2.2.2.2.2.2.2.2.2.2.2.2.1) (q.resolve_left (by decide)),
        fun q => (hJ.2.2.2.2.2.2.2.2.2.2.2.2.2.2.2.2.2.2.2.2.2.2.2.2.2.2.2.2.2.2.2.2.2.2.2.2.1) (q.resolve_left (by decide)),
        fun q => (hJ.2.2.2.2.2.2.2.2.2.2.2.2.2.2.2.2.2.2.2.2.2.2.2.2.2.2.2.2.2.2.2.2.2.2.2.2.2.1) (q.resolve_left (by decide)),
        fun q => (hJ.2.2.2.2.2.2.2.2.2.2.2.2.2.2.2.2.2.2.2.2.2.2.2.2.2.2.2.2.2.2.2.2.2.2.2.2.2.2.1) (q.resolve_left (by decide)),
        fun q => (hJ.2.2.2.2.2.2.2.2.2.2.2.2.2.2.2.2.2.2.2.2.2.2.2.2.2.2.2.2.2.2.2.2.2.2.2.2.2.2.2) (q.resolve_left (by decide))⟩
    refine StepsOk.cons (i := 22) rfl (fun L x G w1 K Q hn hp hJ hK => ?_) ?_
    · skip
      have p19 : L 19 := hp ⟨19, .data⟩ (by simp) rfl
      have e19 := (hJ.2.2.2.2.2.2.2.2.2.2.2.2.2.2.2.2.2.2.2.2.2.2.2.2.2.2.2.2.1) p19
      have p21 : L 21 := hp ⟨21, .data⟩ (by simp) rfl
      have e21 := (hJ.2.2.2.2.2.2.2.2.2.2.2.2.2.2.2.2.2.2.2.2.2.2.2.2.2.2.2.2.2.2.1) p21
      simp only [putAll, Act.put, List.setIfInBounds_toArray, List.set_cons_zero, List.set_cons_succ]
      go_simp
      refine hK _ G _ (by kernel_rfl) ?_
      exact ⟨(hJ.1),
        (hJ.2.1),
        (hJ.2.2.1),
        (hJ.2.2.2.1),
        (hJ.2.2.2.2.1),
        fun q => (hJ.2.2.2.2.2.1) (q.resolve_left (by decide)),
        fun q n => (hJ.2.2.2.2.2.2.1) (q.resolve_left (by decide)) (fun m => n (.inr m)),
        fun q => (hJ.2.2.2.2.2.2.2.1) (q.resolve_left (by decide)),
        fun q => .inr ((hJ.2.2.2.2.2.2.2.2.1) (q.resolve_left (by decide))),
        fun q => (hJ.2.2.2.2.2.2.2.2.2.1) (q.resolve_left (by decide)),
        fun q => (hJ.2.2.2.2.2.2.2.2.2.2.1) (q.resolve_left (by decide)),
        fun q => (hJ.2.2.2.2.2.2.2.2.2.2.2.1) (q.resolve_left (by decide)),
        fun q => (hJ.2.2.2.2.2.2.2.2.2.2.2.2.1) (q.resolve_left (by decide)),
        fun q => (hJ.2.2.2.2.2.2.2.2.2.2.2.2.2.1) (q.resolve_left (by decide)),
        fun q => (hJ.2.2.2.2.2.2.2.2.2.2.2.2.2.2.1) (q.resolve_left (by decide)),
        fun q => (hJ.2.2.2.2.2.2.2.2.2.2.2.2.2.2.2.1) (q.resolve_left (by decide)),
        fun q => (hJ.2.2.2.2.2.2.2.2.2.2.2.2.2.2.2.2.1) (q.resolve_left (by decide)),
        fun q => (hJ.2.2.2.2.2.2.2.2.2.2.2.2.2.2.2.2.2.1) (q.resolve_left (by decide)),
        fun q => (hJ.2.2.2.2.2.2.2.2.2.2.2.2.2.2.2.2.2.2.1) (q.resolve_left (by decide)),
        fun q => (hJ.2.2.2.2.2.2.2.2.2.2.2.2.2.2.2.2.2.2.2.1) (q.resolve_left (by decide)),
        fun q => (hJ.2.2.2.2.2.2.2.2.2.2.2.2.2.2.2.2.2.2.2.2.1) (q.resolve_left (by decide)),
        fun q => (hJ.2.2.2.2.2.2.2.2.2.2.2.2.2.2.2.2.2.2.2.2.2.1) (q.resolve_left (by decide)),
        fun q => (hJ.2.2.2.2.2.2.2.2.2.2.2.2.2.2.2.2.2.2.2.2.2.2.1) (q.resolve_left (by decide)),
        fun q => (hJ.2.2.2.2.2.2.2.2.2.2.2.2.2.2.2.2.2.2.2.2.2.2.2.1) (q.resolve_left (by decide)),
        fun q => (hJ.2.2.2.2.2.2.2.2.2.2.2.2.2.2.2.2.2.2.2.2.2.2.2.2.1) (q.resolve_left (by decide)),
        fun q => (hJ.2.2.2.2.2.2.2.2.2.2.2.2.2.2.2.2.2.2.2.2.2.2.2.2.2.1) (q.resolve_left (by decide)),
        fun q => (hJ.2.2.2.2.2.2.2.2.2.2.2.2.2.2.2.2.2.2.2.2.2.2.2.2.2.2.1) (q.resolve_left (by decide)),
        fun q => (hJ.2.2.2.2.2.2.2.2.2.2.2.2.2.2.2.2.2.2.2.2.2.2.2.2.2.2.2.1) (q.resolve_left (by decide)),
        fun _ => by first | exact rfl | exact e19,
        fun q => (hJ.2.2.2.2.2.2.2.2.2.2.2.2.2.2.2.2.2.2.2.2.2.2.2.2.2.2.2.2.2.1) (q.resolve_left (by decide)),
        fun _ => by first | exact rfl | exact e21,
        fun _ => rfl,
        fun q => (hJ.2.2.2.2.2.2.2.2.2.2.2.2.2.2.2.2.2.2.2.2.2.2.2.2.2.2.2.2.2.2.2.2.1) (q.resolve_left (by decide)),
        fun q => (hJ.2.2.2.2.2.2.2.2.2.2.2.2.2.2.2.2.2.2.2.2.2.2.2.2.2.2.2.2.2.2.2.2.2.1) (q.resolve_left (by decide)),
        fun q => (hJ.2.2.2.2.2.2.2.2.2.2.2.2.2.2.2.2.2.2.2.2.2.2.2.2.2.2.2.2.2.2.2.2.2.2.1) (q.resolve_left (by decide)),
        fun q => (hJ.2.2.2.2.2.2.2.2.2.2.2.2.2.2.2.2.2.2.2.2.2.2.2.2.2.2.2.2.2.2.2.2.2.2.2.1) (q.resolve_left (by decide)),
        fun q => (hJ.2.2.2.2.2.2.2.2.2.2.2.2.2.2.2.2.2.2.2.2.2.2.2.2.2.2.2.2.2.2.2.2.2.2.2.2.1) (q.resolve_left (by decide)),
        fun q => (hJ.2.2.2.2.2.2.2.2.2.2.2.2.2.2.2.2.2.2.2.2.2.2.2.2.2.2.2.2.2.2.2.2.2.2.2.2.2.1) (q.resolve_left (by decide)),
        fun q => (hJ.2.2.2.2.2.2.2.2.2.2.2.2.2.2.2.2.2.2.2.2.2.2.2.2.2.2.2.2.2.2.2.2.2.2.2.2.2.2.1) (q.resolve_left (by decide)),
        fun q => (hJ.2.2.2.2.2.2.2.2.2.2.2.2.2.2.2.2.2.2.2.2.2.2.2.2.2.2.2.2.2.2.2.2.2.2.2.2.2.2.2) (q.resolve_left (by decide))⟩
    refine StepsOk.cons (i := 23) rfl (fun L x G w1 K Q hn hp hJ hK => ?_) ?_
    · skip
      simp only [putAll, Act.put, List.setIfInBounds_toArray, List.set_cons_zero, List.set_cons_succ]
      go_simp
      refine hK _ G _ (by kernel_rfl) ?_
      exact ⟨(hJ.1),
        (hJ.2.1),
        (hJ.2.2.1),
        (hJ.2.2.2.1),
        (hJ.2.2.2.2.1),
        fun q => (hJ.2.2.2.2.2.1) (q.resolve_left (by decide)),
        fun q n => (hJ.2.2.2.2.2.2.1) (q.resolve_left (by decide)) (fun m => n (.inr m)),
        fun q => (hJ.2.2.2.2.2.2.2.1) (q.resolve_left (by decide)),
        fun q => .inr ((hJ.2.2.2.2.2.2.2.2.1) (q.resolve_left (by decide))),
        fun q => (hJ.2.2.2.2.2.2.2.2.2.1) (q.resolve_left (by decide)),
        fun q => (hJ.2.2.2.2.2.2.2.2.2.2.1) (q.resolve_left (by decide)),
        fun q => (hJ.2.2.2.2.2.2.2.2.2.2.2.1) (q.resolve_left (by decide)),
        fun q => (hJ.2.2.2.2.2.2.2.2.2.2.2.2.1) (q.resolve_left (by decide)),
        fun q => (hJ.2.2.2.2.2.2.2.2.2.2.2.2.2.1) (q.resolve_left (by decide)),
        fun q => (hJ.2.2.2.2.2.2.2.2.2.2.2.2.2.2.1) (q.resolve_left (by decide)),
        fun q => (hJ.2.2.2.2.2.2.2.2.2.2.2.2.2.2.2.1) (q.resolve_left (by decide)),
        fun q => (hJ.2.2.2.2.2.2.2.2.2.2.2.2.2.2.2.2.1) (q.resolve_left (by decide)),
        fun q => (hJ.2.2.2.2.2.2.2.2.2.2.2.2.2.2.2.2.2.1) (q.resolve_left (by decide)),
        fun q => (hJ.2.2.2.2.2.2.2.2.2.2.2.2.2.2.2.2.2.2.1) (q.resolve_left (by decide)),
        fun q => (hJ.2.2.2.2.2.2.2.2.2.2.2.2.2.2.2.2.2.2.2.1) (q.resolve_left (by decide)),
        fun q => (hJ.2.2.2.2.2.2.2.2.2.2.2.2.2.2.2.2.2.2.2.2.1) (q.resolve_left (by decide)),
        fun q => (hJ.2.2.2.2.2.2.2.2.2.2.2.2.2.2.2.2.2.2.2.2.2.1) (q.resolve_left (by decide)),
        fun q => (hJ.2.2.2.2.2.2.2.2.2.2.2.2.2.2.2.2.2.2.2.2.2.2.1) (q.resolve_left (by decide)),
        fun q => (hJ.2.2.2.2.2.2.2.2.2.2.2.2.2.2.2.2.2.2.2.2.2.2.2.1) (q.resolve_left (by decide)),
        fun q => (hJ.2.2.2.2.2.2.2.2.2.2.2.2.2.2.2.2.2.2.2.2.2.2.2.2.1) (q.resolve_left (by decide)),
        fun q => (hJ.2.2.2.2.2.2.2.2.2.2.2.2.2.2.2.2.2.2.2.2.2.2.2.2.2.1) (q.resolve_left (by decide)),
        fun q => (hJ.2.2.2.2.2.2.2.2.2.2.2.2.2.2.2.2.2.2.2.2.2.2.2.2.2.2.1) (q.resolve_left (by decide)),
        fun q => (hJ.2.2.2.2.2.2.2.2.2.2.2.2.2.2.2.2.2.2.2.2.2.2.2.2.2.2.2.1) (q.resolve_left (by decide)),
        fun q => (hJ.2.2.2.2.2.2.2.2.2.2.2.2.2.2.2.2.2.2.2.2.2.2.2.2.2.2.2.2.1) (q.resolve_left (by decide)),
        fun q => (hJ.2.2.2.2.2.2.2.2.2.2.2.2.2.2.2.2.2.2.2.2.2.2.2.2.2.2.2.2.2.1) (q.resolve_left (by decide)),
        fun q => (hJ.2.2.2.2.2.2.2.2.2.2.2.2.2.2.2.2.2.2.2.2.2.2.2.2.2.2.2.2.2.2.1) (q.resolve_left (by decide)),
        fun q => (hJ.2.2.2.2.2.2.2.2.2.2.2.2.2.2.2.2.2.2.2.2.2.2.2.2.2.2.2.2.2.2.2.1) (q.resolve_left (by decide)),
        fun _ => rfl,
        fun q => (hJ.2.2.2.2.2.2.2.2.2.2.2.2.2.2.2.2.2.2.2.2.2.2.2.2.2.2.2.2.2.2.2.2.2.1) (q.resolve_left (by decide)),
        fun q => (hJ.2.2.2.2.2.2.2.2.2.2.2.2.2.2.2.2.2.2.2.2.2.2.2.2.2.2.2.2.2.2.2.2.2.2.1) (q.resolve_left (by decide)),
        fun q => (hJ.2.2.2.2.2.2.2.2.2.2.2.2.2.2.2.2.2.2.2.2.2.2.2.2.2.2.2.2.2.2.2.2.2.2.2.1) (q.resolve_left (by decide)),
        fun q => (hJ.2.2.2.2.2.2.2.2.2.2.2.2.2.2.2.2.2.2.2.2.2.2.2.2.2.2.2.2.2.2.2.2.2.2.2.2.1) (q.resolve_left (by decide)),
        fun q => (hJ.2.2.2.2.2.2.2.2.2.2.2.2.2.2.2.2.2.2.2.2.2.2.2.2.2.2.2.2.2.2.2.2.2.2.2.2.2.1) (q.resolve_left (by decide)),
        fun q => (hJ.2.2.2.2.2.2.2.2.2.2.2.2.2.2.2.2.2.2.2.2.2.2.2.2.2.2.2.2.2.2.2.2.2.2.2.2.2.2.1) (q.resolve_left (by decide)),
        fun q => (hJ.2.2.2.2.2.2.2.2.2.2.2.2.2.2.2.2.2.2.2.2.2.2.2.2.2.2.2.2.2.2.2.2.2.2.2.2.2.2.2) (q.resolve_left (by decide))⟩
    refine StepsOk.cons (i := 24) rfl (fun L x G w1 K Q hn hp hJ hK => ?_) ?_
    · skip
      have p23 : L 23 := hp ⟨23, .data⟩ (by simp) rfl
      have e23 := (hJ.2.2.2.2.2.2.2.2.2.2.2.2.2.2.2.2.2.2.2.2.2.2.2.2.2.2.2.2.2.2.2.2.1) p23
      have hc := Blk.open5 ((hJ.2.2.2.2.1))
      have c0 := hc.1
      have c1 := hc.2.1
      have c2 := hc.2.2.1
      have c3 := hc.2.2.2.1
      have c4 := hc.2.2.2.2.1
      have c5 := hc.2.2.2.2.2.1
      have c6 := hc.2.2.2.2.2.2
      clear hc
      simp only [putAll, Act.put, List.setIfInBounds_toArray, List.set_cons_zero, List.set_cons_succ]
      go_simp
      refine hK _ G _ (by kernel_rfl) ?_
      exact ⟨(hJ.1),
        (hJ.2.1),
        (hJ.2.2.1),
        (hJ.2.2.2.1),
        (hJ.2.2.2.2.1),
        fun q => (hJ.2.2.2.2.2.1) (q.resolve_left (by decide)),
        fun q n => (hJ.2.2.2.2.2.2.1) (q.resolve_left (by decide)) (fun m => n (.inr m)),
        fun q => (hJ.2.2.2.2.2.2.2.1) (q.resolve_left (by decide)),
        fun q => .inr ((hJ.2.2.2.2.2.2.2.2.1) (q.resolve_left (by decide))),
        fun q => (hJ.2.2.2.2.2.2.2.2.2.1) (q.resolve_left (by decide)),
        fun q => (hJ.2.2.2.2.2.2.2.2.2.2.1) (q.resolve_left (by decide)),
        fun q => (hJ.2.2.2.2.2.2.2.2.2.2.2.1) (q.resolve_left (by decide)),
        fun q => (hJ.2.2.2.2.2.2.2.2.2.2.2.2.1) (q.resolve_left (by decide)),
        fun q => (hJ.2.2.2.2.2.2.2.2.2.2.2.2.2.1) (q.resolve_left (by decide)),
        fun q => (hJ.2.2.2.2.2.2.2.2.2.2.2.2.2.2.1) (q.resolve_left (by decide)),
        fun q => (hJ.2.2.2.2.2.2.2.2.2.2.2.2.2.2.2.1) (q.resolve_left (by decide)),
        fun q => (hJ.2.2.2.2.2.2.2.2.2.2.2.2.2.2.2.2.1) (q.resolve_left (by decide)),
        fun q => (hJ.2.2.2.2.2.2.2.2.2.2.2.2.2.2.2.2.2.1) (q.resolve_left (by decide)),
        fun q => (hJ.2.2.2.2.2.2.2.2.2.2.2.2.2.2.2.2.2.2.1) (q.resolve_left (by decide)),
        fun q => (hJ.2.2.2.2.2.2.2.2.2.2.2.2.2.2.2.2.2.2.2.1) (q.resolve_left (by decide)),
        fun q => (hJ.2.2.2.2.2.2.2.2.2.2.2.2.2.2.2.2.2.2.2.2.1) (q.resolve_left (by decide)),
        fun q => (hJ.2.2.2.2.2.2.2.2.2.2.2.2.2.2.2.2.2.2.2.2.2.1) (q.resolve_left (by decide)),
        fun q => (hJ.2.2.2.2.2.2.2.2.2.2.2.2.2.2.2.2.2.2.2.2.2.2.1) (q.resolve_left (by decide)),
        fun q => (hJ.2.2.2.2.2.2.2.2.2.2.2.2.2.2.2.2.2.2.2.2.2.2.2.1) (q.resolve_left (by decide)),
        fun q => (hJ.2.2.2.2.2.2.2.2.2.2.2.2.2.2.2.2.2.2.2.2.2.2.2.2.1) (q.resolve_left (by decide)),
        fun q => (hJ.2.2.2.2.2.2.2.2.2.2.2.2.2.2.2.2.2.2.2.2.2.2.2.2.2.1) (q.resolve_left (by decide)),
        fun q => (hJ.2.2.2.2.2.2.2.2.2.2.2.2.2.2.2.2.2.2.2.2.2.2.2.2.2.2.1) (q.resolve_left (by decide)),
        fun q => (hJ.2.2.2.2.2.2.2.2.2.2.2.2.2.2.2.2.2.2.2.2.2.2.2.2.2.2.2.1) (q.resolve_left (by decide)),
        fun q => (hJ.2.2.2.2.2.2.2.2.2.2.2.2.2.2.2.2.2.2.2.2.2.2.2.2.2.2.2.2.1) (q.resolve_left (by decide)),
        fun q => (hJ.2.2.2.2.2.2.2.2.2.2.2.2.2.2.2.2.2.2.2.2.2.2.2.2.2.2.2.2.2.1) (q.resolve_left (by decide)),
        fun q => (hJ.2.2.2.2.2.2.2.2.2.2.2.2.2.2.2.2.2.2.2.2.2.2.2.2.2.2.2.2.2.2.1) (q.resolve_left (by decide)),
        fun q => (hJ.2.2.2.2.2.2.2.2.2.2.2.2.2.2.2.2.2.2.2.2.2.2.2.2.2.2.2.2.2.2.2.1) (q.resolve_left (by decide)),
        fun _ => by first | exact rfl | exact e23,
        fun _ => rfl,
        fun q => (hJ.2.2.2.2.2.2.2.2.2.2.2.2.2.2.2.2.2.2.2.2.2.2.2.2.2.2.2.2.2.2.2.2.2.2.1) (q.resolve_left (by decide)),
        fun q => (hJ.2.2.2.2.2.2.2.2.2.2.2.2.2.2.2.2.2.2.2.2.2.2.2.2.2.2.2.2.2.2.2.2.2.2.2.1) (q.resolve_left (by decide)),
        fun q => (hJ.2.2.2.2.2.2.2.2.2.2.2.2.2.2.2.2.2.2.2.2.2.2.2.2.2.2.2.2.2.2.2.2.2.2.2.2.1) (q.resolve_left (by decide)),
        fun q => (hJ.2.2.2.2.2.2.2.2.2.2.2.2.2.2.2.2.2.2.2.2.2.2.2.2.2.2.2.2.2.2.2.2.2.2.2.2.2.1) (q.resolve_left (by decide)),
        fun q => (hJ.2.2.2.2.2.2.2.2.2.2.2.2.2.2.2.2.2.2.2.2.2.2.2.2.2.2.2.2.2.2.2.2.2.2.2.2.2.2.1) (q.resolve_left (by decide)),
        fun q => (hJ.2.2.2.2.2.2.2.2.2.2.2.2.2.2.2.2.2.2.2.2.2.2.2.2.2.2.2.2.2.2.2.2.2.2.2.2.2.2.2) (q.resolve_left (by decide))⟩
    refine StepsOk.cons (i := 25) rfl (fun L x G w1 K Q hn hp hJ hK => ?_) ?_
    · skip
      simp only [putAll, Act.put, List.setIfInBounds_toArray, List.set_cons_zero, List.set_cons_succ]
      go_simp
      refine hK _ G _ (by kernel_rfl) ?_
      exact ⟨(hJ.1),
        (hJ.2.1),
        (hJ.2.2.1),
        (hJ.2.2.2.1),
        (hJ.2.2.2.2.1),
        fun q => (hJ.2.2.2.2.2.1) (q.resolve_left (by decide)),
        fun q n => (hJ.2.2.2.2.2.2.1) (q.resolve_left (by decide)) (fun m => n (.inr m)),
        fun q => (hJ.2.2.2.2.2.2.2.1) (q.resolve_left (by decide)),
        fun q => .inr ((hJ.2.2.2.2.2.2.2.2.1) (q.resolve_left (by decide))),
        fun q => (hJ.2.2.2.2.2.2.2.2.2.1) (q.resolve_left (by decide)),
        fun q => (hJ.2.2.2.2.2.2.2.2.2.2.1) (q.resolve_left (by decide)),
        fun q => (hJ.2.2.2.2.2.2.2.2.2.2.2.1) (q.resolve_left (by decide)),
        fun q => (hJ.2.2.2.2.2.2.2.2.2.2.2.2.1) (q.resolve_left (by decide)),
        fun q => (hJ.2.2.2.2.2.2.2.2.2.2.2.2.2.1) (q.resolve_left (by decide)),
        fun q => (hJ.2.2.2.2.2.2.2.2.2.2.2.2.2.2.1) (q.resolve_left (by decide)),
        fun q => (hJ.2.2.2.2.2.2.2.2.2.2.2.2.2.2.2.1) (q.resolve_left (by decide)),
        fun q => (hJ.2.2.2.2.2.2.2.2.2.2.2.2.2.2.2.2.1) (q.resolve_left (by decide)),
        fun q => (hJ.2.2.2.2.2.2.2.2.2.2.2.2.2.2.2.2.2.1) (q.resolve_left (by decide)),
        fun q => (hJ.2.2.2.2.2.2.2.2.2.2.2.2.2.2.2.2.2.2.1) (q.resolve_left (by decide)),
        fun q => (hJ.2.2.2.2.2.2.2.2.2.2.2.2.2.2.2.2.2.2.2.1) (q.resolve_left (by decide)),
        fun q => (hJ.2.2.2.2.2.2.2.2.2.2.2.2.2.2.2.2.2.2.2.2.1) (q.resolve_left (by decide)),
        fun q => (hJ.2.2.2.2.2.2.2.2.2.2.2.2.2.2.2.2.2.2.2.2.2.1) (q.resolve_left (by decide)),
        fun q => (hJ.2.2.2.2.2.2.2.2.2.2.2.2.2.2.2.2.2.2.2.2.2.2.1) (q.resolve_left (by decide)),
        fun q => (hJ.2.2.2.2.2.2.2.2.2.2.2.2.2.2.2.2.2.2.2.2.2.2.2.1) (q.resolve_left (by decide)),
        fun q => (hJ.2.2.2.2.2.2.2.2.2.2.2.2.2.2.2.2.2.2.2.2.2.2.2.2.1) (q.resolve_left (by decide)),
        fun q => (hJ.2.2.2.2.2.2.2.2.2.2.2.2.2.2.2.2.2.2.2.2.2.2.2.2.2.1) (q.resolve_left (by decide)),
        fun q => (hJ.2.2.2.2.2.2.2.2.2.2.2.2.2.2.2.2.2.2.2.2.2.2.2.2.2.2.1) (q.resolve_left (by decide)),
        fun q => (hJ.2.2.2.2.2.2.2.2.2.2.2.2.2.2.2.2.2.2.2.2.2.2.2.2.2.2.2.1) (q.resolve_left (by decide)),
        fun q => (hJ.2.2.2.2.2.2.2.2.2.2.2.2.2.2.2.2.2.2.2.2.2.2.2.2.2.2.2.2.1) (q.resolve_left (by decide)),
        fun q => (hJ.2.2.2.2.2.2.2.2.2.2.2.2.2.2.2.2.2.2.2.2.2.2.2.2.2.2.2.2.2.1) (q.resolve_left (by decide)),
        fun q => (hJ.2.2.2.2.2.2.2.2.2.2.2.2.2.2.2.2.2.2.2.2.2.2.2.2.2.2.2.2.2.2.1) (q.resolve_left (by decide)),
        fun q => (hJ.2.2.2.2.2.2.2.2.2.2.2.2.2.2.2.2.2.2.2.2.2.2.2.2.2.2.2.2.2.2.2.1) (q.resolve_left (by decide)),
        fun q => (hJ.2.2.2.2.2.2.2.2.2.2.2.2.2.2.2.2.2.2.2.2.2.2.2.2.2.2.2.2.2.2.2.2.1) (q.resolve_left (by decide)),
        fun q => (hJ.2.2.2.2.2.2.2.2.2.2.2.2.2.2.2.2.2.2.2.2.2.2.2.2.2.2.2.2.2.2.2.2.2.1) (q.resolve_left (by decide)),
        fun _ => rfl,
        fun q => (hJ.2.2.2.2.2.2.2.2.2.2.2.2.2.2.2.2.2.2.2.2.2.2.2.2.2.2.2.2.2.2.2.2.2.2.2.1) (q.resolve_left (by decide)),
        fun q => (hJ.2.2.2.2.2.2.2.2.2.2.2.2.2.2.2.2.2.2.2.2.2.2.2.2.2.2.2.2.2.2.2.2.2.2.2.2.1) (q.resolve_left (by decide)),
        fun q => (hJ.2.2.2.2.2.2.2.2.2.2.2.2.2.2.2.2.2.2.2.2.2.2.2.2.2.2.2.2.2.2.2.2.2.2.2.2.2.1) (q.resolve_left (by decide)),
        fun q => (hJ.2.2.2.2.2.2.2.2.2.2.2.2.2.2.2.2.2.2.2.2.2.2.2.2.2.2.2.2.2.2.2.2.2.2.2.2.2.2.1) (q.resolve_left (by decide)),
        fun q => (hJ.2.2.2.2.2.2.2.2.2.2.2.2.2.2.2.2.2.2.2.2.2.2.2.2.2.2.2.2.2.2.2.2.2.2.2.2.2.2.2) (q.resolve_left (by decide))⟩
    refine StepsOk.cons (i := 26) rfl (fun L x G w1 K Q hn hp hJ hK => ?_) ?_
    · skip
      have p25 : L 25 := hp ⟨25, .data⟩ (by simp) rfl
      have e25 := (hJ.2.2.2.2.2.2.2.2.2.2.2.2.2.2.2.2.2.2.2.2.2.2.2.2.2.2.2.2.2.2.2.2.2.2.1) p25
      have hc := Blk.open5 ((hJ.2.2.2.2.1))
      have c0 := hc.1
      have c1 := hc.2.1
      have c2 := hc.2.2.1
      have c3 := hc.2.2.2.1
      have c4 := hc.2.2.2.2.1
      have c5 := hc.2.2.2.2.2.1
      have c6 := hc.2.2.2.2.2.2
      clear hc
      simp only [putAll, Act.put, List.setIfInBounds_toArray, List.set_cons_zero, List.set_cons_succ]
      go_simp
      refine hK _ G _ (by kernel_rfl) ?_
      exact ⟨(hJ.1),
        (hJ.2.1),
        (hJ.2.2.1),
        (hJ.2.2.2.1),
        (hJ.2.2.2.2.1),
        fun q => (hJ.2.2.2.2.2.1) (q.resolve_left (by decide)),
        fun q n => (hJ.2.2.2.2.2.2.1) (q.resolve_left (by decide)) (fun m => n (.inr m)),
        fun q => (hJ.2.2.2.2.2.2.2.1) (q.resolve_left (by decide)),
        fun q => .inr ((hJ.2.2.2.2.2.2.2.2.1) (q.resolve_left (by decide))),
        fun q => (hJ.2.2.2.2.2.2.2.2.2.1) (q.resolve_left (by decide)),
        fun q => (hJ.2.2.2.2.2.2.2.2.2.2.1) (q.resolve_left (by decide)),
        fun q => (hJ.2.2.2.2.2.2.2.2.2.2.2.1) (q.resolve_left (by decide)),
        fun q => (hJ.2.2.2.2.2.2.2.2.2.2.2.2.1) (q.resolve_left (by decide)),
        fun q => (hJ.2.2.2.2.2.2.2.2.2.2.2.2.2.1) (q.resolve_left (by decide)),
        fun q => (hJ.2.2.2.2.2.2.2.2.2.2.2.2.2.2.1) (q.resolve_left (by decide)),
        fun q => (hJ.2.2.2.2.2.2.2.2.2.2.2.2.2.2.2.1) (q.resolve_left (by decide)),
        fun q => (hJ.2.2.2.2.2.2.2.2.2.2.2.2.2.2.2.2.1) (q.resolve_left (by decide)),
        fun q => (hJ.2.2.2.2.2.2.2.2.2.2.2.2.2.2.2.2.2.1) (q.resolve_left (by decide)),
        fun q => (hJ.2.2.2.2.2.2.2.2.2.2.2.2.2.2.2.2.2.2.1) (q.resolve_left (by decide)),
        fun q => (hJ.2.2.2.2.2.2.2.2.2.2.2.2.2.2.2.2.2.2.2.1) (q.resolve_left (by decide)),
        fun q => (hJ.2.2.2.2.2.2.2.2.2.2.2.2.2.2.2.2.2.2.2.2.1) (q.resolve_left (by decide)),
        fun q => (hJ.2.2.2.2.2.2.2.2.2.2.2.2.2.2.2.2.2.2.2.2.2.1) (q.resolve_left (by decide)),
        fun q => (hJ.2.2.2.2.2.2.2.2.2.2.2.2.2.2.2.2.2.2.2.2.2.2.1) (q.resolve_left (by decide)),
        fun q => (hJ.2.2.2.2.2.2.2.2.2.2.2.2.2.2.2.2.2.2.2.2.2.2.2.1) (q.resolve_left (by decide)),
        fun q => (hJ.2.2.2.2.2.2.2.2.2.2.2.2.2.2.2.2.2.2.2.2.2.2.2.2.1) (q.resolve_left (by decide)),
        fun q => (hJ.2.2.2.2.2.2.2.2.2.2.2.2.2.2.2.2.2.2.2.2.2.2.2.2.2.1) (q.resolve_left (by decide)),
        fun q => (hJ.2.2.2.2.2.2.2.2.2.2.2.2.2.2.2.2.2.2.2.2.2.2.2.2.2.2.1) (q.resolve_left (by decide)),
        fun q => (hJ.2.2.2.2.2.2.2.2.2.2.2.2.2.2.2.2.2.2.2.2.2.2.2.2.2.2.2.1) (q.resolve_left (by decide)),
        fun q => (hJ.2.2.2.2.2.2.2.2.2.2.2.2.2.2.2.2.2.2.2.2.2.2.2.2.2.2.2.2.1) (q.resolve_left (by decide)),
        fun q => (hJ.2.2.2.2.2.2.2.2.2.2.2.2.2.2.2.2.2.2.2.2.2.2.2.2.2.2.2.2.2.1) (q.resolve_left (by decide)),
        fun q => (hJ.2.2.2.2.2.2.2.2.2.2.2.2.2.2.2.2.2.2.2.2.2.2.2.2.2.2.2.2.2.2.1) (q.resolve_left (by decide)),
        fun q => (hJ.2.2.2.2.2.2.2.2.2.2.2.2.2.2.2.2.2.2.2.2.2.2.2.2.2.2.2.2.2.2.2.1) (q.resolve_left (by decide)),
        fun q => (hJ.2.2.2.2.2.2.2.2.2.2.2.2.2.2.2.2.2.2.2.2.2.2.2.2.2.2.2.2.2.2.2.2.1) (q.resolve_left (by decide)),
        fun q => (hJ.2.2.2.2.2.2.2.2.2.2.2.2.2.2.2.2.2.2.2.2.2.2.2.2.2.2.2.2.2.2.2.2.2.1) (q.resolve_left (by decide)),
        fun _ => by first | exact rfl | exact e25,
        fun _ => rfl,
        fun q => (hJ.2.2.2.2.2.2.2.2.2.2.2.2.2.2.2.2.2.2.2.2.2.2.2.2.2.2.2.2.2.2.2.2.2.2.2.2.1) (q.resolve_left (by decide)),
        fun q => (hJ.2.2.2.2.2.2.2.2.2.2.2.2.2.2.2.2.2.2.2.2.2.2.2.2.2.2.2.2.2.2.2.2.2.2.2.2.2.1) (q.resolve_left (by decide)),
        fun q => (hJ.2.2.2.2.2.2.2.2.2.2.2.2.2.2.2.2.2.2.2.2.2.2.2.2.2.2.2.2.2.2.2.2.2.2.2.2.2.2.1) (q.resolve_left (by decide)),
        fun q => (hJ.2.2.2.2.2.2.2.2.2.2.2.2.2.2.2.2.2.2.2.2.2.2.2.2.2.2.2.2.2.2.2.2.2.2.2.2.2.2.2) (q.resolve_left (by decide))⟩
    refine StepsOk.cons (i := 27) rfl (fun L x G w1 K Q hn hp hJ hK => ?_) ?_
    · skip
      have p24 : L 24 := hp ⟨24, .data⟩ (by simp) rfl
      have e24 := (hJ.2.2.2.2.2.2.2.2.2.2.2.2.2.2.2.2.2.2.2.2.2.2.2.2.2.2.2.2.2.2.2.2.2.1) p24
      have p26 : L 26 := hp ⟨26, .data⟩ (by simp) rfl
      have e26 := (hJ.2.2.2.2.2.2.2.2.2.2.2.2.2.2.2.2.2.2.2.2.2.2.2.2.2.2.2.2.2.2.2.2.2.2.2.1) p26
      simp only [putAll, Act.put, List.setIfInBounds_toArray, List.set_cons_zero, List.set_cons_succ]
      go_simp
      refine hK _ G _ (by kernel_rfl) ?_
      exact ⟨(hJ.1),
        (hJ.2.1),
        (hJ.2.2.1),
        (hJ.2.2.2.1),
        (hJ.2.2.2.2.1),
        fun q => (hJ.2.2.2.2.2.1) (q.resolve_left (by decide)),
        fun q n => (hJ.2.2.2.2.2.2.1) (q.resolve_left (by decide)) (fun m => n (.inr m)),
        fun q => (hJ.2.2.2.2.2.2.2.1) (q.resolve_left (by decide)),
        fun q => .inr ((hJ.2.2.2.2.2.2.2.2.1) (q.resolve_left (by decide))),
        fun q => (hJ.2.2.2.2.2.2.2.2.2.1) (q.resolve_left (by decide)),
        fun q => (hJ.2.2.2.2.2.2.2.2.2.2.1) (q.resolve_left (by decide)),
        fun q => (hJ.2.2.2.2.2.2.2.2.2.2.2.1) (q.resolve_left (by decide)),
        fun q => (hJ.2.2.2.2.2.2.2.2.2.2.2.2.1) (q.resolve_left (by decide)),
        fun q => (hJ.2.2.2.2.2.2.2.2.2.2.2.2.2.1) (q.resolve_left (by decide)),
        fun q => (hJ.2.2.2.2.2.2.2.2.2.2.2.2.2.2.1) (q.resolve_left (by decide)),
        fun q => (hJ.2.2.2.2.2.2.2.2.2.2.2.2.2.2.2.1) (q.resolve_left (by decide)),
        fun q => (hJ.2.2.2.2.2.2.2.2.2.2.2.2.2.2.2.2.1) (q.resolve_left (by decide)),
        fun q => (hJ.2.2.2.2.2.2.2.2.2.2.2.2.2.2.2.2.2.1) (q.resolve_left (by decide)),
        fun q => (hJ.2.2.2.2.2.2.2.2.2.2.2.2.2.2.2.2.2.2.1) (q.resolve_left (by decide)),
        fun q => (hJ.2.2.2.2.2.2.2.2.2.2.2.2.2.2.2.2.2.2.2.1) (q.resolve_left (by decide)),
        fun q => (hJ.2.2.2.2.2.2.2.2.2.2.2.2.2.2.2.2.2.2.2.2.1) (q.resolve_left (by decide)),
        fun q => (hJ.2.2.2.2.2.2.2.2.2.2.2.2.2.2.2.2.2.2.2.2.2.1) (q.resolve_left (by decide)),
        fun q => (hJ.2.2.2.2.2.2.2.2.2.2.2.2.2.2.2.2.2.2.2.2.2.2.1) (q.resolve_left (by decide)),
        fun q => (hJ.2.2.2.2.2.2.2.2.2.2.2.2.2.2.2.2.2.2.2.2.2.2.2.1) (q.resolve_left (by decide)),
        fun q => (hJ.2.2.2.2.2.2.2.2.2.2.2.2.2.2.2.2.2.2.2.2.2.2.2.2.1) (q.resolve_left (by decide)),
        fun q => (hJ.2.2.2.2.2.2.2.2.2.2.2.2.2.2.2.2.2.2.2.2.2.2.2.2.2.1) (q.resolve_left (by decide)),
        fun q => (hJ.2.2.2.2.2.2.2.2.2.2.2.2.2.2.2.2.2.2.2.2.2.2.2.2.2.2.1) (q.resolve_left (by decide)),
        fun q => (hJ.2.2.2.2.2.2.2.2.2.2.2.2.2.2.2.2.2.2.2.2.2.2.2.2.2.2.2.1) (q.resolve_left (by decide)),
        fun q => (hJ.2.2.2.2.2.2.2.2.2.2.2.2.2.2.2.2.2.2.2.2.2.2.2.2.2.2.2.2.1) (q.resolve_left (by decide)),
        fun q => (hJ.2.2.2.2.2.2.2.2.2.2.2.2.2.2.2.2.2.2.2.2.2.2.2.2.2.2.2.2.2.1) (q.resolve_left (by decide)),
        fun q => (hJ.2.2.2.2.2.2.2.2.2.2.2.2.2.2.2.2.2.2.2.2.2.2.2.2.2.2.2.2.2.2.1) (q.resolve_left (by decide)),
        fun q => (hJ.2.2.2.2.2.2.2.2.2.2.2.2.2.2.2.2.2.2.2.2.2.2.2.2.2.2.2.2.2.2.2.1) (q.resolve_left (by decide)),
        fun q => (hJ.2.2.2.2.2.2.2.2.2.2.2.2.2.2.2.2.2.2.2.2.2.2.2.2.2.2.2.2.2.2.2.2.1) (q.resolve_left (by decide)),
        fun _ => by first | exact rfl | exact e24,
        fun q => (hJ.2.2.2.2.2.2.2.2.2.2.2.2.2.2.2.2.2.2.2.2.2.2.2.2.2.2.2.2.2.2.2.2.2.2.1) (q.resolve_left (by decide)),
        fun _ => by first | exact rfl | exact e26,
        fun _ => rfl,
        fun q => (hJ.2.2.2.2.2.2.2.2.2.2.2.2.2.2.2.2.2.2.2.2.2.2.2.2.2.2.2.2.2.2.2.2.2.2.2.2.2.1) (q.resolve_left (by decide)),
        fun q => (hJ.2.2.2.2.2.2.2.2.2.2.2.2.2.2.2.2.2.2.2.2.2.2.2.2.2.2.2.2.2.2.2.2.2.2.2.2.2.2.1) (q.resolve_left (by decide)),
        fun q => (hJ.2.2.2.2.2.2.2.2.2.2.2.2.2.2.2.2.2.2.2.2.2.2.2.2.2.2.2.2.2.2.2.2.2.2.2.2.2.2.2) (q.resolve_left (by decide))⟩
    refine StepsOk.cons (i := 28) rfl (fun L x G w1 K Q hn hp hJ hK => ?_) ?_
    · skip
      have p22 : L 22 := hp ⟨22, .data⟩ (by simp) rfl
      have e22 := (hJ.2.2.2.2.2.2.2.2.2.2.2.2.2.2.2.2.2.2.2.2.2.2.2.2.2.2.2.2.2.2.2.1) p22
      have p27 : L 27 := hp ⟨27, .data⟩ (by simp) rfl
      have e27 := (hJ.2.2.2.2.2.2.2.2.2.2.2.2.2.2.2.2.2.2.2.2.2.2.2.2.2.2.2.2.2.2.2.2.2.2.2.2.1) p27
      simp only [putAll, Act.put, List.setIfInBounds_toArray, List.set_cons_zero, List.set_cons_succ]
      go_simp
      refine hK _ G _ (by kernel_rfl) ?_
      exact ⟨(hJ.1),
        (hJ.2.1),
        (hJ.2.2.1),
        (hJ.2.2.2.1),
        (hJ.2.2.2.2.1),
        fun q => (hJ.2.2.2.2.2.1) (q.resolve_left (by decide)),
        fun q n => (hJ.2.2.2.2.2.2.1) (q.resolve_left (by decide)) (fun m => n (.inr m)),
        fun q => (hJ.2.2.2.2.2.2.2.1) (q.resolve_left (by decide)),
        fun q => .inr ((hJ.2.2.2.2.2.2.2.2.1) (q.resolve_left (by decide))),
        fun q => (hJ.2.2.2.2.2.2.2.2.2.1) (q.resolve_left (by decide)),
        fun q => (hJ.2.2.2.2.2.2.2.2.2.2.1) (q.resolve_left (by decide)),
        fun q => (hJ.2.2.2.2.2.2.2.2.2.2.2.1) (q.resolve_left (by decide)),
        fun q => (hJ.2.2.2.2.2.2.2.2.2.2.2.2.1) (q.resolve_left (by decide)),
        fun q => (hJ.2.2.2.2.2.2.2.2.2.2.2.2.2.1) (q.resolve_left (by decide)),
        fun q => (hJ.2.2.2.2.2.2.2.2.2.2.2.2.2.2.1) (q.resolve_left (by decide)),
        fun q => (hJ.2.2.2.2.2.2.2.2.2.2.2.2.2.2.2.1) (q.resolve_left (by decide)),
        fun q => (hJ.2.2.2.2.2.2.2.2.2.2.2.2.2.2.2.2.1) (q.resolve_left (by decide)),
        fun q => (hJ.2.2.2.2.2.2.2.2.2.2.2.2.2.2.2.2.2.1) (q.resolve_left (by decide)),
        fun q => (hJ.2.2.2.2.2.2.2.2.2.2.2.2.2.2.2.2.2.2.1) (q.resolve_left (by decide)),
        fun q => (hJ.2.2.2.2.2.2.2.2.2.2.2.2.2.2.2.2.2.2.2.1) (q.resolve_left (by decide)),
        fun q => (hJ.2.2.2.2.2.2.2.2.2.2.2.2.2.2.2.2.2.2.2.2.1) (q.resolve_left (by decide)),
        fun q => (hJ.2.2.2.2.2.2.2.2.2.2.2.2.2.2.2.2.2.2.2.2.2.1) (q.resolve_left (by decide)),
        fun q => (hJ.2.2.2.2.2.2.2.2.2.2.2.2.2.2.2.2.2.2.2.2.2.2.1) (q.resolve_left (by decide)),
        fun q => (hJ.2.2.2.2.2.2.2.2.2.2.2.2.2.2.2.2.2.2.2.2.2.2.2.1) (q.resolve_left (by decide)),
        fun q => (hJ.2.2.2.2.2.2.2.2.2.2.2.2.2.2.2.2.2.2.2.2.2.2.2.2.1) (q.resolve_left (by decide)),
        fun q => (hJ.2.2.2.2.2.2.2.2.2.2.2.2.2.2.2.2.2.2.2.2.2.2.2.2.2.1) (q.resolve_left (by decide)),
        fun q => (hJ.2.2.2.2.2.2.2.2.2.2.2.2.2.2.2.2.2.2.2.2.2.2.2.2.2.2.1) (q.resolve_left (by decide)),
        fun q => (hJ.2.2.2.2.2.2.2.2.2.2.2.2.2.2.2.2.2.2.2.2.2.2.2.2.2.2.2.1) (q.resolve_left (by decide)),
        fun q => (hJ.2.2.2.2.2.2.2.2.2.2.2.2.2.2.2.2.2.2.2.2.2.2.2.2.2.2.2.2.1) (q.resolve_left (by decide)),
        fun q => (hJ.2.2.2.2.2.2.2.2.2.2.2.2.2.2.2.2.2.2.2.2.2.2.2.2.2.2.2.2.2.1) (q.resolve_left (by decide)),
        fun q => (hJ.2.2.2.2.2.2.2.2.2.2.2.2.2.2.2.2.2.2.2.2.2.2.2.2.2.2.2.2.2.2.1) (q.resolve_left (by decide)),
        fun _ => by first | exact rfl | exact e22,
        fun q => (hJ.2.2.2.2.2.2.2.2.2.2.2.2.2.2.2.2.2.2.2.2.2.2.2.2.2.2.2.2.2.2.2.2.1) (q.resolve_left (by decide)),
        fun q => (hJ.2.2.2.2.2.2.2.2.2.2.2.2.2.2.2.2.2.2.2.2.2.2.2.2.2.2.2.2.2.2.2.2.2.1) (q.resolve_left (by decide)),
        fun q => (hJ.2.2.2.2.2.2.2.2.2.2.2.2.2.2.2.2.2.2.2.2.2.2.2.2.2.2.2.2.2.2.2.2.2.2.1) (q.resolve_left (by decide)),
        fun q => (hJ.2.2.2.2.2.2.2.2.2.2.2.2.2.2.2.2.2.2.2.2.2.2.2.2.2.2.2.2.2.2.2.2.2.2.2.1) (q.resolve_left (by decide)),
        fun _ => by first | exact rfl | exact e27,
        fun _ => rfl,
        fun q => (hJ.2.2.2.2.2.2.2.2.2.2.2.2.2.2.2.2.2.2.2.2.2.2.2.2.2.2.2.2.2.2.2.2.2.2.2.2.2.2.1) (q.resolve_left (by decide)),
        fun q => (hJ.2.2.2.2.2.2.2.2.2.2.2.2.2.2.2.2.2.2.2.2.2.2.2.2.2.2.2.2.2.2.2.2.2.2.2.2.2.2.2) (q.resolve_left (by decide))⟩
    refine StepsOk.cons (i := 29) rfl (fun L x G w1 K Q hn hp hJ hK => ?_) ?_
    · skip
      have p8 : L 8 := hp ⟨8, .data⟩ (by simp) rfl
      have e8 := (hJ.2.2.2.2.2.2.2.2.2.2.2.2.2.2.2.2.2.1) p8
      have p17 : L 17 := hp ⟨17, .data⟩ (by simp) rfl
      have e17 := (hJ.2.2.2.2.2.2.2.2.2.2.2.2.2.2.2.2.2.2.2.2.2.2.2.2.2.2.1) p17
      have p28 : L 28 := hp ⟨28, .data⟩ (by simp) rfl
      have e28 := (hJ.2.2.2.2.2.2.2.2.2.2.2.2.2.2.2.2.2.2.2.2.2.2.2.2.2.2.2.2.2.2.2.2.2.2.2.2.2.1) p28
      simp only [putAll, Act.put, List.setIfInBounds_toArray, List.set_cons_zero, List.set_cons_succ]
      go_simp
      refine hK _ G _ (by kernel_rfl) ?_
      exact ⟨(hJ.1),
        (hJ.2.1),
        (hJ.2.2.1),
        (hJ.2.2.2.1),
        (hJ.2.2.2.2.1),
        fun q => (hJ.2.2.2.2.2.1) (q.resolve_left (by decide)),
        fun q n => (hJ.2.2.2.2.2.2.1) (q.resolve_left (by decide)) (fun m => n (.inr m)),
        fun q => (hJ.2.2.2.2.2.2.2.1) (q.resolve_left (by decide)),
        fun q => .inr ((hJ.2.2.2.2.2.2.2.2.1) (q.resolve_left (by decide))),
        fun q => (hJ.2.2.2.2.2.2.2.2.2.1) (q.resolve_left (by decide)),
        fun q => (hJ.2.2.2.2.2.2.2.2.2.2.1) (q.resolve_left (by decide)),
        fun q => (hJ.2.2.2.2.2.2.2.2.2.2.2.1) (q.resolve_left (by decide)),
        fun q => (hJ.2.2.2.2.2.2.2.2.2.2.2.2.1) (q.resolve_left (by decide)),
        fun q => (hJ.2.2.2.2.2.2.2.2.2.2.2.2.2.1) (q.resolve_left (by decide)),
        fun q => (hJ.2.2.2.2.2.2.2.2.2.2.2.2.2.2.1) (q.resolve_left (by decide)),
        fun q => (hJ.2.2.2.2.2.2.2.2.2.2.2.2.2.2.2.1) (q.resolve_left (by decide)),
        fun q => (hJ.2.2.2.2.2.2.2.2.2.2.2.2.2.2.2.2.1) (q.resolve_left (by decide)),
        fun _ => by first | exact rfl | exact e8,
        fun q => (hJ.2.2.2.2.2.2.2.2.2.2.2.2.2.2.2.2.2.2.1) (q.resolve_left (by decide)),
        fun q => (hJ.2.2.2.2.2.2.2.2.2.2.2.2.2.2.2.2.2.2.2.1) (q.resolve_left (by decide)),
        fun q => (hJ.2.2.2.2.2.2.2.2.2.2.2.2.2.2.2.2.2.2.2.2.1) (q.resolve_left (by decide)),
        fun q => (hJ.2.2.2.2.2.2.2.2.2.2.2.2.2.2.2.2.2.2.2.2.2.1) (q.resolve_left (by decide)),
        fun q => (hJ.2.2.2.2.2.2.2.2.2.2.2.2.2.2.2.2.2.2.2.2.2.2.1) (q.resolve_left (by decide)),
        fun q => (hJ.2.2.2.2.2.2.2.2.2.2.2.2.2.2.2.2.2.2.2.2.2.2.2.1) (q.resolve_left (by decide)),
        fun q => (hJ.2.2.2.2.2.2.2.2.2.2.2.2.2.2.2.2.2.2.2.2.2.2.2.2.1) (q.resolve_left (by decide)),
        fun q => (hJ.2.2.2.2.2.2.2.2.2.2.2.2.2.2.2.2.2.2.2.2.2.2.2.2.2.1) (q.resolve_left (by decide)),
        fun _ => by first | exact rfl | exact e17,
        fun q => (hJ.2.2.2.2.2.2.2.2.2.2.2.2.2.2.2.2.2.2.2.2.2.2.2.2.2.2.2.1) (q.resolve_left (by decide)),
        fun q => (hJ.2.2.2.2.2.2.2.2.2.2.2.2.2.2.2.2.2.2.2.2.2.2.2.2.2.2.2.2.1) (q.resolve_left (by decide)),
        fun q => (hJ.2.2.2.2.2.2.2.2.2.2.2.2.2.2.2.2.2.2.2.2.2.2.2.2.2.2.2.2.2.1) (q.resolve_left (by decide)),
        fun q => (hJ.2.2.2.2.2.2.2.2.2.2.2.2.2.2.2.2.2.2.2.2.2.2.2.2.2.2.2.2.2.2.1) (q.resolve_left (by decide)),
        fun q => (hJ.2.2.2.2.2.2.2.2.2.2.2.2.2.2.2.2.2.2.2.2.2.2.2.2.2.2.2.2.2.2.2.1) (q.resolve_left (by decide)),
        fun q => (hJ.2.2.2.2.2.2.2.2.2.2.2.2.2.2.2.2.2.2.2.2.2.2.2.2.2.2.2.2.2.2.2.2.1) (q.resolve_left (by decide)),
        fun q => (hJ.2.2.2.2.2.2.2.2.2.2.2.2.2.2.2.2.2.2.2.2.2.2.2.2.2.2.2.2.2.2.2.2.2.1) (q.resolve_left (by decide)),
        fun q => (hJ.2.2.2.2.2.2.2.2.2.2.2.2.2.2.2.2.2.2.2.2.2.2.2.2.2.2.2.2.2.2.2.2.2.2.1) (q.resolve_left (by decide)),
        fun q => (hJ.2.2.2.2.2.2.2.2.2.2.2.2.2.2.2.2.2.2.2.2.2.2.2.2.2.2.2.2.2.2.2.2.2.2.2.1) (q.resolve_left (by decide)),
        fun q => (hJ.2.2.2.2.2.2.2.2.2.2.2.2.2.2.2.2.2.2.2.2.2.2.2.2.2.2.2.2.2.2.2.2.2.2.2.2.1) (q.resolve_left (by decide)),
        fun _ => by first | exact rfl | exact e28,
        fun _ => rfl,
        fun q => (hJ.2.2.2.2.2.2.2.2.2.2.2.2.2.2.2.2.2.2.2.2.2.2.2.2.2.2.2.2.2.2.2.2.2.2.2.2.2.2.2) (q.resolve_left (by decide))⟩
    refine StepsOk.cons (i := 30) rfl (fun L x G w1 K Q hn hp hJ hK => ?_) ?_
    · skip
      simp only [putAll, Act.put, List.setIfInBounds_toArray, List.set_cons_zero, List.set_cons_succ]
      go_simp
      refine hK _ (fun t => if t = 30 then w1.heap.size else G t) _ (by kernel_rfl) ?_
      exact ⟨bal (hJ.1) _,
        by simp; omega,
        Blk.alloc ((hJ.2.2.1)) _,
        by simp; omega,
        Blk.alloc ((hJ.2.2.2.2.1)) _,
        fun _ => ⟨(hJ.1).size, by simp, Nat.ne_of_lt (hJ.2.1), Nat.ne_of_lt (hJ.2.2.2.1)⟩,
        fun _ _ => Blk.new w1 _ _,
        fun q => absurd ((hJ.2.2.2.2.2.2.2.2.1) (q.resolve_left (by decide))) hn,
        fun q => .inr ((hJ.2.2.2.2.2.2.2.2.1) (q.resolve_left (by decide))),
        fun q => (hJ.2.2.2.2.2.2.2.2.2.1) (q.resolve_left (by decide)),
        fun q => (hJ.2.2.2.2.2.2.2.2.2.2.1) (q.resolve_left (by decide)),
        fun q => (hJ.2.2.2.2.2.2.2.2.2.2.2.1) (q.resolve_left (by decide)),
        fun q => (hJ.2.2.2.2.2.2.2.2.2.2.2.2.1) (q.resolve_left (by decide)),
        fun q => (hJ.2.2.2.2.2.2.2.2.2.2.2.2.2.1) (q.resolve_left (by decide)),
        fun q => (hJ.2.2.2.2.2.2.2.2.2.2.2.2.2.2.1) (q.resolve_left (by decide)),
        fun q => (hJ.2.2.2.2.2.2.2.2.2.2.2.2.2.2.2.1) (q.resolve_left (by decide)),
        fun q => (hJ.2.2.2.2.2.2.2.2.2.2.2.2.2.2.2.2.1) (q.resolve_left (by decide)),
        fun q => (hJ.2.2.2.2.2.2.2.2.2.2.2.2.2.2.2.2.2.1) (q.resolve_left (by decide)),
        fun q => (hJ.2.2.2.2.2.2.2.2.2.2.2.2.2.2.2.2.2.2.1) (q.resolve_left (by decide)),
        fun q => (hJ.2.2.2.2.2.2.2.2.2.2.2.2.2.2.2.2.2.2.2.1) (q.resolve_left (by decide)),
        fun q => (hJ.2.2.2.2.2.2.2.2.2.2.2.2.2.2.2.2.2.2.2.2.1) (q.resolve_left (by decide)),
        fun q => (hJ.2.2.2.2.2.2.2.2.2.2.2.2.2.2.2.2.2.2.2.2.2.1) (q.resolve_left (by decide)),
        fun q => (hJ.2.2.2.2.2.2.2.2.2.2.2.2.2.2.2.2.2.2.2.2.2.2.1) (q.resolve_left (by decide)),
        fun q => (hJ.2.2.2.2.2.2.2.2.2.2.2.2.2.2.2.2.2.2.2.2.2.2.2.1) (q.resolve_left (by decide)),
        fun q => (hJ.2.2.2.2.2.2.2.2.2.2.2.2.2.2.2.2.2.2.2.2.2.2.2.2.1) (q.resolve_left (by decide)),
        fun q => (hJ.2.2.2.2.2.2.2.2.2.2.2.2.2.2.2.2.2.2.2.2.2.2.2.2.2.1) (q.resolve_left (by decide)),
        fun q => (hJ.2.2.2.2.2.2.2.2.2.2.2.2.2.2.2.2.2.2.2.2.2.2.2.2.2.2.1) (q.resolve_left (by decide)),
        fun q => (hJ.2.2.2.2.2.2.2.2.2.2.2.2.2.2.2.2.2.2.2.2.2.2.2.2.2.2.2.1) (q.resolve_left (by decide)),
        fun q => (hJ.2.2.2.2.2.2.2.2.2.2.2.2.2.2.2.2.2.2.2.2.2.2.2.2.2.2.2.2.1) (q.resolve_left (by decide)),
        fun q => (hJ.2.2.2.2.2.2.2.2.2.2.2.2.2.2.2.2.2.2.2.2.2.2.2.2.2.2.2.2.2.1) (q.resolve_left (by decide)),
        fun q => (hJ.2.2.2.2.2.2.2.2.2.2.2.2.2.2.2.2.2.2.2.2.2.2.2.2.2.2.2.2.2.2.1) (q.resolve_left (by decide)),
        fun q => (hJ.2.2.2.2.2.2.2.2.2.2.2.2.2.2.2.2.2.2.2.2.2.2.2.2.2.2.2.2.2.2.2.1) (q.resolve_left (by decide)),
        fun q => (hJ.2.2.2.2.2.2.2.2.2.2.2.2.2.2.2.2.2.2.2.2.2.2.2.2.2.2.2.2.2.2.2.2.1) (q.resolve_left (by decide)),
        fun q => (hJ.2.2.2.2.2.2.2.2.2.2.2.2.2.2.2.2.2.2.2.2.2.2.2.2.2.2.2.2.2.2.2.2.2.1) (q.resolve_left (by decide)),
        fun q => (hJ.2.2.2.2.2.2.2.2.2.2.2.2.2.2.2.2.2.2.2.2.2.2.2.2.2.2.2.2.2.2.2.2.2.2.1) (q.resolve_left (by decide)),
        fun q => (hJ.2.2.2.2.2.2.2.2.2.2.2.2.2.2.2.2.2.2.2.2.2.2.2.2.2.2.2.2.2.2.2.2.2.2.2.1) (q.resolve_left (by decide)),
        fun q => (hJ.2.2.2.2.2.2.2.2.2.2.2.2.2.2.2.2.2.2.2.2.2.2.2.2.2.2.2.2.2.2.2.2.2.2.2.2.1) (q.resolve_left (by decide)),
        fun q => (hJ.2.2.2.2.2.2.2.2.2.2.2.2.2.2.2.2.2.2.2.2.2.2.2.2.2.2.2.2.2.2.2.2.2.2.2.2.2.1) (q.resolve_left (by decide)),
        fun q => (hJ.2.2.2.2.2.2.2.2.2.2.2.2.2.2.2.2.2.2.2.2.2.2.2.2.2.2.2.2.2.2.2.2.2.2.2.2.2.2.1) (q.resolve_left (by decide)),
        fun _ => rfl⟩
    refine StepsOk.cons (i := 31) rfl (fun L x G w1 K Q hn hp hJ hK => ?_) ?_
    · skip
      have p29 : L 29 := hp ⟨29, .data⟩ (by simp) rfl
      have e29 := (hJ.2.2.2.2.2.2.2.2.2.2.2.2.2.2.2.2.2.2.2.2.2.2.2.2.2.2.2.2.2.2.2.2.2.2.2.2.2.2.1) p29
      have p30 : L 30 := hp ⟨30, .data⟩ (by simp) rfl
      have e30 := (hJ.2.2.2.2.2.2.2.2.2.2.2.2.2.2.2.2.2.2.2.2.2.2.2.2.2.2.2.2.2.2.2.2.2.2.2.2.2.2.2) p30
      have hc := Blk.open7 (((hJ.2.2.2.2.2.2.1) p30 hn))
      have c0 := hc.1
      have c1 := hc.2.1
      have c2 := hc.2.2.1
      have c3 := hc.2.2.2.1
      have c4 := hc.2.2.2.2.1
      have c5 := hc.2.2.2.2.2.1
      have c6 := hc.2.2.2.2.2.2.1
      have c7 := hc.2.2.2.2.2.2.2.1
      have c8 := hc.2.2.2.2.2.2.2.2
      clear hc
      simp only [putAll, Act.put, List.setIfInBounds_toArray, List.set_cons_zero, List.set_cons_succ]
      go_simp
      refine hK _ G _ (by kernel_rfl) ?_
      exact ⟨bst (bst (bst (bst (bst (bst (bst ((hJ.1)) (p := ⟨G 30, 0, none⟩) ((hJ.2.2.2.2.2.1) p30).1 (.int .i64 (Wi.Hq (Lq.sx n M)))) (p := ⟨G 30, 1, none⟩) ((hJ.2.2.2.2.2.1) p30).1 (.int .u64 (Wi.Lr (Lq.sx n M)))) (p := ⟨G 30, 2, none⟩) ((hJ.2.2.2.2.2.1) p30).1 (.int .i64 (Wi.Hq (Lq.sy n M)))) (p := ⟨G 30, 3, none⟩) ((hJ.2.2.2.2.2.1) p30).1 (.int .u64 (Wi.Lr (Lq.sy n M)))) (p := ⟨G 30, 4, none⟩) ((hJ.2.2.2.2.2.1) p30).1 (.int .i64 (Lq.det n M))) (p := ⟨G 30, 5, none⟩) ((hJ.2.2.2.2.2.1) p30).1 (.int .i64 (0))) (p := ⟨G 30, 6, none⟩) ((hJ.2.2.2.2.2.1) p30).1 (.int .i64 (0)),
        by simpa using (hJ.2.1),
        Blk.far (Blk.far (Blk.far (Blk.far (Blk.far (Blk.far (Blk.far ((hJ.2.2.1)) (p := ⟨G 30, 0, none⟩) (((hJ.2.2.2.2.2.1) p30).2.2.1) (.int .i64 (Wi.Hq (Lq.sx n M)))) (p := ⟨G 30, 1, none⟩) (((hJ.2.2.2.2.2.1) p30).2.2.1) (.int .u64 (Wi.Lr (Lq.sx n M)))) (p := ⟨G 30, 2, none⟩) (((hJ.2.2.2.2.2.1) p30).2.2.1) (.int .i64 (Wi.Hq (Lq.sy n M)))) (p := ⟨G 30, 3, none⟩) (((hJ.2.2.2.2.2.1) p30).2.2.1) (.int .u64 (Wi.Lr (Lq.sy n M)))) (p := ⟨G 30, 4, none⟩) (((hJ.2.2.2.2.2.1) p30).2.2.1) (.int .i64 (Lq.det n M))) (p := ⟨G 30, 5, none⟩) (((hJ.2.2.2.2.2.1) p30).2.2.1) (.int .i64 (0))) (p := ⟨G 30, 6, none⟩) (((hJ.2.2.2.2.2.1) p30).2.2.1) (.int .i64 (0)),
        by simpa using (hJ.2.2.2.1),
        Blk.far (Blk.far (Blk.far (Blk.far (Blk.far (Blk.far (Blk.far ((hJ.2.2.2.2.1)) (p := ⟨G 30, 0, none⟩) (((hJ.2.2.2.2.2.1) p30).2.2.2) (.int .i64 (Wi.Hq (Lq.sx n M)))) (p := ⟨G 30, 1, none⟩) (((hJ.2.2.2.2.2.1) p30).2.2.2) (.int .u64 (Wi.Lr (Lq.sx n M)))) (p := ⟨G 30, 2, none⟩) (((hJ.2.2.2.2.2.1) p30).2.2.2) (.int .i64 (Wi.Hq (Lq.sy n M)))) (p := ⟨G 30, 3, none⟩) (((hJ.2.2.2.2.2.1) p30).2.2.2) (.int .u64 (Wi.Lr (Lq.sy n M)))) (p := ⟨G 30, 4, none⟩) (((hJ.2.2.2.2.2.1) p30).2.2.2) (.int .i64 (Lq.det n M))) (p := ⟨G 30, 5, none⟩) (((hJ.2.2.2.2.2.1) p30).2.2.2) (.int .i64 (0))) (p := ⟨G 30, 6, none⟩) (((hJ.2.2.2.2.2.1) p30).2.2.2) (.int .i64 (0)),
        fun q => ⟨((hJ.2.2.2.2.2.1) (q.resolve_left (by decide))).1, by have := ((hJ.2.2.2.2.2.1) (q.resolve_left (by decide))).2.1; simpa using this, ((hJ.2.2.2.2.2.1) (q.resolve_left (by decide))).2.2⟩,
        fun _ n => absurd (.inl rfl) n,
        fun _ => by simpa using Blk.set_ (Blk.set_ (Blk.set_ (Blk.set_ (Blk.set_ (Blk.set_ (Blk.set_ (((hJ.2.2.2.2.2.2.1) p30 hn)) 0 (.int .i64 (Wi.Hq (Lq.sx n M)))) 1 (.int .u64 (Wi.Lr (Lq.sx n M)))) 2 (.int .i64 (Wi.Hq (Lq.sy n M)))) 3 (.int .u64 (Wi.Lr (Lq.sy n M)))) 4 (.int .i64 (Lq.det n M))) 5 (.int .i64 (0))) 6 (.int .i64 (0)),
        fun _ => .inr p30,
        fun q => (hJ.2.2.2.2.2.2.2.2.2.1) (q.resolve_left (by decide)),
        fun q => (hJ.2.2.2.2.2.2.2.2.2.2.1) (q.resolve_left (by decide)),
        fun q => (hJ.2.2.2.2.2.2.2.2.2.2.2.1) (q.resolve_left (by decide)),
        fun q => (hJ.2.2.2.2.2.2.2.2.2.2.2.2.1) (q.resolve_left (by decide)),
        fun q => (hJ.2.2.2.2.2.2.2.2.2.2.2.2.2.1) (q.resolve_left (by decide)),
        fun q => (hJ.2.2.2.2.2.2.2.2.2.2.2.2.2.2.1) (q.resolve_left (by decide)),
        fun q => (hJ.2.2.2.2.2.2.2.2.2.2.2.2.2.2.2.1) (q.resolve_left (by decide)),
        fun q => (hJ.2.2.2.2.2.2.2.2.2.2.2.2.2.2.2.2.1) (q.resolve_left (by decide)),
        fun q => (hJ.2.2.2.2.2.2.2.2.2.2.2.2.2.2.2.2.2.1) (q.resolve_left (by decide)),
        fun q => (hJ.2.2.2.2.2.2.2.2.2.2.2.2.2.2.2.2.2.2.1) (q.resolve_left (by decide)),
        fun q => (hJ.2.2.2.2.2.2.2.2.2.2.2.2.2.2.2.2.2.2.2.1) (q.resolve_left (by decide)),
        fun q => (hJ.2.2.2.2.2.2.2.2.2.2.2.2.2.2.2.2.2.2.2.2.1) (q.resolve_left (by decide)),
        fun q => (hJ.2.2.2.2.2.2.2.2.2.2.2.2.2.2.2.2.2.2.2.2.2.1) (q.resolve_left (by decide)),
        fun q => (hJ.2.2.2.2.2.2.2.2.2.2.2.2.2.2.2.2.2.2.2.2.2.2.1) (q.resolve_left (by decide)),
        fun q => (hJ.2.2.2.2.2.2.2.2.2.2.2.2.2.2.2.2.2.2.2.2.2.2.2.1) (q.resolve_left (by decide)),
        fun q => (hJ.2.2.2.2.2.2.2.2.2.2.2.2.2.2.2.2.2.2.2.2.2.2.2.2.1) (q.resolve_left (by decide)),
        fun q => (hJ.2.2.2.2.2.2.2.2.2.2.2.2.2.2.2.2.2.2.2.2.2.2.2.2.2.1) (q.resolve_left (by decide)),
        fun q => (hJ.2.2.2.2.2.2.2.2.2.2.2.2.2.2.2.2.2.2.2.2.2.2.2.2.2.2.1) (q.resolve_left (by decide)),
        fun q => (hJ.2.2.2.2.2.2.2.2.2.2.2.2.2.2.2.2.2.2.2.2.2.2.2.2.2.2.2.1) (q.resolve_left (by decide)),
        fun q => (hJ.2.2.2.2.2.2.2.2.2.2.2.2.2.2.2.2.2.2.2.2.2.2.2.2.2.2.2.2.1) (q.resolve_left (by decide)),
        fun q => (hJ.2.2.2.2.2.2.2.2.2.2.2.2.2.2.2.2.2.2.2.2.2.2.2.2.2.2.2.2.2.1) (q.resolve_left (by decide)),
        fun q => (hJ.2.2.2.2.2.2.2.2.2.2.2.2.2.2.2.2.2.2.2.2.2.2.2.2.2.2.2.2.2.2.1) (q.resolve_left (by decide)),
        fun q => (hJ.2.2.2.2.2.2.2.2.2.2.2.2.2.2.2.2.2.2.2.2.2.2.2.2.2.2.2.2.2.2.2.1) (q.resolve_left (by decide)),
        fun q => (hJ.2.2.2.2.2.2.2.2.2.2.2.2.2.2.2.2.2.2.2.2.2.2.2.2.2.2.2.2.2.2.2.2.1) (q.resolve_left (by decide)),
        fun q => (hJ.2.2.2.2.2.2.2.2.2.2.2.2.2.2.2.2.2.2.2.2.2.2.2.2.2.2.2.2.2.2.2.2.2.1) (q.resolve_left (by decide)),
        fun q => (hJ.2.2.2.2.2.2.2.2.2.2.2.2.2.2.2.2.2.2.2.2.2.2.2.2.2.2.2.2.2.2.2.2.2.2.1) (q.resolve_left (by decide)),
        fun q => (hJ.2.2.2.2.2.2.2.2.2.2.2.2.2.2.2.2.2.2.2.2.2.2.2.2.2.2.2.2.2.2.2.2.2.2.2.1) (q.resolve_left (by decide)),
        fun q => (hJ.2.2.2.2.2.2.2.2.2.2.2.2.2.2.2.2.2.2.2.2.2.2.2.2.2.2.2.2.2.2.2.2.2.2.2.2.1) (q.resolve_left (by decide)),
        fun q => (hJ.2.2.2.2.2.2.2.2.2.2.2.2.2.2.2.2.2.2.2.2.2.2.2.2.2.2.2.2.2.2.2.2.2.2.2.2.2.1) (q.resolve_left (by decide)),
        fun _ => by first | exact rfl | exact e29,
        fun _ => by first | exact rfl | exact e30⟩
    exact StepsOk.nil
  case fin =>
    intro L x G w2 hall hJ
    replace R := (hJ.2.2.1)
    replace N := (hJ.2.2.2.2.1)
    obtain ⟨haS, hlS, hnSR, hnSN⟩ := (hJ.2.2.2.2.2.1) (hall 30 (by decide))
    have S := (hJ.2.2.2.2.2.2.2.1) (hall 31 (by decide))
    have u0 := hJ.2.2.2.2.2.2.2.2.2.1 (hall 0 (by decide))
    have u1 := hJ.2.2.2.2.2.2.2.2.2.2.1 (hall 1 (by decide))
    have u2 := hJ.2.2.2.2.2.2.2.2.2.2.2.1 (hall 2 (by decide))
    have u3 := hJ.2.2.2.2.2.2.2.2.2.2.2.2.1 (hall 3 (by decide))
    have u4 := hJ.2.2.2.2.2.2.2.2.2.2.2.2.2.1 (hall 4 (by decide))
    have u5 := hJ.2.2.2.2.2.2.2.2.2.2.2.2.2.2.1 (hall 5 (by decide))
    have u6 := hJ.2.2.2.2.2.2.2.2.2.2.2.2.2.2.2.1 (hall 6 (by decide))
    have u7 := hJ.2.2.2.2.2.2.2.2.2.2.2.2.2.2.2.2.1 (hall 7 (by decide))
    have u8 := hJ.2.2.2.2.2.2.2.2.2.2.2.2.2.2.2.2.2.1 (hall 8 (by decide))
    have u9 := hJ.2.2.2.2.2.2.2.2.2.2.2.2.2.2.2.2.2.2.1 (hall 9 (by decide))
    have u10 := hJ.2.2.2.2.2.2.2.2.2.2.2.2.2.2.2.2.2.2.2.1 (hall 10 (by decide))
    have u11 := hJ.2.2.2.2.2.2.2.2.2.2.2.2.2.2.2.2.2.2.2.2.1 (hall 11 (by decide))
    have u12 := hJ.2.2.2.2.2.2.2.2.2.2.2.2.2.2.2.2.2.2.2.2.2.1 (hall 12 (by decide))
    have u13 := hJ.2.2.2.2.2.2.2.2.2.2.2.2.2.2.2.2.2.2.2.2.2.2.1 (hall 13 (by decide))
    have u14 := hJ.2.2.2.2.2.2.2.2.2.2.2.2.2.2.2.2.2.2.2.2.2.2.2.1 (hall 14 (by decide))
    have u15 := hJ.2.2.2.2.2.2.2.2.2.2.2.2.2.2.2.2.2.2.2.2.2.2.2.2.1 (hall 15 (by decide))
    have u16 := hJ.2.2.2.2.2.2.2.2.2.2.2.2.2.2.2.2.2.2.2.2.2.2.2.2.2.1 (hall 16 (by decide))
    have u17 := hJ.2.2.2.2.2.2.2.2.2.2.2.2.2.2.2.2.2.2.2.2.2.2.2.2.2.2.1 (hall 17 (by decide))
    have u18 := hJ.2.2.2.2.2.2.2.2.2.2.2.2.2.2.2.2.2.2.2.2.2.2.2.2.2.2.2.1 (hall 18 (by decide))
    have u19 := hJ.2.2.2.2.2.2.2.2.2.2.2.2.2.2.2.2.2.2.2.2.2.2.2.2.2.2.2.2.1 (hall 19 (by decide))
    have u20 := hJ.2.2.2.2.2.2.2.2.2.2.2.2.2.2.2.2.2.2.2.2.2.2.2.2.2.2.2.2.2.1 (hall 20 (by decide))
    have u21 := hJ.2.2.2.2.2.2.2.2.2.2.2.2.2.2.2.2.2.2.2.2.2.2.2.2.2.2.2.2.2.2.1 (hall 21 (by decide))
    have u22 := hJ.2.2.2.2.2.2.2.2.2.2.2.2.2.2.2.2.2.2.2.2.2.2.2.2.2.2.2.2.2.2.2.1 (hall 22 (by decide))
    have u23 := hJ.2.2.2.2.2.2.2.2.2.2.2.2.2.2.2.2.2.2.2.2.2.2.2.2.2.2.2.2.2.2.2.2.1 (hall 23 (by decide))
    have u24 := hJ.2.2.2.2.2.2.2.2.2.2.2.2.2.2.2.2.2.2.2.2.2.2.2.2.2.2.2.2.2.2.2.2.2.1 (hall 24 (by decide))
    have u25 := hJ.2.2.2.2.2.2.2.2.2.2.2.2.2.2.2.2.2.2.2.2.2.2.2.2.2.2.2.2.2.2.2.2.2.2.1 (hall 25 (by decide))
    have u26 := hJ.2.2.2.2.2.2.2.2.2.2.2.2.2.2.2.2.2.2.2.2.2.2.2.2.2.2.2.2.2.2.2.2.2.2.2.1 (hall 26 (by decide))
    have u27 := hJ.2.2.2.2.2.2.2.2.2.2.2.2.2.2.2.2.2.2.2.2.2.2.2.2.2.2.2.2.2.2.2.2.2.2.2.2.1 (hall 27 (by decide))
    have u28 := hJ.2.2.2.2.2.2.2.2.2.2.2.2.2.2.2.2.2.2.2.2.2.2.2.2.2.2.2.2.2.2.2.2.2.2.2.2.2.1 (hall 28 (by decide))
    have u29 := hJ.2.2.2.2.2.2.2.2.2.2.2.2.2.2.2.2.2.2.2.2.2.2.2.2.2.2.2.2.2.2.2.2.2.2.2.2.2.2.1 (hall 29 (by decide))
    have u30 := hJ.2.2.2.2.2.2.2.2.2.2.2.2.2.2.2.2.2.2.2.2.2.2.2.2.2.2.2.2.2.2.2.2.2.2.2.2.2.2.2 (hall 30 (by decide))
    replace hB := hJ.1
    simp only [putAll, Act.put, List.setIfInBounds_toArray, List.set_cons_zero, List.set_cons_succ]
    simp only [u0, u1, u2, u3, u4, u5, u6, u7, u8, u9, u10, u11, u12, u13, u14, u15, u16, u17, u18, u19, u20, u21, u22, u23, u24, u25, u26, u27, u28, u29, u30]
    clear hall hJ u0 u1 u2 u3 u4 u5 u6 u7 u8 u9 u10 u11 u12 u13 u14 u15 u16 u17 u18 u19 u20 u21 u22 u23 u24 u25 u26 u27 u28 u29 u30
    generalize G 30 = gS at *
    by_cases h : Lq.det n M = 0
    · have hd : (Lq.det n M == 0) = true := by simpa using h
      have HE := Lib.hid (show Lq.er n M = 14 by rw [Lq.er_ee (by rw [Lq.ee_14 HC.out h]; omega), Lq.ee_14 HC.out h])
      clear h
      obtain ⟨c00, c01, c02, c03, c04, c05, c06, c07, c08⟩ := S.open7
      obtain ⟨r00, r01, r02, r03, r04, r05, r06, r07, r08⟩ := R.open7
      go_wp2_with fail
      refine bodyPost_ret (by simp [results, Try.results19, go_sem, r00, r01, r02, r03, r04, r05, r06, r07, r08]; try rfl) rfl ?_
      exact ⟨sv_no HE.out (by omega), by repeat (first | exact Below.refl _ _ | (with_reducible assumption) | (with_reducible apply bal) | (with_reducible apply bdr) | (with_reducible apply bdnl) | (with_reducible refine bst ?_ (by first | (simp; done) | (simp; omega) | omega) _) | (with_reducible refine bt ?_ (by with_reducible assumption)))⟩
    have hd0 : 0 < Lq.det n M := by have := Lq.det_nn O; omega
    have hd : (Lq.det n M == 0) = false := by simp; omega
    clear h
    by_cases q1 : Wi.in64 (Lq.nr (Lq.sx n M) (Lq.det n M))
    rotate_left
    · have E1 := Lib.hid (Wi.iv_no q1)
      have E2 := Lib.hid (Wi.ib_no q1)
      have HE := Lib.hid (er_pv O hd0 (pv_no1 (y := Lq.nr (Lq.sy n M) (Lq.det n M)) q1))
      clear q1
      obtain ⟨c00, c01, c02, c03, c04, c05, c06, c07, c08⟩ := S.open7
      go_wp2_with fail
      refine (near1_c _ _ _ _ _ OX hd0 (by omega) sx1 sx2).mono ?_
      rw [E1.out, E2.out]
      rintro e w3 ⟨rfl, hb⟩
      clear c00 c01 c02 c03 c04 c05 c06 c07 c08
      replace R := R.keep hb
      replace N := N.keep hb
      replace S := S.keep hb
      replace hB := bt hB hb
      clear hb
      obtain ⟨c00, c01, c02, c03, c04, c05, c06, c07, c08⟩ := S.open7
      go_wp2_with fail
      refine (near1_c _ _ _ _ _ OY hd0 (by omega) sy1 sy2).mono ?_
      rintro e w4 ⟨rfl, hb⟩
      clear c00 c01 c02 c03 c04 c05 c06 c07 c08
      replace R := R.keep hb
      replace N := N.keep hb
      replace S := S.keep hb
      replace hB := bt hB hb
      clear hb
      obtain ⟨s0, s1, s2, s3, s4, s5, s6, s7, s8⟩ := S.open7
      replace R := R.far (p := ⟨gS, 5, none⟩) (by first | (simp; done) | (simp; omega) | omega) (.int .i64 (0))
      replace N := N.far (p := ⟨gS, 5, none⟩) (by first | (simp; done) | (simp; omega) | omega) (.int .i64 (0))
      replace hB := bst hB (p := ⟨gS, 5, none⟩) (by first | (simp; done) | (simp; omega) | omega) (.int .i64 (0))
      replace S := S.set_ 5 (.int .i64 (0))
      replace R := R.far (p := ⟨gS, 6, none⟩) (by first | (simp; done) | (simp; omega) | omega) (.int .i64 (Wi.iv (Lq.nr (Lq.sy n M) (Lq.det n M))))
      replace N := N.far (p := ⟨gS, 6, none⟩) (by first | (simp; done) | (simp; omega) | omega) (.int .i64 (Wi.iv (Lq.nr (Lq.sy n M) (Lq.det n M))))
      replace hB := bst hB (p := ⟨gS, 6, none⟩) (by first | (simp; done) | (simp; omega) | omega) (.int .i64 (Wi.iv (Lq.nr (Lq.sy n M) (Lq.det n M))))
      replace S := S.set_ 6 (.int .i64 (Wi.iv (Lq.nr (Lq.sy n M) (Lq.det n M))))
      simp only [List.setIfInBounds_toArray, List.set_cons_zero, List.set_cons_succ] at S
      obtain ⟨r00, r01, r02, r03, r04, r05, r06, r07, r08⟩ := R.open7
      go_wp2_with fail
      refine bodyPost_ret (by simp [results, Try.results19, go_sem, r00, r01, r02, r03, r04, r05, r06, r07, r08]; try rfl) rfl ?_
      exact ⟨sv_no HE.out (by omega), by repeat (first | exact Below.refl _ _ | (with_reducible assumption) | (with_reducible apply bal) | (with_reducible apply bdr) | (with_reducible apply bdnl) | (with_reducible refine bst ?_ (by first | (simp; done) | (simp; omega) | omega) _) | (with_reducible refine bt ?_ (by with_reducible assumption)))⟩
    by_cases q2 : Wi.in64 (Lq.nr (Lq.sy n M) (Lq.det n M))
    rotate_left
    · have E1 := Lib.hid (Wi.iv_yes q1)
      have E2 := Lib.hid (Wi.ib_yes q1)
      have E3 := Lib.hid (Wi.iv_no q2)
      have E4 := Lib.hid (Wi.ib_no q2)
      have HE := Lib.hid (er_pv O hd0 (pv_no2 (x := Lq.nr (Lq.sx n M) (Lq.det n M)) q2))
      clear q1 q2
      obtain ⟨c00, c01, c02, c03, c04, c05, c06, c07, c08⟩ := S.open7
      go_wp2_with fail
      refine (near1_c _ _ _ _ _ OX hd0 (by omega) sx1 sx2).mono ?_
      rw [E1.out, E2.out]
      rintro e w3 ⟨rfl, hb⟩
      clear c00 c01 c02 c03 c04 c05 c06 c07 c08
      replace R := R.keep hb
      replace N := N.keep hb
      replace S := S.keep hb
      replace hB := bt hB hb
      clear hb
      obtain ⟨c00, c01, c02, c03, c04, c05, c06, c07, c08⟩ := S.open7
      go_wp2_with fail
      refine (near1_c _ _ _ _ _ OY hd0 (by omega) sy1 sy2).mono ?_
      rw [E3.out, E4.out]
      rintro e w4 ⟨rfl, hb⟩
      clear c00 c01 c02 c03 c04 c05 c06 c07 c08
      replace R := R.keep hb
      replace N := N.keep hb
      replace S := S.keep hb
      replace hB := bt hB hb
      clear hb
      obtain ⟨s0, s1, s2, s3, s4, s5, s6, s7, s8⟩ := S.open7
      replace R := R.far (p := ⟨gS, 5, none⟩) (by first | (simp; done) | (simp; omega) | omega) (.int .i64 (Lq.nr (Lq.sx n M) (Lq.det n M)))
      replace N := N.far (p := ⟨gS, 5, none⟩) (by first | (simp; done) | (simp; omega) | omega) (.int .i64 (Lq.nr (Lq.sx n M) (Lq.det n M)))
      replace hB := bst hB (p := ⟨gS, 5, none⟩) (by first | (simp; done) | (simp; omega) | omega) (.int .i64 (Lq.nr (Lq.sx n M) (Lq.det n M)))
      replace S := S.set_ 5 (.int .i64 (Lq.nr (Lq.sx n M) (Lq.det n M)))
      replace R := R.far (p := ⟨gS, 6, none⟩) (by first | (simp; done) | (simp; omega) | omega) (.int .i64 (0))
      replace N := N.far (p := ⟨gS, 6, none⟩) (by first | (simp; done) | (simp; omega) | omega) (.int .i64 (0))
      replace hB := bst hB (p := ⟨gS, 6, none⟩) (by first | (simp; done) | (simp; omega) | omega) (.int .i64 (0))
      replace S := S.set_ 6 (.int .i64 (0))
      simp only [List.setIfInBounds_toArray, List.set_cons_zero, List.set_cons_succ] at S
      obtain ⟨r00, r01, r02, r03, r04, r05, r06, r07, r08⟩ := R.open7
      go_wp2_with fail
      refine bodyPost_ret (by simp [results, Try.results19, go_sem, r00, r01, r02, r03, r04, r05, r06, r07, r08]; try rfl) rfl ?_
      exact ⟨sv_no HE.out (by omega), by repeat (first | exact Below.refl _ _ | (with_reducible assumption) | (with_reducible apply bal) | (with_reducible apply bdr) | (with_reducible apply bdnl) | (with_reducible refine bst ?_ (by first | (simp; done) | (simp; omega) | omega) _) | (with_reducible refine bt ?_ (by with_reducible assumption)))⟩
    cases q3 : Lq.pv (Lq.nr (Lq.sx n M) (Lq.det n M)) (Lq.nr (Lq.sy n M) (Lq.det n M))
    · have E1 := Lib.hid (Wi.iv_yes q1)
      have E2 := Lib.hid (Wi.ib_yes q1)
      have E3 := Lib.hid (Wi.iv_yes q2)
      have E4 := Lib.hid (Wi.ib_yes q2)
      have E5 := Lib.hid q3
      have HE := Lib.hid (er_pv O hd0 q3)
      clear q1 q2 q3
      obtain ⟨c00, c01, c02, c03, c04, c05, c06, c07, c08⟩ := S.open7
      go_wp2_with fail
      refine (near1_c _ _ _ _ _ OX hd0 (by omega) sx1 sx2).mono ?_
      rw [E1.out, E2.out]
      rintro e w3 ⟨rfl, hb⟩
      clear c00 c01 c02 c03 c04 c05 c06 c07 c08
      replace R := R.keep hb
      replace N := N.keep hb
      replace S := S.keep hb
      replace hB := bt hB hb
      clear hb
      obtain ⟨c00, c01, c02, c03, c04, c05, c06, c07, c08⟩ := S.open7
      go_wp2_with fail
      refine (near1_c _ _ _ _ _ OY hd0 (by omega) sy1 sy2).mono ?_
      rw [E3.out, E4.out]
      rintro e w4 ⟨rfl, hb⟩
      clear c00 c01 c02 c03 c04 c05 c06 c07 c08
      replace R := R.keep hb
      replace N := N.keep hb
      replace S := S.keep hb
      replace hB := bt hB hb
      clear hb
      obtain ⟨s0, s1, s2, s3, s4, s5, s6, s7, s8⟩ := S.open7
      replace R := R.far (p := ⟨gS, 5, none⟩) (by first | (simp; done) | (simp; omega) | omega) (.int .i64 (Lq.nr (Lq.sx n M) (Lq.det n M)))
      replace N := N.far (p := ⟨gS, 5, none⟩) (by first | (simp; done) | (simp; omega) | omega) (.int .i64 (Lq.nr (Lq.sx n M) (Lq.det n M)))
      replace hB := bst hB (p := ⟨gS, 5, none⟩) (by first | (simp; done) | (simp; omega) | omega) (.int .i64 (Lq.nr (Lq.sx n M) (Lq.det n M)))
      replace S := S.set_ 5 (.int .i64 (Lq.nr (Lq.sx n M) (Lq.det n M)))
      replace R := R.far (p := ⟨gS, 6, none⟩) (by first | (simp; done) | (simp; omega) | omega) (.int .i64 (Lq.nr (Lq.sy n M) (Lq.det n M)))
      replace N := N.far (p := ⟨gS, 6, none⟩) (by first | (simp; done) | (simp; omega) | omega) (.int .i64 (Lq.nr (Lq.sy n M) (Lq.det n M)))
      replace hB := bst hB (p := ⟨gS, 6, none⟩) (by first | (simp; done) | (simp; omega) | omega) (.int .i64 (Lq.nr (Lq.sy n M) (Lq.det n M)))
      replace S := S.set_ 6 (.int .i64 (Lq.nr (Lq.sy n M) (Lq.det n M)))
      simp only [List.setIfInBounds_toArray, List.set_cons_zero, List.set_cons_succ] at S
      go_wp2_with fail
      refine (pvalid_c _ _ _).mono ?_
      rw [E5.out]
      rintro e w5 ⟨rfl, hb⟩
      clear s0 s1 s2 s3 s4 s5 s6 s7 s8
      replace R := R.keep hb
      replace N := N.keep hb
      replace S := S.keep hb
      replace hB := bt hB hb
      clear hb
      obtain ⟨r00, r01, r02, r03, r04, r05, r06, r07, r08⟩ := R.open7
      go_wp2_with fail
      refine bodyPost_ret (by simp [results, Try.results19, go_sem, r00, r01, r02, r03, r04, r05, r06, r07, r08]; try rfl) rfl ?_
      exact ⟨sv_no HE.out (by omega), by repeat (first | exact Below.refl _ _ | (with_reducible assumption) | (with_reducible apply bal) | (with_reducible apply bdr) | (with_reducible apply bdnl) | (with_reducible refine bst ?_ (by first | (simp; done) | (simp; omega) | omega) _) | (with_reducible refine bt ?_ (by with_reducible assumption)))⟩
    · have E1 := Lib.hid (Wi.iv_yes q1)
      have E2 := Lib.hid (Wi.ib_yes q1)
      have E3 := Lib.hid (Wi.iv_yes q2)
      have E4 := Lib.hid (Wi.ib_yes q2)
      have E5 := Lib.hid q3
      have HE := Lib.hid (Lq.er_ok.2 ⟨O, hd0, q3⟩)
      clear q1 q2 q3
      obtain ⟨c00, c01, c02, c03, c04, c05, c06, c07, c08⟩ := S.open7
      go_wp2_with fail
      refine (near1_c _ _ _ _ _ OX hd0 (by omega) sx1 sx2).mono ?_
      rw [E1.out, E2.out]
      rintro e w3 ⟨rfl, hb⟩
      clear c00 c01 c02 c03 c04 c05 c06 c07 c08
      replace R := R.keep hb
      replace N := N.keep hb
      replace S := S.keep hb
      replace hB := bt hB hb
      clear hb
      obtain ⟨c00, c01, c02, c03, c04, c05, c06, c07, c08⟩ := S.open7
      go_wp2_with fail
      refine (near1_c _ _ _ _ _ OY hd0 (by omega) sy1 sy2).mono ?_
      rw [E3.out, E4.out]
      rintro e w4 ⟨rfl, hb⟩
      clear c00 c01 c02 c03 c04 c05 c06 c07 c08
      replace R := R.keep hb
      replace N := N.keep hb
      replace S := S.keep hb
      replace hB := bt hB hb
      clear hb
      obtain ⟨s0, s1, s2, s3, s4, s5, s6, s7, s8⟩ := S.open7
      replace R := R.far (p := ⟨gS, 5, none⟩) (by first | (simp; done) | (simp; omega) | omega) (.int .i64 (Lq.nr (Lq.sx n M) (Lq.det n M)))
      replace N := N.far (p := ⟨gS, 5, none⟩) (by first | (simp; done) | (simp; omega) | omega) (.int .i64 (Lq.nr (Lq.sx n M) (Lq.det n M)))
      replace hB := bst hB (p := ⟨gS, 5, none⟩) (by first | (simp; done) | (simp; omega) | omega) (.int .i64 (Lq.nr (Lq.sx n M) (Lq.det n M)))
      replace S := S.set_ 5 (.int .i64 (Lq.nr (Lq.sx n M) (Lq.det n M)))
      replace R := R.far (p := ⟨gS, 6, none⟩) (by first | (simp; done) | (simp; omega) | omega) (.int .i64 (Lq.nr (Lq.sy n M) (Lq.det n M)))
      replace N := N.far (p := ⟨gS, 6, none⟩) (by first | (simp; done) | (simp; omega) | omega) (.int .i64 (Lq.nr (Lq.sy n M) (Lq.det n M)))
      replace hB := bst hB (p := ⟨gS, 6, none⟩) (by first | (simp; done) | (simp; omega) | omega) (.int .i64 (Lq.nr (Lq.sy n M) (Lq.det n M)))
      replace S := S.set_ 6 (.int .i64 (Lq.nr (Lq.sy n M) (Lq.det n M)))
      simp only [List.setIfInBounds_toArray, List.set_cons_zero, List.set_cons_succ] at S
      go_wp2_with fail
      refine (pvalid_c _ _ _).mono ?_
      rw [E5.out]
      rintro e w5 ⟨rfl, hb⟩
      clear s0 s1 s2 s3 s4 s5 s6 s7 s8
      replace R := R.keep hb
      replace N := N.keep hb
      replace S := S.keep hb
      replace hB := bt hB hb
      clear hb
      obtain ⟨c00, c01, c02, c03, c04, c05, c06, c07, c08⟩ := S.open7
      obtain ⟨r00, r01, r02, r03, r04, r05, r06, r07, r08⟩ := R.open7
      go_wp2_with fail
      refine bodyPost_ret (by simp [results, Try.results19, go_sem, r00, r01, r02, r03, r04, r05, r06, r07, r08]; try rfl) rfl ?_
      exact ⟨sv_ok HE.out, by repeat (first | exact Below.refl _ _ | (with_reducible assumption) | (with_reducible apply bal) | (with_reducible apply bdr) | (with_reducible apply bdnl) | (with_reducible refine bst ?_ (by first | (simp; done) | (simp; omega) | omega) _) | (with_reducible refine bt ?_ (by with_reducible assumption)))⟩
end Go.Proofs.Ytcgcocingfhleaa
