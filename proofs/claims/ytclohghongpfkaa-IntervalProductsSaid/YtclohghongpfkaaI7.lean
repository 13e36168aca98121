/-
  Contracts: the reference's exact, sums.
-/
import Derived.Test.YtclohghongpfkaaI6
import Derived.Test.YtclohghongpfkaaI4
import Derived.Test.YtclohghongpfkaaIPlain2
import Derived.Test.YtclohghongpfkaaW8
namespace Go.Proofs.Ytclohghongpfkaa
set_option linter.unusedVariables false
set_option linter.unusedSimpArgs false
open Go.RowKit

def two (a b : Int) : Nat → Int := fun i => if i = 0 then a else b
def four (a b c d : Int) : Nat → Int := fun i => if i = 0 then a else if i = 1 then b else if i = 2 then c else d
theorem rd2W {w : World} {g : Nat} {t : TypeId} {a b : Int} (h : Blk w g t #[.int .i64 (Wi.Hq a), .int .u64 (Wi.Lr a), .int .i64 (Wi.Hq b), .int .u64 (Wi.Lr b)]) : Rd w 2 (some ⟨g, 0, none⟩) 2 2 (wv (two a b)) :=
  Rd.of_blk h (by decide) (by decide) fun i j hi hj => by
    match i, j, hi, hj with
    | 0, 0, _, _ => rfl
    | 0, 1, _, _ => rfl
    | 1, 0, _, _ => rfl
    | 1, 1, _, _ => rfl
theorem rd4W {w : World} {g : Nat} {t : TypeId} {a b c d : Int} (h : Blk w g t #[.int .i64 (Wi.Hq a), .int .u64 (Wi.Lr a), .int .i64 (Wi.Hq b), .int .u64 (Wi.Lr b), .int .i64 (Wi.Hq c), .int .u64 (Wi.Lr c), .int .i64 (Wi.Hq d), .int .u64 (Wi.Lr d)]) : Rd w 2 (some ⟨g, 0, none⟩) 4 4 (wv (four a b c d)) :=
  Rd.of_blk h (by decide) (by decide) fun i j hi hj => by
    match i, j, hi, hj with
    | 0, 0, _, _ => rfl
    | 0, 1, _, _ => rfl
    | 1, 0, _, _ => rfl
    | 1, 1, _, _ => rfl
    | 2, 0, _, _ => rfl
    | 2, 1, _, _ => rfl
    | 3, 0, _, _ => rfl
    | 3, 1, _, _ => rfl
theorem mn_two (a b : Int) : Iv.mnU (two a b) 2 = min a b := by simp [Iv.mnU, two]; (repeat' split) <;> omega
theorem mx_two (a b : Int) : Iv.mxU (two a b) 2 = max a b := by simp [Iv.mxU, two]; (repeat' split) <;> omega
theorem mn_four (a b c d : Int) : Iv.mnU (four a b c d) 4 = Iv.mn4 a b c d := by simp [Iv.mnU, four, Iv.mn4]; (repeat' split) <;> omega
theorem mx_four (a b c d : Int) : Iv.mxU (four a b c d) 4 = Iv.mx4 a b c d := by simp [Iv.mxU, four, Iv.mx4]; (repeat' split) <;> omega
theorem two_W {a b : Int} (h : Wi.inW a) (h2 : Wi.inW b) : ∀ i, i < 2 → Wi.inW (two a b i) := fun i _ => by unfold two; split <;> assumption
theorem four_W {a b c d : Int} (h : Wi.inW a) (h2 : Wi.inW b) (h3 : Wi.inW c) (h4 : Wi.inW d) : ∀ i, i < 4 → Wi.inW (four a b c d i) := fun i _ => by unfold four; (repeat' split) <;> assumption
theorem rs_two {a b : Int} (h : a ≤ b) : Iv.rs (Iv.mnU (two a b) 2) (Iv.mxU (two a b) 2) = Iv.rs a b := by rw [mn_two, mx_two, show min a b = a from by omega, show max a b = b from by omega]

set_option maxRecDepth 100000 in
set_option maxHeartbeats 4000000 in
theorem rexact_c (A : Option Addr) (n c : Nat) (N : Nat → Int) (w : World) (RA : Rd w 2 A n c (wv N)) (hn : 0 < n) (hN : ∀ i, i < n → Wi.inW (N i)) : Calls Try.prog 58 #[.slice A n c] w fun e w' =>
    e = .returned (.tuple #[.agg #[.int .i64 (Iv.rs (Iv.mnU N n) (Iv.mxU N n)).lo, .int .i64 (Iv.rs (Iv.mnU N n) (Iv.mxU N n)).hi], .int .i64 (Iv.rs (Iv.mnU N n) (Iv.mxU N n)).er]) ∧ Below w.heap.size w w' := by
  go_enter Try.func58, Try.ntmps58
  have R := Blk.new w 23 #[.int .i64 (0), .int .i64 (0)]
  have hB := ba w (.cells #[.int .i64 (0), .int .i64 (0)] 23)
  obtain ⟨c00, c01, c02, c03⟩ := R.open2
  go_wp2_with fail
  refine (made_c _ _ _ _ _ _ _ _ (RA.alloc _) (RA.alloc _) hn hN hN).mono ?_
  rintro e w1 ⟨rfl, hb⟩
  clear c00 c01 c02 c03
  replace R := R.keep hb
  replace hB := bt hB hb
  clear hb
  obtain ⟨r00, r01, r02, r03⟩ := R.open2
  go_wp2_with fail
  refine bodyPost_ret (by simp [results, Try.results58, go_sem, r00, r01, r02, r03]; try rfl) rfl ?_
  exact ⟨rfl, by repeat (first | exact Below.refl _ _ | (with_reducible assumption) | (with_reducible apply bal) | (with_reducible apply bdr) | (with_reducible apply bdnl) | (with_reducible refine bst ?_ (by first | (simp; done) | (simp; omega) | omega) _) | (with_reducible refine bt ?_ (by with_reducible assumption)))⟩
set_option maxRecDepth 100000 in
set_option maxHeartbeats 4000000 in
theorem radd_ci (l h l' h' : Int) (w : World) : Calls Try.prog 45 #[.agg #[.int .i64 l, .int .i64 h], .agg #[.int .i64 l', .int .i64 h']] w fun e w' =>
    e = .returned (.tuple #[.agg #[.int .i64 (Iv.add l h l' h').lo, .int .i64 (Iv.add l h l' h').hi], .int .i64 (Iv.add l h l' h').er]) ∧ Below w.heap.size w w' := by
  unfold Iv.add
  by_cases v : Iv.Vd l h
  rotate_left
  · rw [if_neg (by rintro ⟨q1, q2⟩; exact v q1)]
    have e1 := Lib.hid (Iv.vb_no v)
    clear v
    go_enter Try.func45, Try.ntmps45
    have X := Blk.new w 23 #[.int .i64 (l), .int .i64 (h)]
    have hB := ba w (.cells #[.int .i64 (l), .int .i64 (h)] 23)
    have Y := Blk.new1 w (.cells #[.int .i64 (l), .int .i64 (h)] 23) 23 #[.int .i64 (l'), .int .i64 (h')]
    replace X := X.alloc (.cells #[.int .i64 (l'), .int .i64 (h')] 23)
    replace hB := bal hB (.cells #[.int .i64 (l'), .int .i64 (h')] 23)
    have R := Blk.new2 w (.cells #[.int .i64 (l), .int .i64 (h)] 23) (.cells #[.int .i64 (l'), .int .i64 (h')] 23) 23 #[.int .i64 (0), .int .i64 (0)]
    replace X := X.alloc (.cells #[.int .i64 (0), .int .i64 (0)] 23)
    replace Y := Y.alloc (.cells #[.int .i64 (0), .int .i64 (0)] 23)
    replace hB := bal hB (.cells #[.int .i64 (0), .int .i64 (0)] 23)
    obtain ⟨c00, c01, c02, c03⟩ := X.open2
    go_wp2_with fail
    refine (rvalid_c _ _ _).mono ?_
    rw [e1.out]
    rintro e w1 ⟨rfl, hb⟩
    clear c00 c01 c02 c03
    replace X := X.keep hb
    replace Y := Y.keep hb
    replace R := R.keep hb
    replace hB := bt hB hb
    clear hb
    obtain ⟨r00, r01, r02, r03⟩ := R.open2
    go_wp2_with fail
    refine bodyPost_ret (by simp [results, Try.results45, go_sem, r00, r01, r02, r03]; try rfl) rfl ?_
    exact ⟨rfl, by repeat (first | exact Below.refl _ _ | (with_reducible assumption) | (with_reducible apply bal) | (with_reducible apply bdr) | (with_reducible apply bdnl) | (with_reducible refine bst ?_ (by first | (simp; done) | (simp; omega) | omega) _) | (with_reducible refine bt ?_ (by with_reducible assumption)))⟩
  by_cases v2 : Iv.Vd l' h'
  rotate_left
  · rw [if_neg (by rintro ⟨q1, q2⟩; exact v2 q2)]
    have e1 := Lib.hid (Iv.vb_yes v)
    have e2 := Lib.hid (Iv.vb_no v2)
    clear v v2
    go_enter Try.func45, Try.ntmps45
    have X := Blk.new w 23 #[.int .i64 (l), .int .i64 (h)]
    have hB := ba w (.cells #[.int .i64 (l), .int .i64 (h)] 23)
    have Y := Blk.new1 w (.cells #[.int .i64 (l), .int .i64 (h)] 23) 23 #[.int .i64 (l'), .int .i64 (h')]
    replace X := X.alloc (.cells #[.int .i64 (l'), .int .i64 (h')] 23)
    replace hB := bal hB (.cells #[.int .i64 (l'), .int .i64 (h')] 23)
    have R := Blk.new2 w (.cells #[.int .i64 (l), .int .i64 (h)] 23) (.cells #[.int .i64 (l'), .int .i64 (h')] 23) 23 #[.int .i64 (0), .int .i64 (0)]
    replace X := X.alloc (.cells #[.int .i64 (0), .int .i64 (0)] 23)
    replace Y := Y.alloc (.cells #[.int .i64 (0), .int .i64 (0)] 23)
    replace hB := bal hB (.cells #[.int .i64 (0), .int .i64 (0)] 23)
    obtain ⟨c00, c01, c02, c03⟩ := X.open2
    go_wp2_with fail
    refine (rvalid_c _ _ _).mono ?_
    rw [e1.out]
    rintro e w1 ⟨rfl, hb⟩
    clear c00 c01 c02 c03
    replace X := X.keep hb
    replace Y := Y.keep hb
    replace R := R.keep hb
    replace hB := bt hB hb
    clear hb
    obtain ⟨c00, c01, c02, c03⟩ := Y.open2
    go_wp2_with fail
    refine (rvalid_c _ _ _).mono ?_
    rw [e2.out]
    rintro e w2 ⟨rfl, hb⟩
    clear c00 c01 c02 c03
    replace X := X.keep hb
    replace Y := Y.keep hb
    replace R := R.keep hb
    replace hB := bt hB hb
    clear hb
    obtain ⟨r00, r01, r02, r03⟩ := R.open2
    go_wp2_with fail
    refine bodyPost_ret (by simp [results, Try.results45, go_sem, r00, r01, r02, r03]; try rfl) rfl ?_
    exact ⟨rfl, by repeat (first | exact Below.refl _ _ | (with_reducible assumption) | (with_reducible apply bal) | (with_reducible apply bdr) | (with_reducible apply bdnl) | (with_reducible refine bst ?_ (by first | (simp; done) | (simp; omega) | omega) _) | (with_reducible refine bt ?_ (by with_reducible assumption)))⟩
  rw [if_pos ⟨v, v2⟩]
  have e1 := Lib.hid (Iv.vb_yes v)
  have e2 := Lib.hid (Iv.vb_yes v2)
  have E := Lib.hid (rs_two (a := l + l') (b := h + h') (by unfold Iv.Vd at *; omega))
  have x1 : -9223372036854775808 ≤ l := by unfold Iv.Vd at *; omega
  have x2 : l ≤ 9223372036854775807 := by unfold Iv.Vd at *; omega
  have xx1 : -9223372036854775808 ≤ h := by unfold Iv.Vd at *; omega
  have xx2 : h ≤ 9223372036854775807 := by unfold Iv.Vd at *; omega
  have y1 : -9223372036854775808 ≤ l' := by unfold Iv.Vd at *; omega
  have y2 : l' ≤ 9223372036854775807 := by unfold Iv.Vd at *; omega
  have yy1 : -9223372036854775808 ≤ h' := by unfold Iv.Vd at *; omega
  have yy2 : h' ≤ 9223372036854775807 := by unfold Iv.Vd at *; omega
  have o1 := Wi.wd_self (show Wi.inW (l) from by unfold Iv.Vd at *; unfold Wi.inW; omega)
  have o2 := Wi.wd_self (show Wi.inW (l') from by unfold Iv.Vd at *; unfold Wi.inW; omega)
  have o3 := Wi.wd_self (show Wi.inW (h) from by unfold Iv.Vd at *; unfold Wi.inW; omega)
  have o4 := Wi.wd_self (show Wi.inW (h') from by unfold Iv.Vd at *; unfold Wi.inW; omega)
  have o5 := Wi.wd_self (show Wi.inW (l + l') from by unfold Iv.Vd at *; unfold Wi.inW; omega)
  have o6 := Wi.wd_self (show Wi.inW (h + h') from by unfold Iv.Vd at *; unfold Wi.inW; omega)
  have ra := Lib.hid (Wi.rv_yes (v := l + l') (by unfold Iv.Vd at *; unfold Wi.inW; omega))
  have ka := Lib.hid (Wi.okb_yes (v := l + l') (by unfold Iv.Vd at *; unfold Wi.inW; omega))
  have rb := Lib.hid (Wi.rv_yes (v := h + h') (by unfold Iv.Vd at *; unfold Wi.inW; omega))
  have kb := Lib.hid (Wi.okb_yes (v := h + h') (by unfold Iv.Vd at *; unfold Wi.inW; omega))
  clear v v2
  go_enter Try.func45, Try.ntmps45
  have X := Blk.new w 23 #[.int .i64 (l), .int .i64 (h)]
  have hB := ba w (.cells #[.int .i64 (l), .int .i64 (h)] 23)
  have Y := Blk.new1 w (.cells #[.int .i64 (l), .int .i64 (h)] 23) 23 #[.int .i64 (l'), .int .i64 (h')]
  replace X := X.alloc (.cells #[.int .i64 (l'), .int .i64 (h')] 23)
  replace hB := bal hB (.cells #[.int .i64 (l'), .int .i64 (h')] 23)
  have R := Blk.new2 w (.cells #[.int .i64 (l), .int .i64 (h)] 23) (.cells #[.int .i64 (l'), .int .i64 (h')] 23) 23 #[.int .i64 (0), .int .i64 (0)]
  replace X := X.alloc (.cells #[.int .i64 (0), .int .i64 (0)] 23)
  replace Y := Y.alloc (.cells #[.int .i64 (0), .int .i64 (0)] 23)
  replace hB := bal hB (.cells #[.int .i64 (0), .int .i64 (0)] 23)
  obtain ⟨c00, c01, c02, c03⟩ := X.open2
  go_wp2_with fail
  refine (rvalid_c _ _ _).mono ?_
  rw [e1.out]
  rintro e w1 ⟨rfl, hb⟩
  clear c00 c01 c02 c03
  replace X := X.keep hb
  replace Y := Y.keep hb
  replace R := R.keep hb
  replace hB := bt hB hb
  clear hb
  obtain ⟨c00, c01, c02, c03⟩ := Y.open2
  go_wp2_with fail
  refine (rvalid_c _ _ _).mono ?_
  rw [e2.out]
  rintro e w2 ⟨rfl, hb⟩
  clear c00 c01 c02 c03
  replace X := X.keep hb
  replace Y := Y.keep hb
  replace R := R.keep hb
  replace hB := bt hB hb
  clear hb
  go_wp2_with fail
  refine wp_region_inv (fun L x G wx => Below w.heap.size w wx
        ∧ w.heap.size < wx.heap.size
        ∧ Blk wx (w.heap.size) 23 #[.int .i64 (l), .int .i64 (h)]
        ∧ w.heap.size + 1 < wx.heap.size
        ∧ Blk wx (w.heap.size + 1) 23 #[.int .i64 (l'), .int .i64 (h')]
        ∧ w.heap.size + 1 + 1 < wx.heap.size
        ∧ Blk wx (w.heap.size + 1 + 1) 23 #[.int .i64 (0), .int .i64 (0)]
        ∧ (L 10 → w.heap.size ≤ G 10 ∧ G 10 < wx.heap.size ∧ w.heap.size ≠ G 10 ∧ w.heap.size + 1 ≠ G 10 ∧ w.heap.size + 1 + 1 ≠ G 10)
        ∧ (L 10 → ¬ L 11 → Blk wx (G 10) 40 #[.int .i64 (0), .int .u64 (0)])
        ∧ (L 11 → Blk wx (G 10) 40 #[.int .i64 (Wi.Hq (l + l')), .int .u64 (Wi.Lr (l + l'))])
        ∧ (L 11 → L 10)
        ∧ (L 0 → x 20 = .pointer (some ⟨w.heap.size, 0, none⟩))
        ∧ (L 1 → x 21 = .int .i64 (l))
        ∧ (L 2 → x 22 = .agg #[.int .i64 (Wi.Hq (l)), .int .u64 (Wi.Lr (l))])
        ∧ (L 3 → x 23 = .pointer (some ⟨w.heap.size + 1, 0, none⟩))
        ∧ (L 4 → x 24 = .int .i64 (l'))
        ∧ (L 5 → x 25 = .agg #[.int .i64 (Wi.Hq (l')), .int .u64 (Wi.Lr (l'))])
        ∧ (L 6 → x 26 = .tuple #[.agg #[.int .i64 (Wi.Hq (l + l')), .int .u64 (Wi.Lr (l + l'))], .bool (true)])
        ∧ (L 7 → x 19 = .tuple #[.agg #[.int .i64 (Wi.Hq (l + l')), .int .u64 (Wi.Lr (l + l'))], .bool (true)])
        ∧ (L 8 → x 27 = .agg #[.int .i64 (Wi.Hq (l + l')), .int .u64 (Wi.Lr (l + l'))])
        ∧ (L 9 → x 28 = .bool (true))
        ∧ (L 10 → x 6 = .pointer (some ⟨G 10, 0, none⟩))
        ∧ (L 12 → x 7 = .bool (true))) [20, 21, 22, 23, 24, 25, 26, 19, 27, 28, 6, 7] 13 (by kernel_rfl) (by kernel_rfl) (by kernel_rfl) ?h0 ?st ?fin
  case h0 =>
    exact ⟨bdr hB, Blk.lt X.drew, X.drew, Blk.lt Y.drew, Y.drew, Blk.lt R.drew, R.drew, fun q => q.elim, fun q => q.elim, fun q => q.elim, fun q => q.elim, fun q => q.elim, fun q => q.elim, fun q => q.elim, fun q => q.elim, fun q => q.elim, fun q => q.elim, fun q => q.elim, fun q => q.elim, fun q => q.elim, fun q => q.elim, fun q => q.elim, fun q => q.elim⟩
  case st =>
    refine StepsOk.cons (i := 0) rfl (fun L x G w1 K Q hn hp hJ hK => ?_) ?_
    · skip
      simp only [putAll, Act.put, List.setIfInBounds_toArray, List.set_cons_zero, List.set_cons_succ]
      go_simp
      refine hK _ G _ (by kernel_rfl) ?_
      exact ⟨(hJ.1),
        (hJ.2.1),
        (hJ.2.2.1),
        (hJ.2.2.2.1),
        (hJ.2.2.2.2.1),
        (hJ.2.2.2.2.2.1),
        (hJ.2.2.2.2.2.2.1),
        fun q => (hJ.2.2.2.2.2.2.2.1) (q.resolve_left (by decide)),
        fun q n => (hJ.2.2.2.2.2.2.2.2.1) (q.resolve_left (by decide)) (fun m => n (.inr m)),
        fun q => (hJ.2.2.2.2.2.2.2.2.2.1) (q.resolve_left (by decide)),
        fun q => .inr ((hJ.2.2.2.2.2.2.2.2.2.2.1) (q.resolve_left (by decide))),
        fun _ => rfl,
        fun q => (hJ.2.2.2.2.2.2.2.2.2.2.2.2.1) (q.resolve_left (by decide)),
        fun q => (hJ.2.2.2.2.2.2.2.2.2.2.2.2.2.1) (q.resolve_left (by decide)),
        fun q => (hJ.2.2.2.2.2.2.2.2.2.2.2.2.2.2.1) (q.resolve_left (by decide)),
        fun q => (hJ.2.2.2.2.2.2.2.2.2.2.2.2.2.2.2.1) (q.resolve_left (by decide)),
        fun q => (hJ.2.2.2.2.2.2.2.2.2.2.2.2.2.2.2.2.1) (q.resolve_left (by decide)),
        fun q => (hJ.2.2.2.2.2.2.2.2.2.2.2.2.2.2.2.2.2.1) (q.resolve_left (by decide)),
        fun q => (hJ.2.2.2.2.2.2.2.2.2.2.2.2.2.2.2.2.2.2.1) (q.resolve_left (by decide)),
        fun q => (hJ.2.2.2.2.2.2.2.2.2.2.2.2.2.2.2.2.2.2.2.1) (q.resolve_left (by decide)),
        fun q => (hJ.2.2.2.2.2.2.2.2.2.2.2.2.2.2.2.2.2.2.2.2.1) (q.resolve_left (by decide)),
        fun q => (hJ.2.2.2.2.2.2.2.2.2.2.2.2.2.2.2.2.2.2.2.2.2.1) (q.resolve_left (by decide)),
        fun q => (hJ.2.2.2.2.2.2.2.2.2.2.2.2.2.2.2.2.2.2.2.2.2.2) (q.resolve_left (by decide))⟩
    refine StepsOk.cons (i := 1) rfl (fun L x G w1 K Q hn hp hJ hK => ?_) ?_
    · skip
      have p0 : L 0 := hp ⟨0, .data⟩ (by simp) rfl
      have e0 := (hJ.2.2.2.2.2.2.2.2.2.2.2.1) p0
      have hc := Blk.open2 ((hJ.2.2.1))
      have c0 := hc.1
      have c1 := hc.2.1
      have c2 := hc.2.2.1
      have c3 := hc.2.2.2
      clear hc
      simp only [putAll, Act.put, List.setIfInBounds_toArray, List.set_cons_zero, List.set_cons_succ]
      go_simp
      refine hK _ G _ (by kernel_rfl) ?_
      exact ⟨(hJ.1),
        (hJ.2.1),
        (hJ.2.2.1),
        (hJ.2.2.2.1),
        (hJ.2.2.2.2.1),
        (hJ.2.2.2.2.2.1),
        (hJ.2.2.2.2.2.2.1),
        fun q => (hJ.2.2.2.2.2.2.2.1) (q.resolve_left (by decide)),
        fun q n => (hJ.2.2.2.2.2.2.2.2.1) (q.resolve_left (by decide)) (fun m => n (.inr m)),
        fun q => (hJ.2.2.2.2.2.2.2.2.2.1) (q.resolve_left (by decide)),
        fun q => .inr ((hJ.2.2.2.2.2.2.2.2.2.2.1) (q.resolve_left (by decide))),
        fun _ => by first | exact rfl | exact e0,
        fun _ => rfl,
        fun q => (hJ.2.2.2.2.2.2.2.2.2.2.2.2.2.1) (q.resolve_left (by decide)),
        fun q => (hJ.2.2.2.2.2.2.2.2.2.2.2.2.2.2.1) (q.resolve_left (by decide)),
        fun q => (hJ.2.2.2.2.2.2.2.2.2.2.2.2.2.2.2.1) (q.resolve_left (by decide)),
        fun q => (hJ.2.2.2.2.2.2.2.2.2.2.2.2.2.2.2.2.1) (q.resolve_left (by decide)),
        fun q => (hJ.2.2.2.2.2.2.2.2.2.2.2.2.2.2.2.2.2.1) (q.resolve_left (by decide)),
        fun q => (hJ.2.2.2.2.2.2.2.2.2.2.2.2.2.2.2.2.2.2.1) (q.resolve_left (by decide)),
        fun q => (hJ.2.2.2.2.2.2.2.2.2.2.2.2.2.2.2.2.2.2.2.1) (q.resolve_left (by decide)),
        fun q => (hJ.2.2.2.2.2.2.2.2.2.2.2.2.2.2.2.2.2.2.2.2.1) (q.resolve_left (by decide)),
        fun q => (hJ.2.2.2.2.2.2.2.2.2.2.2.2.2.2.2.2.2.2.2.2.2.1) (q.resolve_left (by decide)),
        fun q => (hJ.2.2.2.2.2.2.2.2.2.2.2.2.2.2.2.2.2.2.2.2.2.2) (q.resolve_left (by decide))⟩
    refine StepsOk.cons (i := 2) rfl (fun L x G w1 K Q hn hp hJ hK => ?_) ?_
    · skip
      have p1 : L 1 := hp ⟨1, .data⟩ (by simp) rfl
      have e1 := (hJ.2.2.2.2.2.2.2.2.2.2.2.2.1) p1
      simp only [putAll, Act.put, List.setIfInBounds_toArray, List.set_cons_zero, List.set_cons_succ]
      go_simp
      refine (rof_c _ _ x1 x2).mono ?_
      rintro e w2 ⟨rfl, hb⟩
      have hz := hb.size
      try go_simp
      refine hK _ G _ (by kernel_rfl) ?_
      exact ⟨bt (hJ.1) hb,
        Nat.lt_of_lt_of_le (hJ.2.1) hb.size,
        Blk.keep ((hJ.2.2.1)) hb,
        Nat.lt_of_lt_of_le (hJ.2.2.2.1) hb.size,
        Blk.keep ((hJ.2.2.2.2.1)) hb,
        Nat.lt_of_lt_of_le (hJ.2.2.2.2.2.1) hb.size,
        Blk.keep ((hJ.2.2.2.2.2.2.1)) hb,
        fun q => ⟨((hJ.2.2.2.2.2.2.2.1) (q.resolve_left (by decide))).1, by have := ((hJ.2.2.2.2.2.2.2.1) (q.resolve_left (by decide))).2.1; omega, ((hJ.2.2.2.2.2.2.2.1) (q.resolve_left (by decide))).2.2⟩,
        fun q n => Blk.keep ((hJ.2.2.2.2.2.2.2.2.1) (q.resolve_left (by decide)) (fun m => n (.inr m))) hb,
        fun q => Blk.keep ((hJ.2.2.2.2.2.2.2.2.2.1) (q.resolve_left (by decide))) hb,
        fun q => .inr ((hJ.2.2.2.2.2.2.2.2.2.2.1) (q.resolve_left (by decide))),
        fun q => (hJ.2.2.2.2.2.2.2.2.2.2.2.1) (q.resolve_left (by decide)),
        fun _ => by first | exact rfl | exact e1,
        fun _ => rfl,
        fun q => (hJ.2.2.2.2.2.2.2.2.2.2.2.2.2.2.1) (q.resolve_left (by decide)),
        fun q => (hJ.2.2.2.2.2.2.2.2.2.2.2.2.2.2.2.1) (q.resolve_left (by decide)),
        fun q => (hJ.2.2.2.2.2.2.2.2.2.2.2.2.2.2.2.2.1) (q.resolve_left (by decide)),
        fun q => (hJ.2.2.2.2.2.2.2.2.2.2.2.2.2.2.2.2.2.1) (q.resolve_left (by decide)),
        fun q => (hJ.2.2.2.2.2.2.2.2.2.2.2.2.2.2.2.2.2.2.1) (q.resolve_left (by decide)),
        fun q => (hJ.2.2.2.2.2.2.2.2.2.2.2.2.2.2.2.2.2.2.2.1) (q.resolve_left (by decide)),
        fun q => (hJ.2.2.2.2.2.2.2.2.2.2.2.2.2.2.2.2.2.2.2.2.1) (q.resolve_left (by decide)),
        fun q => (hJ.2.2.2.2.2.2.2.2.2.2.2.2.2.2.2.2.2.2.2.2.2.1) (q.resolve_left (by decide)),
        fun q => (hJ.2.2.2.2.2.2.2.2.2.2.2.2.2.2.2.2.2.2.2.2.2.2) (q.resolve_left (by decide))⟩
    refine StepsOk.cons (i := 3) rfl (fun L x G w1 K Q hn hp hJ hK => ?_) ?_
    · skip
      simp only [putAll, Act.put, List.setIfInBounds_toArray, List.set_cons_zero, List.set_cons_succ]
      go_simp
      refine hK _ G _ (by kernel_rfl) ?_
      exact ⟨(hJ.1),
        (hJ.2.1),
        (hJ.2.2.1),
        (hJ.2.2.2.1),
        (hJ.2.2.2.2.1),
        (hJ.2.2.2.2.2.1),
        (hJ.2.2.2.2.2.2.1),
        fun q => (hJ.2.2.2.2.2.2.2.1) (q.resolve_left (by decide)),
        fun q n => (hJ.2.2.2.2.2.2.2.2.1) (q.resolve_left (by decide)) (fun m => n (.inr m)),
        fun q => (hJ.2.2.2.2.2.2.2.2.2.1) (q.resolve_left (by decide)),
        fun q => .inr ((hJ.2.2.2.2.2.2.2.2.2.2.1) (q.resolve_left (by decide))),
        fun q => (hJ.2.2.2.2.2.2.2.2.2.2.2.1) (q.resolve_left (by decide)),
        fun q => (hJ.2.2.2.2.2.2.2.2.2.2.2.2.1) (q.resolve_left (by decide)),
        fun q => (hJ.2.2.2.2.2.2.2.2.2.2.2.2.2.1) (q.resolve_left (by decide)),
        fun _ => rfl,
        fun q => (hJ.2.2.2.2.2.2.2.2.2.2.2.2.2.2.2.1) (q.resolve_left (by decide)),
        fun q => (hJ.2.2.2.2.2.2.2.2.2.2.2.2.2.2.2.2.1) (q.resolve_left (by decide)),
        fun q => (hJ.2.2.2.2.2.2.2.2.2.2.2.2.2.2.2.2.2.1) (q.resolve_left (by decide)),
        fun q => (hJ.2.2.2.2.2.2.2.2.2.2.2.2.2.2.2.2.2.2.1) (q.resolve_left (by decide)),
        fun q => (hJ.2.2.2.2.2.2.2.2.2.2.2.2.2.2.2.2.2.2.2.1) (q.resolve_left (by decide)),
        fun q => (hJ.2.2.2.2.2.2.2.2.2.2.2.2.2.2.2.2.2.2.2.2.1) (q.resolve_left (by decide)),
        fun q => (hJ.2.2.2.2.2.2.2.2.2.2.2.2.2.2.2.2.2.2.2.2.2.1) (q.resolve_left (by decide)),
        fun q => (hJ.2.2.2.2.2.2.2.2.2.2.2.2.2.2.2.2.2.2.2.2.2.2) (q.resolve_left (by decide))⟩
    refine StepsOk.cons (i := 4) rfl (fun L x G w1 K Q hn hp hJ hK => ?_) ?_
    · skip
      have p3 : L 3 := hp ⟨3, .data⟩ (by simp) rfl
      have e3 := (hJ.2.2.2.2.2.2.2.2.2.2.2.2.2.2.1) p3
      have hc := Blk.open2 ((hJ.2.2.2.2.1))
      have c0 := hc.1
      have c1 := hc.2.1
      have c2 := hc.2.2.1
      have c3 := hc.2.2.2
      clear hc
      simp only [putAll, Act.put, List.setIfInBounds_toArray, List.set_cons_zero, List.set_cons_succ]
      go_simp
      refine hK _ G _ (by kernel_rfl) ?_
      exact ⟨(hJ.1),
        (hJ.2.1),
        (hJ.2.2.1),
        (hJ.2.2.2.1),
        (hJ.2.2.2.2.1),
        (hJ.2.2.2.2.2.1),
        (hJ.2.2.2.2.2.2.1),
        fun q => (hJ.2.2.2.2.2.2.2.1) (q.resolve_left (by decide)),
        fun q n => (hJ.2.2.2.2.2.2.2.2.1) (q.resolve_left (by decide)) (fun m => n (.inr m)),
        fun q => (hJ.2.2.2.2.2.2.2.2.2.1) (q.resolve_left (by decide)),
        fun q => .inr ((hJ.2.2.2.2.2.2.2.2.2.2.1) (q.resolve_left (by decide))),
        fun q => (hJ.2.2.2.2.2.2.2.2.2.2.2.1) (q.resolve_left (by decide)),
        fun q => (hJ.2.2.2.2.2.2.2.2.2.2.2.2.1) (q.resolve_left (by decide)),
        fun q => (hJ.2.2.2.2.2.2.2.2.2.2.2.2.2.1) (q.resolve_left (by decide)),
        fun _ => by first | exact rfl | exact e3,
        fun _ => rfl,
        fun q => (hJ.2.2.2.2.2.2.2.2.2.2.2.2.2.2.2.2.1) (q.resolve_left (by decide)),
        fun q => (hJ.2.2.2.2.2.2.2.2.2.2.2.2.2.2.2.2.2.1) (q.resolve_left (by decide)),
        fun q => (hJ.2.2.2.2.2.2.2.2.2.2.2.2.2.2.2.2.2.2.1) (q.resolve_left (by decide)),
        fun q => (hJ.2.2.2.2.2.2.2.2.2.2.2.2.2.2.2.2.2.2.2.1) (q.resolve_left (by decide)),
        fun q => (hJ.2.2.2.2.2.2.2.2.2.2.2.2.2.2.2.2.2.2.2.2.1) (q.resolve_left (by decide)),
        fun q => (hJ.2.2.2.2.2.2.2.2.2.2.2.2.2.2.2.2.2.2.2.2.2.1) (q.resolve_left (by decide)),
        fun q => (hJ.2.2.2.2.2.2.2.2.2.2.2.2.2.2.2.2.2.2.2.2.2.2) (q.resolve_left (by decide))⟩
    refine StepsOk.cons (i := 5) rfl (fun L x G w1 K Q hn hp hJ hK => ?_) ?_
    · skip
      have p4 : L 4 := hp ⟨4, .data⟩ (by simp) rfl
      have e4 := (hJ.2.2.2.2.2.2.2.2.2.2.2.2.2.2.2.1) p4
      simp only [putAll, Act.put, List.setIfInBounds_toArray, List.set_cons_zero, List.set_cons_succ]
      go_simp
      refine (rof_c _ _ y1 y2).mono ?_
      rintro e w2 ⟨rfl, hb⟩
      have hz := hb.size
      try go_simp
      refine hK _ G _ (by kernel_rfl) ?_
      exact ⟨bt (hJ.1) hb,
        Nat.lt_of_lt_of_le (hJ.2.1) hb.size,
        Blk.keep ((hJ.2.2.1)) hb,
        Nat.lt_of_lt_of_le (hJ.2.2.2.1) hb.size,
        Blk.keep ((hJ.2.2.2.2.1)) hb,
        Nat.lt_of_lt_of_le (hJ.2.2.2.2.2.1) hb.size,
        Blk.keep ((hJ.2.2.2.2.2.2.1)) hb,
        fun q => ⟨((hJ.2.2.2.2.2.2.2.1) (q.resolve_left (by decide))).1, by have := ((hJ.2.2.2.2.2.2.2.1) (q.resolve_left (by decide))).2.1; omega, ((hJ.2.2.2.2.2.2.2.1) (q.resolve_left (by decide))).2.2⟩,
        fun q n => Blk.keep ((hJ.2.2.2.2.2.2.2.2.1) (q.resolve_left (by decide)) (fun m => n (.inr m))) hb,
        fun q => Blk.keep ((hJ.2.2.2.2.2.2.2.2.2.1) (q.resolve_left (by decide))) hb,
        fun q => .inr ((hJ.2.2.2.2.2.2.2.2.2.2.1) (q.resolve_left (by decide))),
        fun q => (hJ.2.2.2.2.2.2.2.2.2.2.2.1) (q.resolve_left (by decide)),
        fun q => (hJ.2.2.2.2.2.2.2.2.2.2.2.2.1) (q.resolve_left (by decide)),
        fun q => (hJ.2.2.2.2.2.2.2.2.2.2.2.2.2.1) (q.resolve_left (by decide)),
        fun q => (hJ.2.2.2.2.2.2.2.2.2.2.2.2.2.2.1) (q.resolve_left (by decide)),
        fun _ => by first | exact rfl | exact e4,
        fun _ => rfl,
        fun q => (hJ.2.2.2.2.2.2.2.2.2.2.2.2.2.2.2.2.2.1) (q.resolve_left (by decide)),
        fun q => (hJ.2.2.2.2.2.2.2.2.2.2.2.2.2.2.2.2.2.2.1) (q.resolve_left (by decide)),
        fun q => (hJ.2.2.2.2.2.2.2.2.2.2.2.2.2.2.2.2.2.2.2.1) (q.resolve_left (by decide)),
        fun q => (hJ.2.2.2.2.2.2.2.2.2.2.2.2.2.2.2.2.2.2.2.2.1) (q.resolve_left (by decide)),
        fun q => (hJ.2.2.2.2.2.2.2.2.2.2.2.2.2.2.2.2.2.2.2.2.2.1) (q.resolve_left (by decide)),
        fun q => (hJ.2.2.2.2.2.2.2.2.2.2.2.2.2.2.2.2.2.2.2.2.2.2) (q.resolve_left (by decide))⟩
    refine StepsOk.cons (i := 6) rfl (fun L x G w1 K Q hn hp hJ hK => ?_) ?_
    · skip
      have p2 : L 2 := hp ⟨2, .data⟩ (by simp) rfl
      have e2 := (hJ.2.2.2.2.2.2.2.2.2.2.2.2.2.1) p2
      have p5 : L 5 := hp ⟨5, .data⟩ (by simp) rfl
      have e5 := (hJ.2.2.2.2.2.2.2.2.2.2.2.2.2.2.2.2.1) p5
      simp only [putAll, Act.put, List.setIfInBounds_toArray, List.set_cons_zero, List.set_cons_succ]
      go_simp
      refine (radd_c _ _ _ _ _ _ _ o1 o2).mono ?_
      rw [ra.out, ka.out]
      rintro e w2 ⟨rfl, hb⟩
      have hz := hb.size
      try go_simp
      refine hK _ G _ (by kernel_rfl) ?_
      exact ⟨bt (hJ.1) hb,
        Nat.lt_of_lt_of_le (hJ.2.1) hb.size,
        Blk.keep ((hJ.2.2.1)) hb,
        Nat.lt_of_lt_of_le (hJ.2.2.2.1) hb.size,
        Blk.keep ((hJ.2.2.2.2.1)) hb,
        Nat.lt_of_lt_of_le (hJ.2.2.2.2.2.1) hb.size,
        Blk.keep ((hJ.2.2.2.2.2.2.1)) hb,
        fun q => ⟨((hJ.2.2.2.2.2.2.2.1) (q.resolve_left (by decide))).1, by have := ((hJ.2.2.2.2.2.2.2.1) (q.resolve_left (by decide))).2.1; omega, ((hJ.2.2.2.2.2.2.2.1) (q.resolve_left (by decide))).2.2⟩,
        fun q n => Blk.keep ((hJ.2.2.2.2.2.2.2.2.1) (q.resolve_left (by decide)) (fun m => n (.inr m))) hb,
        fun q => Blk.keep ((hJ.2.2.2.2.2.2.2.2.2.1) (q.resolve_left (by decide))) hb,
        fun q => .inr ((hJ.2.2.2.2.2.2.2.2.2.2.1) (q.resolve_left (by decide))),
        fun q => (hJ.2.2.2.2.2.2.2.2.2.2.2.1) (q.resolve_left (by decide)),
        fun q => (hJ.2.2.2.2.2.2.2.2.2.2.2.2.1) (q.resolve_left (by decide)),
        fun _ => by first | exact rfl | exact e2,
        fun q => (hJ.2.2.2.2.2.2.2.2.2.2.2.2.2.2.1) (q.resolve_left (by decide)),
        fun q => (hJ.2.2.2.2.2.2.2.2.2.2.2.2.2.2.2.1) (q.resolve_left (by decide)),
        fun _ => by first | exact rfl | exact e5,
        fun _ => rfl,
        fun q => (hJ.2.2.2.2.2.2.2.2.2.2.2.2.2.2.2.2.2.2.1) (q.resolve_left (by decide)),
        fun q => (hJ.2.2.2.2.2.2.2.2.2.2.2.2.2.2.2.2.2.2.2.1) (q.resolve_left (by decide)),
        fun q => (hJ.2.2.2.2.2.2.2.2.2.2.2.2.2.2.2.2.2.2.2.2.1) (q.resolve_left (by decide)),
        fun q => (hJ.2.2.2.2.2.2.2.2.2.2.2.2.2.2.2.2.2.2.2.2.2.1) (q.resolve_left (by decide)),
        fun q => (hJ.2.2.2.2.2.2.2.2.2.2.2.2.2.2.2.2.2.2.2.2.2.2) (q.resolve_left (by decide))⟩
    refine StepsOk.cons (i := 7) rfl (fun L x G w1 K Q hn hp hJ hK => ?_) ?_
    · skip
      have p6 : L 6 := hp ⟨6, .data⟩ (by simp) rfl
      have e6 := (hJ.2.2.2.2.2.2.2.2.2.2.2.2.2.2.2.2.2.1) p6
      simp only [putAll, Act.put, List.setIfInBounds_toArray, List.set_cons_zero, List.set_cons_succ]
      go_simp
      refine hK _ G _ (by kernel_rfl) ?_
      exact ⟨(hJ.1),
        (hJ.2.1),
        (hJ.2.2.1),
        (hJ.2.2.2.1),
        (hJ.2.2.2.2.1),
        (hJ.2.2.2.2.2.1),
        (hJ.2.2.2.2.2.2.1),
        fun q => (hJ.2.2.2.2.2.2.2.1) (q.resolve_left (by decide)),
        fun q n => (hJ.2.2.2.2.2.2.2.2.1) (q.resolve_left (by decide)) (fun m => n (.inr m)),
        fun q => (hJ.2.2.2.2.2.2.2.2.2.1) (q.resolve_left (by decide)),
        fun q => .inr ((hJ.2.2.2.2.2.2.2.2.2.2.1) (q.resolve_left (by decide))),
        fun q => (hJ.2.2.2.2.2.2.2.2.2.2.2.1) (q.resolve_left (by decide)),
        fun q => (hJ.2.2.2.2.2.2.2.2.2.2.2.2.1) (q.resolve_left (by decide)),
        fun q => (hJ.2.2.2.2.2.2.2.2.2.2.2.2.2.1) (q.resolve_left (by decide)),
        fun q => (hJ.2.2.2.2.2.2.2.2.2.2.2.2.2.2.1) (q.resolve_left (by decide)),
        fun q => (hJ.2.2.2.2.2.2.2.2.2.2.2.2.2.2.2.1) (q.resolve_left (by decide)),
        fun q => (hJ.2.2.2.2.2.2.2.2.2.2.2.2.2.2.2.2.1) (q.resolve_left (by decide)),
        fun _ => by first | exact rfl | exact e6,
        fun _ => rfl,
        fun q => (hJ.2.2.2.2.2.2.2.2.2.2.2.2.2.2.2.2.2.2.2.1) (q.resolve_left (by decide)),
        fun q => (hJ.2.2.2.2.2.2.2.2.2.2.2.2.2.2.2.2.2.2.2.2.1) (q.resolve_left (by decide)),
        fun q => (hJ.2.2.2.2.2.2.2.2.2.2.2.2.2.2.2.2.2.2.2.2.2.1) (q.resolve_left (by decide)),
        fun q => (hJ.2.2.2.2.2.2.2.2.2.2.2.2.2.2.2.2.2.2.2.2.2.2) (q.resolve_left (by decide))⟩
    refine StepsOk.cons (i := 8) rfl (fun L x G w1 K Q hn hp hJ hK => ?_) ?_
    · skip
      have p7 : L 7 := hp ⟨7, .data⟩ (by simp) rfl
      have e7 := (hJ.2.2.2.2.2.2.2.2.2.2.2.2.2.2.2.2.2.2.1) p7
      simp only [putAll, Act.put, List.setIfInBounds_toArray, List.set_cons_zero, List.set_cons_succ]
      go_simp
      refine hK _ G _ (by kernel_rfl) ?_
      exact ⟨(hJ.1),
        (hJ.2.1),
        (hJ.2.2.1),
        (hJ.2.2.2.1),
        (hJ.2.2.2.2.1),
        (hJ.2.2.2.2.2.1),
        (hJ.2.2.2.2.2.2.1),
        fun q => (hJ.2.2.2.2.2.2.2.1) (q.resolve_left (by decide)),
        fun q n => (hJ.2.2.2.2.2.2.2.2.1) (q.resolve_left (by decide)) (fun m => n (.inr m)),
        fun q => (hJ.2.2.2.2.2.2.2.2.2.1) (q.resolve_left (by decide)),
        fun q => .inr ((hJ.2.2.2.2.2.2.2.2.2.2.1) (q.resolve_left (by decide))),
        fun q => (hJ.2.2.2.2.2.2.2.2.2.2.2.1) (q.resolve_left (by decide)),
        fun q => (hJ.2.2.2.2.2.2.2.2.2.2.2.2.1) (q.resolve_left (by decide)),
        fun q => (hJ.2.2.2.2.2.2.2.2.2.2.2.2.2.1) (q.resolve_left (by decide)),
        fun q => (hJ.2.2.2.2.2.2.2.2.2.2.2.2.2.2.1) (q.resolve_left (by decide)),
        fun q => (hJ.2.2.2.2.2.2.2.2.2.2.2.2.2.2.2.1) (q.resolve_left (by decide)),
        fun q => (hJ.2.2.2.2.2.2.2.2.2.2.2.2.2.2.2.2.1) (q.resolve_left (by decide)),
        fun q => (hJ.2.2.2.2.2.2.2.2.2.2.2.2.2.2.2.2.2.1) (q.resolve_left (by decide)),
        fun _ => by first | exact rfl | exact e7,
        fun _ => rfl,
        fun q => (hJ.2.2.2.2.2.2.2.2.2.2.2.2.2.2.2.2.2.2.2.2.1) (q.resolve_left (by decide)),
        fun q => (hJ.2.2.2.2.2.2.2.2.2.2.2.2.2.2.2.2.2.2.2.2.2.1) (q.resolve_left (by decide)),
        fun q => (hJ.2.2.2.2.2.2.2.2.2.2.2.2.2.2.2.2.2.2.2.2.2.2) (q.resolve_left (by decide))⟩
    refine StepsOk.cons (i := 9) rfl (fun L x G w1 K Q hn hp hJ hK => ?_) ?_
    · skip
      have p7 : L 7 := hp ⟨7, .data⟩ (by simp) rfl
      have e7 := (hJ.2.2.2.2.2.2.2.2.2.2.2.2.2.2.2.2.2.2.1) p7
      simp only [putAll, Act.put, List.setIfInBounds_toArray, List.set_cons_zero, List.set_cons_succ]
      go_simp
      refine hK _ G _ (by kernel_rfl) ?_
      exact ⟨(hJ.1),
        (hJ.2.1),
        (hJ.2.2.1),
        (hJ.2.2.2.1),
        (hJ.2.2.2.2.1),
        (hJ.2.2.2.2.2.1),
        (hJ.2.2.2.2.2.2.1),
        fun q => (hJ.2.2.2.2.2.2.2.1) (q.resolve_left (by decide)),
        fun q n => (hJ.2.2.2.2.2.2.2.2.1) (q.resolve_left (by decide)) (fun m => n (.inr m)),
        fun q => (hJ.2.2.2.2.2.2.2.2.2.1) (q.resolve_left (by decide)),
        fun q => .inr ((hJ.2.2.2.2.2.2.2.2.2.2.1) (q.resolve_left (by decide))),
        fun q => (hJ.2.2.2.2.2.2.2.2.2.2.2.1) (q.resolve_left (by decide)),
        fun q => (hJ.2.2.2.2.2.2.2.2.2.2.2.2.1) (q.resolve_left (by decide)),
        fun q => (hJ.2.2.2.2.2.2.2.2.2.2.2.2.2.1) (q.resolve_left (by decide)),
        fun q => (hJ.2.2.2.2.2.2.2.2.2.2.2.2.2.2.1) (q.resolve_left (by decide)),
        fun q => (hJ.2.2.2.2.2.2.2.2.2.2.2.2.2.2.2.1) (q.resolve_left (by decide)),
        fun q => (hJ.2.2.2.2.2.2.2.2.2.2.2.2.2.2.2.2.1) (q.resolve_left (by decide)),
        fun q => (hJ.2.2.2.2.2.2.2.2.2.2.2.2.2.2.2.2.2.1) (q.resolve_left (by decide)),
        fun _ => by first | exact rfl | exact e7,
        fun q => (hJ.2.2.2.2.2.2.2.2.2.2.2.2.2.2.2.2.2.2.2.1) (q.resolve_left (by decide)),
        fun _ => rfl,
        fun q => (hJ.2.2.2.2.2.2.2.2.2.2.2.2.2.2.2.2.2.2.2.2.2.1) (q.resolve_left (by decide)),
        fun q => (hJ.2.2.2.2.2.2.2.2.2.2.2.2.2.2.2.2.2.2.2.2.2.2) (q.resolve_left (by decide))⟩
    refine StepsOk.cons (i := 10) rfl (fun L x G w1 K Q hn hp hJ hK => ?_) ?_
    · skip
      simp only [putAll, Act.put, List.setIfInBounds_toArray, List.set_cons_zero, List.set_cons_succ]
      go_simp
      refine hK _ (fun t => if t = 10 then w1.heap.size else G t) _ (by kernel_rfl) ?_
      exact ⟨bal (hJ.1) _,
        by simp; omega,
        Blk.alloc ((hJ.2.2.1)) _,
        by simp; omega,
        Blk.alloc ((hJ.2.2.2.2.1)) _,
        by simp; omega,
        Blk.alloc ((hJ.2.2.2.2.2.2.1)) _,
        fun _ => ⟨(hJ.1).size, by simp, Nat.ne_of_lt (hJ.2.1), Nat.ne_of_lt (hJ.2.2.2.1), Nat.ne_of_lt (hJ.2.2.2.2.2.1)⟩,
        fun _ _ => Blk.new w1 _ _,
        fun q => absurd ((hJ.2.2.2.2.2.2.2.2.2.2.1) (q.resolve_left (by decide))) hn,
        fun q => .inr ((hJ.2.2.2.2.2.2.2.2.2.2.1) (q.resolve_left (by decide))),
        fun q => (hJ.2.2.2.2.2.2.2.2.2.2.2.1) (q.resolve_left (by decide)),
        fun q => (hJ.2.2.2.2.2.2.2.2.2.2.2.2.1) (q.resolve_left (by decide)),
        fun q => (hJ.2.2.2.2.2.2.2.2.2.2.2.2.2.1) (q.resolve_left (by decide)),
        fun q => (hJ.2.2.2.2.2.2.2.2.2.2.2.2.2.2.1) (q.resolve_left (by decide)),
        fun q => (hJ.2.2.2.2.2.2.2.2.2.2.2.2.2.2.2.1) (q.resolve_left (by decide)),
        fun q => (hJ.2.2.2.2.2.2.2.2.2.2.2.2.2.2.2.2.1) (q.resolve_left (by decide)),
        fun q => (hJ.2.2.2.2.2.2.2.2.2.2.2.2.2.2.2.2.2.1) (q.resolve_left (by decide)),
        fun q => (hJ.2.2.2.2.2.2.2.2.2.2.2.2.2.2.2.2.2.2.1) (q.resolve_left (by decide)),
        fun q => (hJ.2.2.2.2.2.2.2.2.2.2.2.2.2.2.2.2.2.2.2.1) (q.resolve_left (by decide)),
        fun q => (hJ.2.2.2.2.2.2.2.2.2.2.2.2.2.2.2.2.2.2.2.2.1) (q.resolve_left (by decide)),
        fun _ => rfl,
        fun q => (hJ.2.2.2.2.2.2.2.2.2.2.2.2.2.2.2.2.2.2.2.2.2.2) (q.resolve_left (by decide))⟩
    refine StepsOk.cons (i := 11) rfl (fun L x G w1 K Q hn hp hJ hK => ?_) ?_
    · skip
      have p8 : L 8 := hp ⟨8, .data⟩ (by simp) rfl
      have e8 := (hJ.2.2.2.2.2.2.2.2.2.2.2.2.2.2.2.2.2.2.2.1) p8
      have p10 : L 10 := hp ⟨10, .data⟩ (by simp) rfl
      have e10 := (hJ.2.2.2.2.2.2.2.2.2.2.2.2.2.2.2.2.2.2.2.2.2.1) p10
      have hc := Blk.open2 (((hJ.2.2.2.2.2.2.2.2.1) p10 hn))
      have c0 := hc.1
      have c1 := hc.2.1
      have c2 := hc.2.2.1
      have c3 := hc.2.2.2
      clear hc
      simp only [putAll, Act.put, List.setIfInBounds_toArray, List.set_cons_zero, List.set_cons_succ]
      go_simp
      refine hK _ G _ (by kernel_rfl) ?_
      exact ⟨bst (bst ((hJ.1)) (p := ⟨G 10, 0, none⟩) ((hJ.2.2.2.2.2.2.2.1) p10).1 (.int .i64 (Wi.Hq (l + l')))) (p := ⟨G 10, 1, none⟩) ((hJ.2.2.2.2.2.2.2.1) p10).1 (.int .u64 (Wi.Lr (l + l'))),
        by simpa using (hJ.2.1),
        Blk.far (Blk.far ((hJ.2.2.1)) (p := ⟨G 10, 0, none⟩) (((hJ.2.2.2.2.2.2.2.1) p10).2.2.1) (.int .i64 (Wi.Hq (l + l')))) (p := ⟨G 10, 1, none⟩) (((hJ.2.2.2.2.2.2.2.1) p10).2.2.1) (.int .u64 (Wi.Lr (l + l'))),
        by simpa using (hJ.2.2.2.1),
        Blk.far (Blk.far ((hJ.2.2.2.2.1)) (p := ⟨G 10, 0, none⟩) (((hJ.2.2.2.2.2.2.2.1) p10).2.2.2.1) (.int .i64 (Wi.Hq (l + l')))) (p := ⟨G 10, 1, none⟩) (((hJ.2.2.2.2.2.2.2.1) p10).2.2.2.1) (.int .u64 (Wi.Lr (l + l'))),
        by simpa using (hJ.2.2.2.2.2.1),
        Blk.far (Blk.far ((hJ.2.2.2.2.2.2.1)) (p := ⟨G 10, 0, none⟩) (((hJ.2.2.2.2.2.2.2.1) p10).2.2.2.2) (.int .i64 (Wi.Hq (l + l')))) (p := ⟨G 10, 1, none⟩) (((hJ.2.2.2.2.2.2.2.1) p10).2.2.2.2) (.int .u64 (Wi.Lr (l + l'))),
        fun q => ⟨((hJ.2.2.2.2.2.2.2.1) (q.resolve_left (by decide))).1, by have := ((hJ.2.2.2.2.2.2.2.1) (q.resolve_left (by decide))).2.1; simpa using this, ((hJ.2.2.2.2.2.2.2.1) (q.resolve_left (by decide))).2.2⟩,
        fun _ n => absurd (.inl rfl) n,
        fun _ => by simpa using Blk.set_ (Blk.set_ (((hJ.2.2.2.2.2.2.2.2.1) p10 hn)) 0 (.int .i64 (Wi.Hq (l + l')))) 1 (.int .u64 (Wi.Lr (l + l'))),
        fun _ => .inr p10,
        fun q => (hJ.2.2.2.2.2.2.2.2.2.2.2.1) (q.resolve_left (by decide)),
        fun q => (hJ.2.2.2.2.2.2.2.2.2.2.2.2.1) (q.resolve_left (by decide)),
        fun q => (hJ.2.2.2.2.2.2.2.2.2.2.2.2.2.1) (q.resolve_left (by decide)),
        fun q => (hJ.2.2.2.2.2.2.2.2.2.2.2.2.2.2.1) (q.resolve_left (by decide)),
        fun q => (hJ.2.2.2.2.2.2.2.2.2.2.2.2.2.2.2.1) (q.resolve_left (by decide)),
        fun q => (hJ.2.2.2.2.2.2.2.2.2.2.2.2.2.2.2.2.1) (q.resolve_left (by decide)),
        fun q => (hJ.2.2.2.2.2.2.2.2.2.2.2.2.2.2.2.2.2.1) (q.resolve_left (by decide)),
        fun q => (hJ.2.2.2.2.2.2.2.2.2.2.2.2.2.2.2.2.2.2.1) (q.resolve_left (by decide)),
        fun _ => by first | exact rfl | exact e8,
        fun q => (hJ.2.2.2.2.2.2.2.2.2.2.2.2.2.2.2.2.2.2.2.2.1) (q.resolve_left (by decide)),
        fun _ => by first | exact rfl | exact e10,
        fun q => (hJ.2.2.2.2.2.2.2.2.2.2.2.2.2.2.2.2.2.2.2.2.2.2) (q.resolve_left (by decide))⟩
    refine StepsOk.cons (i := 12) rfl (fun L x G w1 K Q hn hp hJ hK => ?_) ?_
    · skip
      have p9 : L 9 := hp ⟨9, .data⟩ (by simp) rfl
      have e9 := (hJ.2.2.2.2.2.2.2.2.2.2.2.2.2.2.2.2.2.2.2.2.1) p9
      simp only [putAll, Act.put, List.setIfInBounds_toArray, List.set_cons_zero, List.set_cons_succ]
      go_simp
      refine hK _ G _ (by kernel_rfl) ?_
      exact ⟨(hJ.1),
        (hJ.2.1),
        (hJ.2.2.1),
        (hJ.2.2.2.1),
        (hJ.2.2.2.2.1),
        (hJ.2.2.2.2.2.1),
        (hJ.2.2.2.2.2.2.1),
        fun q => (hJ.2.2.2.2.2.2.2.1) (q.resolve_left (by decide)),
        fun q n => (hJ.2.2.2.2.2.2.2.2.1) (q.resolve_left (by decide)) (fun m => n (.inr m)),
        fun q => (hJ.2.2.2.2.2.2.2.2.2.1) (q.resolve_left (by decide)),
        fun q => .inr ((hJ.2.2.2.2.2.2.2.2.2.2.1) (q.resolve_left (by decide))),
        fun q => (hJ.2.2.2.2.2.2.2.2.2.2.2.1) (q.resolve_left (by decide)),
        fun q => (hJ.2.2.2.2.2.2.2.2.2.2.2.2.1) (q.resolve_left (by decide)),
        fun q => (hJ.2.2.2.2.2.2.2.2.2.2.2.2.2.1) (q.resolve_left (by decide)),
        fun q => (hJ.2.2.2.2.2.2.2.2.2.2.2.2.2.2.1) (q.resolve_left (by decide)),
        fun q => (hJ.2.2.2.2.2.2.2.2.2.2.2.2.2.2.2.1) (q.resolve_left (by decide)),
        fun q => (hJ.2.2.2.2.2.2.2.2.2.2.2.2.2.2.2.2.1) (q.resolve_left (by decide)),
        fun q => (hJ.2.2.2.2.2.2.2.2.2.2.2.2.2.2.2.2.2.1) (q.resolve_left (by decide)),
        fun q => (hJ.2.2.2.2.2.2.2.2.2.2.2.2.2.2.2.2.2.2.1) (q.resolve_left (by decide)),
        fun q => (hJ.2.2.2.2.2.2.2.2.2.2.2.2.2.2.2.2.2.2.2.1) (q.resolve_left (by decide)),
        fun _ => by first | exact rfl | exact e9,
        fun q => (hJ.2.2.2.2.2.2.2.2.2.2.2.2.2.2.2.2.2.2.2.2.2.1) (q.resolve_left (by decide)),
        fun _ => rfl⟩
    exact StepsOk.nil
  case fin =>
    intro L x G w3 hall hJ
    replace X := (hJ.2.2.1)
    replace Y := (hJ.2.2.2.2.1)
    replace R := (hJ.2.2.2.2.2.2.1)
    obtain ⟨haML, hlML, hnMLX, hnMLY, hnMLR⟩ := (hJ.2.2.2.2.2.2.2.1) (hall 10 (by decide))
    have ML := (hJ.2.2.2.2.2.2.2.2.2.1) (hall 11 (by decide))
    have u0 := hJ.2.2.2.2.2.2.2.2.2.2.2.1 (hall 0 (by decide))
    have u1 := hJ.2.2.2.2.2.2.2.2.2.2.2.2.1 (hall 1 (by decide))
    have u2 := hJ.2.2.2.2.2.2.2.2.2.2.2.2.2.1 (hall 2 (by decide))
    have u3 := hJ.2.2.2.2.2.2.2.2.2.2.2.2.2.2.1 (hall 3 (by decide))
    have u4 := hJ.2.2.2.2.2.2.2.2.2.2.2.2.2.2.2.1 (hall 4 (by decide))
    have u5 := hJ.2.2.2.2.2.2.2.2.2.2.2.2.2.2.2.2.1 (hall 5 (by decide))
    have u6 := hJ.2.2.2.2.2.2.2.2.2.2.2.2.2.2.2.2.2.1 (hall 6 (by decide))
    have u7 := hJ.2.2.2.2.2.2.2.2.2.2.2.2.2.2.2.2.2.2.1 (hall 7 (by decide))
    have u8 := hJ.2.2.2.2.2.2.2.2.2.2.2.2.2.2.2.2.2.2.2.1 (hall 8 (by decide))
    have u9 := hJ.2.2.2.2.2.2.2.2.2.2.2.2.2.2.2.2.2.2.2.2.1 (hall 9 (by decide))
    have u10 := hJ.2.2.2.2.2.2.2.2.2.2.2.2.2.2.2.2.2.2.2.2.2.1 (hall 10 (by decide))
    have u12 := hJ.2.2.2.2.2.2.2.2.2.2.2.2.2.2.2.2.2.2.2.2.2.2 (hall 12 (by decide))
    replace hB := hJ.1
    simp only [putAll, Act.put, List.setIfInBounds_toArray, List.set_cons_zero, List.set_cons_succ]
    simp only [u0, u1, u2, u3, u4, u5, u6, u7, u8, u9, u10, u12]
    clear hall hJ u0 u1 u2 u3 u4 u5 u6 u7 u8 u9 u10 u12
    generalize G 10 = gML at *
    go_wp2_with fail
    refine wp_region_inv (fun L x G wx => Below w.heap.size w wx
          ∧ w.heap.size < wx.heap.size
          ∧ Blk wx (w.heap.size) 23 #[.int .i64 (l), .int .i64 (h)]
          ∧ w.heap.size + 1 < wx.heap.size
          ∧ Blk wx (w.heap.size + 1) 23 #[.int .i64 (l'), .int .i64 (h')]
          ∧ w.heap.size + 1 + 1 < wx.heap.size
          ∧ Blk wx (w.heap.size + 1 + 1) 23 #[.int .i64 (0), .int .i64 (0)]
          ∧ gML < wx.heap.size
          ∧ Blk wx (gML) 40 #[.int .i64 (Wi.Hq (l + l')), .int .u64 (Wi.Lr (l + l'))]
          ∧ (L 10 → w.heap.size ≤ G 10 ∧ G 10 < wx.heap.size ∧ w.heap.size ≠ G 10 ∧ w.heap.size + 1 ≠ G 10 ∧ w.heap.size + 1 + 1 ≠ G 10 ∧ gML ≠ G 10)
          ∧ (L 10 → ¬ L 11 → Blk wx (G 10) 40 #[.int .i64 (0), .int .u64 (0)])
          ∧ (L 11 → Blk wx (G 10) 40 #[.int .i64 (Wi.Hq (h + h')), .int .u64 (Wi.Lr (h + h'))])
          ∧ (L 11 → L 10)
          ∧ (L 0 → x 30 = .pointer (some ⟨w.heap.size, 1, none⟩))
          ∧ (L 1 → x 31 = .int .i64 (h))
          ∧ (L 2 → x 32 = .agg #[.int .i64 (Wi.Hq (h)), .int .u64 (Wi.Lr (h))])
          ∧ (L 3 → x 33 = .pointer (some ⟨w.heap.size + 1, 1, none⟩))
          ∧ (L 4 → x 34 = .int .i64 (h'))
          ∧ (L 5 → x 35 = .agg #[.int .i64 (Wi.Hq (h')), .int .u64 (Wi.Lr (h'))])
          ∧ (L 6 → x 36 = .tuple #[.agg #[.int .i64 (Wi.Hq (h + h')), .int .u64 (Wi.Lr (h + h'))], .bool (true)])
          ∧ (L 7 → x 29 = .tuple #[.agg #[.int .i64 (Wi.Hq (h + h')), .int .u64 (Wi.Lr (h + h'))], .bool (true)])
          ∧ (L 8 → x 37 = .agg #[.int .i64 (Wi.Hq (h + h')), .int .u64 (Wi.Lr (h + h'))])
          ∧ (L 9 → x 38 = .bool (true))
          ∧ (L 10 → x 8 = .pointer (some ⟨G 10, 0, none⟩))
          ∧ (L 12 → x 9 = .bool (true))) [30, 31, 32, 33, 34, 35, 36, 29, 37, 38, 8, 9] 13 (by kernel_rfl) (by kernel_rfl) (by kernel_rfl) ?h0 ?st ?fin
    case h0 =>
      exact ⟨bdr hB, Blk.lt X.drew, X.drew, Blk.lt Y.drew, Y.drew, Blk.lt R.drew, R.drew, Blk.lt ML.drew, ML.drew, fun q => q.elim, fun q => q.elim, fun q => q.elim, fun q => q.elim, fun q => q.elim, fun q => q.elim, fun q => q.elim, fun q => q.elim, fun q => q.elim, fun q => q.elim, fun q => q.elim, fun q => q.elim, fun q => q.elim, fun q => q.elim, fun q => q.elim, fun q => q.elim⟩
    case st =>
      refine StepsOk.cons (i := 0) rfl (fun L x G w1 K Q hn hp hJ hK => ?_) ?_
      · skip
        simp only [putAll, Act.put, List.setIfInBounds_toArray, List.set_cons_zero, List.set_cons_succ]
        go_simp
        refine hK _ G _ (by kernel_rfl) ?_
        exact ⟨(hJ.1),
          (hJ.2.1),
          (hJ.2.2.1),
          (hJ.2.2.2.1),
          (hJ.2.2.2.2.1),
          (hJ.2.2.2.2.2.1),
          (hJ.2.2.2.2.2.2.1),
          (hJ.2.2.2.2.2.2.2.1),
          (hJ.2.2.2.2.2.2.2.2.1),
          fun q => (hJ.2.2.2.2.2.2.2.2.2.1) (q.resolve_left (by decide)),
          fun q n => (hJ.2.2.2.2.2.2.2.2.2.2.1) (q.resolve_left (by decide)) (fun m => n (.inr m)),
          fun q => (hJ.2.2.2.2.2.2.2.2.2.2.2.1) (q.resolve_left (by decide)),
          fun q => .inr ((hJ.2.2.2.2.2.2.2.2.2.2.2.2.1) (q.resolve_left (by decide))),
          fun _ => rfl,
          fun q => (hJ.2.2.2.2.2.2.2.2.2.2.2.2.2.2.1) (q.resolve_left (by decide)),
          fun q => (hJ.2.2.2.2.2.2.2.2.2.2.2.2.2.2.2.1) (q.resolve_left (by decide)),
          fun q => (hJ.2.2.2.2.2.2.2.2.2.2.2.2.2.2.2.2.1) (q.resolve_left (by decide)),
          fun q => (hJ.2.2.2.2.2.2.2.2.2.2.2.2.2.2.2.2.2.1) (q.resolve_left (by decide)),
          fun q => (hJ.2.2.2.2.2.2.2.2.2.2.2.2.2.2.2.2.2.2.1) (q.resolve_left (by decide)),
          fun q => (hJ.2.2.2.2.2.2.2.2.2.2.2.2.2.2.2.2.2.2.2.1) (q.resolve_left (by decide)),
          fun q => (hJ.2.2.2.2.2.2.2.2.2.2.2.2.2.2.2.2.2.2.2.2.1) (q.resolve_left (by decide)),
          fun q => (hJ.2.2.2.2.2.2.2.2.2.2.2.2.2.2.2.2.2.2.2.2.2.1) (q.resolve_left (by decide)),
          fun q => (hJ.2.2.2.2.2.2.2.2.2.2.2.2.2.2.2.2.2.2.2.2.2.2.1) (q.resolve_left (by decide)),
          fun q => (hJ.2.2.2.2.2.2.2.2.2.2.2.2.2.2.2.2.2.2.2.2.2.2.2.1) (q.resolve_left (by decide)),
          fun q => (hJ.2.2.2.2.2.2.2.2.2.2.2.2.2.2.2.2.2.2.2.2.2.2.2.2) (q.resolve_left (by decide))⟩
      refine StepsOk.cons (i := 1) rfl (fun L x G w1 K Q hn hp hJ hK => ?_) ?_
      · skip
        have p0 : L 0 := hp ⟨0, .data⟩ (by simp) rfl
        have e0 := (hJ.2.2.2.2.2.2.2.2.2.2.2.2.2.1) p0
        have hc := Blk.open2 ((hJ.2.2.1))
        have c0 := hc.1
        have c1 := hc.2.1
        have c2 := hc.2.2.1
        have c3 := hc.2.2.2
        clear hc
        simp only [putAll, Act.put, List.setIfInBounds_toArray, List.set_cons_zero, List.set_cons_succ]
        go_simp
        refine hK _ G _ (by kernel_rfl) ?_
        exact ⟨(hJ.1),
          (hJ.2.1),
          (hJ.2.2.1),
          (hJ.2.2.2.1),
          (hJ.2.2.2.2.1),
          (hJ.2.2.2.2.2.1),
          (hJ.2.2.2.2.2.2.1),
          (hJ.2.2.2.2.2.2.2.1),
          (hJ.2.2.2.2.2.2.2.2.1),
          fun q => (hJ.2.2.2.2.2.2.2.2.2.1) (q.resolve_left (by decide)),
          fun q n => (hJ.2.2.2.2.2.2.2.2.2.2.1) (q.resolve_left (by decide)) (fun m => n (.inr m)),
          fun q => (hJ.2.2.2.2.2.2.2.2.2.2.2.1) (q.resolve_left (by decide)),
          fun q => .inr ((hJ.2.2.2.2.2.2.2.2.2.2.2.2.1) (q.resolve_left (by decide))),
          fun _ => by first | exact rfl | exact e0,
          fun _ => rfl,
          fun q => (hJ.2.2.2.2.2.2.2.2.2.2.2.2.2.2.2.1) (q.resolve_left (by decide)),
          fun q => (hJ.2.2.2.2.2.2.2.2.2.2.2.2.2.2.2.2.1) (q.resolve_left (by decide)),
          fun q => (hJ.2.2.2.2.2.2.2.2.2.2.2.2.2.2.2.2.2.1) (q.resolve_left (by decide)),
          fun q => (hJ.2.2.2.2.2.2.2.2.2.2.2.2.2.2.2.2.2.2.1) (q.resolve_left (by decide)),
          fun q => (hJ.2.2.2.2.2.2.2.2.2.2.2.2.2.2.2.2.2.2.2.1) (q.resolve_left (by decide)),
          fun q => (hJ.2.2.2.2.2.2.2.2.2.2.2.2.2.2.2.2.2.2.2.2.1) (q.resolve_left (by decide)),
          fun q => (hJ.2.2.2.2.2.2.2.2.2.2.2.2.2.2.2.2.2.2.2.2.2.1) (q.resolve_left (by decide)),
          fun q => (hJ.2.2.2.2.2.2.2.2.2.2.2.2.2.2.2.2.2.2.2.2.2.2.1) (q.resolve_left (by decide)),
          fun q => (hJ.2.2.2.2.2.2.2.2.2.2.2.2.2.2.2.2.2.2.2.2.2.2.2.1) (q.resolve_left (by decide)),
          fun q => (hJ.2.2.2.2.2.2.2.2.2.2.2.2.2.2.2.2.2.2.2.2.2.2.2.2) (q.resolve_left (by decide))⟩
      refine StepsOk.cons (i := 2) rfl (fun L x G w1 K Q hn hp hJ hK => ?_) ?_
      · skip
        have p1 : L 1 := hp ⟨1, .data⟩ (by simp) rfl
        have e1 := (hJ.2.2.2.2.2.2.2.2.2.2.2.2.2.2.1) p1
        simp only [putAll, Act.put, List.setIfInBounds_toArray, List.set_cons_zero, List.set_cons_succ]
        go_simp
        refine (rof_c _ _ xx1 xx2).mono ?_
        rintro e w2 ⟨rfl, hb⟩
        have hz := hb.size
        try go_simp
        refine hK _ G _ (by kernel_rfl) ?_
        exact ⟨bt (hJ.1) hb,
          Nat.lt_of_lt_of_le (hJ.2.1) hb.size,
          Blk.keep ((hJ.2.2.1)) hb,
          Nat.lt_of_lt_of_le (hJ.2.2.2.1) hb.size,
          Blk.keep ((hJ.2.2.2.2.1)) hb,
          Nat.lt_of_lt_of_le (hJ.2.2.2.2.2.1) hb.size,
          Blk.keep ((hJ.2.2.2.2.2.2.1)) hb,
          Nat.lt_of_lt_of_le (hJ.2.2.2.2.2.2.2.1) hb.size,
          Blk.keep ((hJ.2.2.2.2.2.2.2.2.1)) hb,
          fun q => ⟨((hJ.2.2.2.2.2.2.2.2.2.1) (q.resolve_left (by decide))).1, by have := ((hJ.2.2.2.2.2.2.2.2.2.1) (q.resolve_left (by decide))).2.1; omega, ((hJ.2.2.2.2.2.2.2.2.2.1) (q.resolve_left (by decide))).2.2⟩,
          fun q n => Blk.keep ((hJ.2.2.2.2.2.2.2.2.2.2.1) (q.resolve_left (by decide)) (fun m => n (.inr m))) hb,
          fun q => Blk.keep ((hJ.2.2.2.2.2.2.2.2.2.2.2.1) (q.resolve_left (by decide))) hb,
          fun q => .inr ((hJ.2.2.2.2.2.2.2.2.2.2.2.2.1) (q.resolve_left (by decide))),
          fun q => (hJ.2.2.2.2.2.2.2.2.2.2.2.2.2.1) (q.resolve_left (by decide)),
          fun _ => by first | exact rfl | exact e1,
          fun _ => rfl,
          fun q => (hJ.2.2.2.2.2.2.2.2.2.2.2.2.2.2.2.2.1) (q.resolve_left (by decide)),
          fun q => (hJ.2.2.2.2.2.2.2.2.2.2.2.2.2.2.2.2.2.1) (q.resolve_left (by decide)),
          fun q => (hJ.2.2.2.2.2.2.2.2.2.2.2.2.2.2.2.2.2.2.1) (q.resolve_left (by decide)),
          fun q => (hJ.2.2.2.2.2.2.2.2.2.2.2.2.2.2.2.2.2.2.2.1) (q.resolve_left (by decide)),
          fun q => (hJ.2.2.2.2.2.2.2.2.2.2.2.2.2.2.2.2.2.2.2.2.1) (q.resolve_left (by decide)),
          fun q => (hJ.2.2.2.2.2.2.2.2.2.2.2.2.2.2.2.2.2.2.2.2.2.1) (q.resolve_left (by decide)),
          fun q => (hJ.2.2.2.2.2.2.2.2.2.2.2.2.2.2.2.2.2.2.2.2.2.2.1) (q.resolve_left (by decide)),
          fun q => (hJ.2.2.2.2.2.2.2.2.2.2.2.2.2.2.2.2.2.2.2.2.2.2.2.1) (q.resolve_left (by decide)),
          fun q => (hJ.2.2.2.2.2.2.2.2.2.2.2.2.2.2.2.2.2.2.2.2.2.2.2.2) (q.resolve_left (by decide))⟩
      refine StepsOk.cons (i := 3) rfl (fun L x G w1 K Q hn hp hJ hK => ?_) ?_
      · skip
        simp only [putAll, Act.put, List.setIfInBounds_toArray, List.set_cons_zero, List.set_cons_succ]
        go_simp
        refine hK _ G _ (by kernel_rfl) ?_
        exact ⟨(hJ.1),
          (hJ.2.1),
          (hJ.2.2.1),
          (hJ.2.2.2.1),
          (hJ.2.2.2.2.1),
          (hJ.2.2.2.2.2.1),
          (hJ.2.2.2.2.2.2.1),
          (hJ.2.2.2.2.2.2.2.1),
          (hJ.2.2.2.2.2.2.2.2.1),
          fun q => (hJ.2.2.2.2.2.2.2.2.2.1) (q.resolve_left (by decide)),
          fun q n => (hJ.2.2.2.2.2.2.2.2.2.2.1) (q.resolve_left (by decide)) (fun m => n (.inr m)),
          fun q => (hJ.2.2.2.2.2.2.2.2.2.2.2.1) (q.resolve_left (by decide)),
          fun q => .inr ((hJ.2.2.2.2.2.2.2.2.2.2.2.2.1) (q.resolve_left (by decide))),
          fun q => (hJ.2.2.2.2.2.2.2.2.2.2.2.2.2.1) (q.resolve_left (by decide)),
          fun q => (hJ.2.2.2.2.2.2.2.2.2.2.2.2.2.2.1) (q.resolve_left (by decide)),
          fun q => (hJ.2.2.2.2.2.2.2.2.2.2.2.2.2.2.2.1) (q.resolve_left (by decide)),
          fun _ => rfl,
          fun q => (hJ.2.2.2.2.2.2.2.2.2.2.2.2.2.2.2.2.2.1) (q.resolve_left (by decide)),
          fun q => (hJ.2.2.2.2.2.2.2.2.2.2.2.2.2.2.2.2.2.2.1) (q.resolve_left (by decide)),
          fun q => (hJ.2.2.2.2.2.2.2.2.2.2.2.2.2.2.2.2.2.2.2.1) (q.resolve_left (by decide)),
          fun q => (hJ.2.2.2.2.2.2.2.2.2.2.2.2.2.2.2.2.2.2.2.2.1) (q.resolve_left (by decide)),
          fun q => (hJ.2.2.2.2.2.2.2.2.2.2.2.2.2.2.2.2.2.2.2.2.2.1) (q.resolve_left (by decide)),
          fun q => (hJ.2.2.2.2.2.2.2.2.2.2.2.2.2.2.2.2.2.2.2.2.2.2.1) (q.resolve_left (by decide)),
          fun q => (hJ.2.2.2.2.2.2.2.2.2.2.2.2.2.2.2.2.2.2.2.2.2.2.2.1) (q.resolve_left (by decide)),
          fun q => (hJ.2.2.2.2.2.2.2.2.2.2.2.2.2.2.2.2.2.2.2.2.2.2.2.2) (q.resolve_left (by decide))⟩
      refine StepsOk.cons (i := 4) rfl (fun L x G w1 K Q hn hp hJ hK => ?_) ?_
      · skip
        have p3 : L 3 := hp ⟨3, .data⟩ (by simp) rfl
        have e3 := (hJ.2.2.2.2.2.2.2.2.2.2.2.2.2.2.2.2.1) p3
        have hc := Blk.open2 ((hJ.2.2.2.2.1))
        have c0 := hc.1
        have c1 := hc.2.1
        have c2 := hc.2.2.1
        have c3 := hc.2.2.2
        clear hc
        simp only [putAll, Act.put, List.setIfInBounds_toArray, List.set_cons_zero, List.set_cons_succ]
        go_simp
        refine hK _ G _ (by kernel_rfl) ?_
        exact ⟨(hJ.1),
          (hJ.2.1),
          (hJ.2.2.1),
          (hJ.2.2.2.1),
          (hJ.2.2.2.2.1),
          (hJ.2.2.2.2.2.1),
          (hJ.2.2.2.2.2.2.1),
          (hJ.2.2.2.2.2.2.2.1),
          (hJ.2.2.2.2.2.2.2.2.1),
          fun q => (hJ.2.2.2.2.2.2.2.2.2.1) (q.resolve_left (by decide)),
          fun q n => (hJ.2.2.2.2.2.2.2.2.2.2.1) (q.resolve_left (by decide)) (fun m => n (.inr m)),
          fun q => (hJ.2.2.2.2.2.2.2.2.2.2.2.1) (q.resolve_left (by decide)),
          fun q => .inr ((hJ.2.2.2.2.2.2.2.2.2.2.2.2.1) (q.resolve_left (by decide))),
          fun q => (hJ.2.2.2.2.2.2.2.2.2.2.2.2.2.1) (q.resolve_left (by decide)),
          fun q => (hJ.2.2.2.2.2.2.2.2.2.2.2.2.2.2.1) (q.resolve_left (by decide)),
          fun q => (hJ.2.2.2.2.2.2.2.2.2.2.2.2.2.2.2.1) (q.resolve_left (by decide)),
          fun _ => by first | exact rfl | exact e3,
          fun _ => rfl,
          fun q => (hJ.2.2.2.2.2.2.2.2.2.2.2.2.2.2.2.2.2.2.1) (q.resolve_left (by decide)),
          fun q => (hJ.2.2.2.2.2.2.2.2.2.2.2.2.2.2.2.2.2.2.2.1) (q.resolve_left (by decide)),
          fun q => (hJ.2.2.2.2.2.2.2.2.2.2.2.2.2.2.2.2.2.2.2.2.1) (q.resolve_left (by decide)),
          fun q => (hJ.2.2.2.2.2.2.2.2.2.2.2.2.2.2.2.2.2.2.2.2.2.1) (q.resolve_left (by decide)),
          fun q => (hJ.2.2.2.2.2.2.2.2.2.2.2.2.2.2.2.2.2.2.2.2.2.2.1) (q.resolve_left (by decide)),
          fun q => (hJ.2.2.2.2.2.2.2.2.2.2.2.2.2.2.2.2.2.2.2.2.2.2.2.1) (q.resolve_left (by decide)),
          fun q => (hJ.2.2.2.2.2.2.2.2.2.2.2.2.2.2.2.2.2.2.2.2.2.2.2.2) (q.resolve_left (by decide))⟩
      refine StepsOk.cons (i := 5) rfl (fun L x G w1 K Q hn hp hJ hK => ?_) ?_
      · skip
        have p4 : L 4 := hp ⟨4, .data⟩ (by simp) rfl
        have e4 := (hJ.2.2.2.2.2.2.2.2.2.2.2.2.2.2.2.2.2.1) p4
        simp only [putAll, Act.put, List.setIfInBounds_toArray, List.set_cons_zero, List.set_cons_succ]
        go_simp
        refine (rof_c _ _ yy1 yy2).mono ?_
        rintro e w2 ⟨rfl, hb⟩
        have hz := hb.size
        try go_simp
        refine hK _ G _ (by kernel_rfl) ?_
        exact ⟨bt (hJ.1) hb,
          Nat.lt_of_lt_of_le (hJ.2.1) hb.size,
          Blk.keep ((hJ.2.2.1)) hb,
          Nat.lt_of_lt_of_le (hJ.2.2.2.1) hb.size,
          Blk.keep ((hJ.2.2.2.2.1)) hb,
          Nat.lt_of_lt_of_le (hJ.2.2.2.2.2.1) hb.size,
          Blk.keep ((hJ.2.2.2.2.2.2.1)) hb,
          Nat.lt_of_lt_of_le (hJ.2.2.2.2.2.2.2.1) hb.size,
          Blk.keep ((hJ.2.2.2.2.2.2.2.2.1)) hb,
          fun q => ⟨((hJ.2.2.2.2.2.2.2.2.2.1) (q.resolve_left (by decide))).1, by have := ((hJ.2.2.2.2.2.2.2.2.2.1) (q.resolve_left (by decide))).2.1; omega, ((hJ.2.2.2.2.2.2.2.2.2.1) (q.resolve_left (by decide))).2.2⟩,
          fun q n => Blk.keep ((hJ.2.2.2.2.2.2.2.2.2.2.1) (q.resolve_left (by decide)) (fun m => n (.inr m))) hb,
          fun q => Blk.keep ((hJ.2.2.2.2.2.2.2.2.2.2.2.1) (q.resolve_left (by decide))) hb,
          fun q => .inr ((hJ.2.2.2.2.2.2.2.2.2.2.2.2.1) (q.resolve_left (by decide))),
          fun q => (hJ.2.2.2.2.2.2.2.2.2.2.2.2.2.1) (q.resolve_left (by decide)),
          fun q => (hJ.2.2.2.2.2.2.2.2.2.2.2.2.2.2.1) (q.resolve_left (by decide)),
          fun q => (hJ.2.2.2.2.2.2.2.2.2.2.2.2.2.2.2.1) (q.resolve_left (by decide)),
          fun q => (hJ.2.2.2.2.2.2.2.2.2.2.2.2.2.2.2.2.1) (q.resolve_left (by decide)),
          fun _ => by first | exact rfl | exact e4,
          fun _ => rfl,
          fun q => (hJ.2.2.2.2.2.2.2.2.2.2.2.2.2.2.2.2.2.2.2.1) (q.resolve_left (by decide)),
          fun q => (hJ.2.2.2.2.2.2.2.2.2.2.2.2.2.2.2.2.2.2.2.2.1) (q.resolve_left (by decide)),
          fun q => (hJ.2.2.2.2.2.2.2.2.2.2.2.2.2.2.2.2.2.2.2.2.2.1) (q.resolve_left (by decide)),
          fun q => (hJ.2.2.2.2.2.2.2.2.2.2.2.2.2.2.2.2.2.2.2.2.2.2.1) (q.resolve_left (by decide)),
          fun q => (hJ.2.2.2.2.2.2.2.2.2.2.2.2.2.2.2.2.2.2.2.2.2.2.2.1) (q.resolve_left (by decide)),
          fun q => (hJ.2.2.2.2.2.2.2.2.2.2.2.2.2.2.2.2.2.2.2.2.2.2.2.2) (q.resolve_left (by decide))⟩
      refine StepsOk.cons (i := 6) rfl (fun L x G w1 K Q hn hp hJ hK => ?_) ?_
      · skip
        have p2 : L 2 := hp ⟨2, .data⟩ (by simp) rfl
        have e2 := (hJ.2.2.2.2.2.2.2.2.2.2.2.2.2.2.2.1) p2
        have p5 : L 5 := hp ⟨5, .data⟩ (by simp) rfl
        have e5 := (hJ.2.2.2.2.2.2.2.2.2.2.2.2.2.2.2.2.2.2.1) p5
        simp only [putAll, Act.put, List.setIfInBounds_toArray, List.set_cons_zero, List.set_cons_succ]
        go_simp
        refine (radd_c _ _ _ _ _ _ _ o3 o4).mono ?_
        rw [rb.out, kb.out]
        rintro e w2 ⟨rfl, hb⟩
        have hz := hb.size
        try go_simp
        refine hK _ G _ (by kernel_rfl) ?_
        exact ⟨bt (hJ.1) hb,
          Nat.lt_of_lt_of_le (hJ.2.1) hb.size,
          Blk.keep ((hJ.2.2.1)) hb,
          Nat.lt_of_lt_of_le (hJ.2.2.2.1) hb.size,
          Blk.keep ((hJ.2.2.2.2.1)) hb,
          Nat.lt_of_lt_of_le (hJ.2.2.2.2.2.1) hb.size,
          Blk.keep ((hJ.2.2.2.2.2.2.1)) hb,
          Nat.lt_of_lt_of_le (hJ.2.2.2.2.2.2.2.1) hb.size,
          Blk.keep ((hJ.2.2.2.2.2.2.2.2.1)) hb,
          fun q => ⟨((hJ.2.2.2.2.2.2.2.2.2.1) (q.resolve_left (by decide))).1, by have := ((hJ.2.2.2.2.2.2.2.2.2.1) (q.resolve_left (by decide))).2.1; omega, ((hJ.2.2.2.2.2.2.2.2.2.1) (q.resolve_left (by decide))).2.2⟩,
          fun q n => Blk.keep ((hJ.2.2.2.2.2.2.2.2.2.2.1) (q.resolve_left (by decide)) (fun m => n (.inr m))) hb,
          fun q => Blk.keep ((hJ.2.2.2.2.2.2.2.2.2.2.2.1) (q.resolve_left (by decide))) hb,
          fun q => .inr ((hJ.2.2.2.2.2.2.2.2.2.2.2.2.1) (q.resolve_left (by decide))),
          fun q => (hJ.2.2.2.2.2.2.2.2.2.2.2.2.2.1) (q.resolve_left (by decide)),
          fun q => (hJ.2.2.2.2.2.2.2.2.2.2.2.2.2.2.1) (q.resolve_left (by decide)),
          fun _ => by first | exact rfl | exact e2,
          fun q => (hJ.2.2.2.2.2.2.2.2.2.2.2.2.2.2.2.2.1) (q.resolve_left (by decide)),
          fun q => (hJ.2.2.2.2.2.2.2.2.2.2.2.2.2.2.2.2.2.1) (q.resolve_left (by decide)),
          fun _ => by first | exact rfl | exact e5,
          fun _ => rfl,
          fun q => (hJ.2.2.2.2.2.2.2.2.2.2.2.2.2.2.2.2.2.2.2.2.1) (q.resolve_left (by decide)),
          fun q => (hJ.2.2.2.2.2.2.2.2.2.2.2.2.2.2.2.2.2.2.2.2.2.1) (q.resolve_left (by decide)),
          fun q => (hJ.2.2.2.2.2.2.2.2.2.2.2.2.2.2.2.2.2.2.2.2.2.2.1) (q.resolve_left (by decide)),
          fun q => (hJ.2.2.2.2.2.2.2.2.2.2.2.2.2.2.2.2.2.2.2.2.2.2.2.1) (q.resolve_left (by decide)),
          fun q => (hJ.2.2.2.2.2.2.2.2.2.2.2.2.2.2.2.2.2.2.2.2.2.2.2.2) (q.resolve_left (by decide))⟩
      refine StepsOk.cons (i := 7) rfl (fun L x G w1 K Q hn hp hJ hK => ?_) ?_
      · skip
        have p6 : L 6 := hp ⟨6, .data⟩ (by simp) rfl
        have e6 := (hJ.2.2.2.2.2.2.2.2.2.2.2.2.2.2.2.2.2.2.2.1) p6
        simp only [putAll, Act.put, List.setIfInBounds_toArray, List.set_cons_zero, List.set_cons_succ]
        go_simp
        refine hK _ G _ (by kernel_rfl) ?_
        exact ⟨(hJ.1),
          (hJ.2.1),
          (hJ.2.2.1),
          (hJ.2.2.2.1),
          (hJ.2.2.2.2.1),
          (hJ.2.2.2.2.2.1),
          (hJ.2.2.2.2.2.2.1),
          (hJ.2.2.2.2.2.2.2.1),
          (hJ.2.2.2.2.2.2.2.2.1),
          fun q => (hJ.2.2.2.2.2.2.2.2.2.1) (q.resolve_left (by decide)),
          fun q n => (hJ.2.2.2.2.2.2.2.2.2.2.1) (q.resolve_left (by decide)) (fun m => n (.inr m)),
          fun q => (hJ.2.2.2.2.2.2.2.2.2.2.2.1) (q.resolve_left (by decide)),
          fun q => .inr ((hJ.2.2.2.2.2.2.2.2.2.2.2.2.1) (q.resolve_left (by decide))),
          fun q => (hJ.2.2.2.2.2.2.2.2.2.2.2.2.2.1) (q.resolve_left (by decide)),
          fun q => (hJ.2.2.2.2.2.2.2.2.2.2.2.2.2.2.1) (q.resolve_left (by decide)),
          fun q => (hJ.2.2.2.2.2.2.2.2.2.2.2.2.2.2.2.1) (q.resolve_left (by decide)),
          fun q => (hJ.2.2.2.2.2.2.2.2.2.2.2.2.2.2.2.2.1) (q.resolve_left (by decide)),
          fun q => (hJ.2.2.2.2.2.2.2.2.2.2.2.2.2.2.2.2.2.1) (q.resolve_left (by decide)),
          fun q => (hJ.2.2.2.2.2.2.2.2.2.2.2.2.2.2.2.2.2.2.1) (q.resolve_left (by decide)),
          fun _ => by first | exact rfl | exact e6,
          fun _ => rfl,
          fun q => (hJ.2.2.2.2.2.2.2.2.2.2.2.2.2.2.2.2.2.2.2.2.2.1) (q.resolve_left (by decide)),
          fun q => (hJ.2.2.2.2.2.2.2.2.2.2.2.2.2.2.2.2.2.2.2.2.2.2.1) (q.resolve_left (by decide)),
          fun q => (hJ.2.2.2.2.2.2.2.2.2.2.2.2.2.2.2.2.2.2.2.2.2.2.2.1) (q.resolve_left (by decide)),
          fun q => (hJ.2.2.2.2.2.2.2.2.2.2.2.2.2.2.2.2.2.2.2.2.2.2.2.2) (q.resolve_left (by decide))⟩
      refine StepsOk.cons (i := 8) rfl (fun L x G w1 K Q hn hp hJ hK => ?_) ?_
      · skip
        have p7 : L 7 := hp ⟨7, .data⟩ (by simp) rfl
        have e7 := (hJ.2.2.2.2.2.2.2.2.2.2.2.2.2.2.2.2.2.2.2.2.1) p7
        simp only [putAll, Act.put, List.setIfInBounds_toArray, List.set_cons_zero, List.set_cons_succ]
        go_simp
        refine hK _ G _ (by kernel_rfl) ?_
        exact ⟨(hJ.1),
          (hJ.2.1),
          (hJ.2.2.1),
          (hJ.2.2.2.1),
          (hJ.2.2.2.2.1),
          (hJ.2.2.2.2.2.1),
          (hJ.2.2.2.2.2.2.1),
          (hJ.2.2.2.2.2.2.2.1),
          (hJ.2.2.2.2.2.2.2.2.1),
          fun q => (hJ.2.2.2.2.2.2.2.2.2.1) (q.resolve_left (by decide)),
          fun q n => (hJ.2.2.2.2.2.2.2.2.2.2.1) (q.resolve_left (by decide)) (fun m => n (.inr m)),
          fun q => (hJ.2.2.2.2.2.2.2.2.2.2.2.1) (q.resolve_left (by decide)),
          fun q => .inr ((hJ.2.2.2.2.2.2.2.2.2.2.2.2.1) (q.resolve_left (by decide))),
          fun q => (hJ.2.2.2.2.2.2.2.2.2.2.2.2.2.1) (q.resolve_left (by decide)),
          fun q => (hJ.2.2.2.2.2.2.2.2.2.2.2.2.2.2.1) (q.resolve_left (by decide)),
          fun q => (hJ.2.2.2.2.2.2.2.2.2.2.2.2.2.2.2.1) (q.resolve_left (by decide)),
          fun q => (hJ.2.2.2.2.2.2.2.2.2.2.2.2.2.2.2.2.1) (q.resolve_left (by decide)),
          fun q => (hJ.2.2.2.2.2.2.2.2.2.2.2.2.2.2.2.2.2.1) (q.resolve_left (by decide)),
          fun q => (hJ.2.2.2.2.2.2.2.2.2.2.2.2.2.2.2.2.2.2.1) (q.resolve_left (by decide)),
          fun q => (hJ.2.2.2.2.2.2.2.2.2.2.2.2.2.2.2.2.2.2.2.1) (q.resolve_left (by decide)),
          fun _ => by first | exact rfl | exact e7,
          fun _ => rfl,
          fun q => (hJ.2.2.2.2.2.2.2.2.2.2.2.2.2.2.2.2.2.2.2.2.2.2.1) (q.resolve_left (by decide)),
          fun q => (hJ.2.2.2.2.2.2.2.2.2.2.2.2.2.2.2.2.2.2.2.2.2.2.2.1) (q.resolve_left (by decide)),
          fun q => (hJ.2.2.2.2.2.2.2.2.2.2.2.2.2.2.2.2.2.2.2.2.2.2.2.2) (q.resolve_left (by decide))⟩
      refine StepsOk.cons (i := 9) rfl (fun L x G w1 K Q hn hp hJ hK => ?_) ?_
      · skip
        have p7 : L 7 := hp ⟨7, .data⟩ (by simp) rfl
        have e7 := (hJ.2.2.2.2.2.2.2.2.2.2.2.2.2.2.2.2.2.2.2.2.1) p7
        simp only [putAll, Act.put, List.setIfInBounds_toArray, List.set_cons_zero, List.set_cons_succ]
        go_simp
        refine hK _ G _ (by kernel_rfl) ?_
        exact ⟨(hJ.1),
          (hJ.2.1),
          (hJ.2.2.1),
          (hJ.2.2.2.1),
          (hJ.2.2.2.2.1),
          (hJ.2.2.2.2.2.1),
          (hJ.2.2.2.2.2.2.1),
          (hJ.2.2.2.2.2.2.2.1),
          (hJ.2.2.2.2.2.2.2.2.1),
          fun q => (hJ.2.2.2.2.2.2.2.2.2.1) (q.resolve_left (by decide)),
          fun q n => (hJ.2.2.2.2.2.2.2.2.2.2.1) (q.resolve_left (by decide)) (fun m => n (.inr m)),
          fun q => (hJ.2.2.2.2.2.2.2.2.2.2.2.1) (q.resolve_left (by decide)),
          fun q => .inr ((hJ.2.2.2.2.2.2.2.2.2.2.2.2.1) (q.resolve_left (by decide))),
          fun q => (hJ.2.2.2.2.2.2.2.2.2.2.2.2.2.1) (q.resolve_left (by decide)),
          fun q => (hJ.2.2.2.2.2.2.2.2.2.2.2.2.2.2.1) (q.resolve_left (by decide)),
          fun q => (hJ.2.2.2.2.2.2.2.2.2.2.2.2.2.2.2.1) (q.resolve_left (by decide)),
          fun q => (hJ.2.2.2.2.2.2.2.2.2.2.2.2.2.2.2.2.1) (q.resolve_left (by decide)),
          fun q => (hJ.2.2.2.2.2.2.2.2.2.2.2.2.2.2.2.2.2.1) (q.resolve_left (by decide)),
          fun q => (hJ.2.2.2.2.2.2.2.2.2.2.2.2.2.2.2.2.2.2.1) (q.resolve_left (by decide)),
          fun q => (hJ.2.2.2.2.2.2.2.2.2.2.2.2.2.2.2.2.2.2.2.1) (q.resolve_left (by decide)),
          fun _ => by first | exact rfl | exact e7,
          fun q => (hJ.2.2.2.2.2.2.2.2.2.2.2.2.2.2.2.2.2.2.2.2.2.1) (q.resolve_left (by decide)),
          fun _ => rfl,
          fun q => (hJ.2.2.2.2.2.2.2.2.2.2.2.2.2.2.2.2.2.2.2.2.2.2.2.1) (q.resolve_left (by decide)),
          fun q => (hJ.2.2.2.2.2.2.2.2.2.2.2.2.2.2.2.2.2.2.2.2.2.2.2.2) (q.resolve_left (by decide))⟩
      refine StepsOk.cons (i := 10) rfl (fun L x G w1 K Q hn hp hJ hK => ?_) ?_
      · skip
        simp only [putAll, Act.put, List.setIfInBounds_toArray, List.set_cons_zero, List.set_cons_succ]
        go_simp
        refine hK _ (fun t => if t = 10 then w1.heap.size else G t) _ (by kernel_rfl) ?_
        exact ⟨bal (hJ.1) _,
          by simp; omega,
          Blk.alloc ((hJ.2.2.1)) _,
          by simp; omega,
          Blk.alloc ((hJ.2.2.2.2.1)) _,
          by simp; omega,
          Blk.alloc ((hJ.2.2.2.2.2.2.1)) _,
          by simp; omega,
          Blk.alloc ((hJ.2.2.2.2.2.2.2.2.1)) _,
          fun _ => ⟨(hJ.1).size, by simp, Nat.ne_of_lt (hJ.2.1), Nat.ne_of_lt (hJ.2.2.2.1), Nat.ne_of_lt (hJ.2.2.2.2.2.1), Nat.ne_of_lt (hJ.2.2.2.2.2.2.2.1)⟩,
          fun _ _ => Blk.new w1 _ _,
          fun q => absurd ((hJ.2.2.2.2.2.2.2.2.2.2.2.2.1) (q.resolve_left (by decide))) hn,
          fun q => .inr ((hJ.2.2.2.2.2.2.2.2.2.2.2.2.1) (q.resolve_left (by decide))),
          fun q => (hJ.2.2.2.2.2.2.2.2.2.2.2.2.2.1) (q.resolve_left (by decide)),
          fun q => (hJ.2.2.2.2.2.2.2.2.2.2.2.2.2.2.1) (q.resolve_left (by decide)),
          fun q => (hJ.2.2.2.2.2.2.2.2.2.2.2.2.2.2.2.1) (q.resolve_left (by decide)),
          fun q => (hJ.2.2.2.2.2.2.2.2.2.2.2.2.2.2.2.2.1) (q.resolve_left (by decide)),
          fun q => (hJ.2.2.2.2.2.2.2.2.2.2.2.2.2.2.2.2.2.1) (q.resolve_left (by decide)),
          fun q => (hJ.2.2.2.2.2.2.2.2.2.2.2.2.2.2.2.2.2.2.1) (q.resolve_left (by decide)),
          fun q => (hJ.2.2.2.2.2.2.2.2.2.2.2.2.2.2.2.2.2.2.2.1) (q.resolve_left (by decide)),
          fun q => (hJ.2.2.2.2.2.2.2.2.2.2.2.2.2.2.2.2.2.2.2.2.1) (q.resolve_left (by decide)),
          fun q => (hJ.2.2.2.2.2.2.2.2.2.2.2.2.2.2.2.2.2.2.2.2.2.1) (q.resolve_left (by decide)),
          fun q => (hJ.2.2.2.2.2.2.2.2.2.2.2.2.2.2.2.2.2.2.2.2.2.2.1) (q.resolve_left (by decide)),
          fun _ => rfl,
          fun q => (hJ.2.2.2.2.2.2.2.2.2.2.2.2.2.2.2.2.2.2.2.2.2.2.2.2) (q.resolve_left (by decide))⟩
      refine StepsOk.cons (i := 11) rfl (fun L x G w1 K Q hn hp hJ hK => ?_) ?_
      · skip
        have p8 : L 8 := hp ⟨8, .data⟩ (by simp) rfl
        have e8 := (hJ.2.2.2.2.2.2.2.2.2.2.2.2.2.2.2.2.2.2.2.2.2.1) p8
        have p10 : L 10 := hp ⟨10, .data⟩ (by simp) rfl
        have e10 := (hJ.2.2.2.2.2.2.2.2.2.2.2.2.2.2.2.2.2.2.2.2.2.2.2.1) p10
        have hc := Blk.open2 (((hJ.2.2.2.2.2.2.2.2.2.2.1) p10 hn))
        have c0 := hc.1
        have c1 := hc.2.1
        have c2 := hc.2.2.1
        have c3 := hc.2.2.2
        clear hc
        simp only [putAll, Act.put, List.setIfInBounds_toArray, List.set_cons_zero, List.set_cons_succ]
        go_simp
        refine hK _ G _ (by kernel_rfl) ?_
        exact ⟨bst (bst ((hJ.1)) (p := ⟨G 10, 0, none⟩) ((hJ.2.2.2.2.2.2.2.2.2.1) p10).1 (.int .i64 (Wi.Hq (h + h')))) (p := ⟨G 10, 1, none⟩) ((hJ.2.2.2.2.2.2.2.2.2.1) p10).1 (.int .u64 (Wi.Lr (h + h'))),
          by simpa using (hJ.2.1),
          Blk.far (Blk.far ((hJ.2.2.1)) (p := ⟨G 10, 0, none⟩) (((hJ.2.2.2.2.2.2.2.2.2.1) p10).2.2.1) (.int .i64 (Wi.Hq (h + h')))) (p := ⟨G 10, 1, none⟩) (((hJ.2.2.2.2.2.2.2.2.2.1) p10).2.2.1) (.int .u64 (Wi.Lr (h + h'))),
          by simpa using (hJ.2.2.2.1),
          Blk.far (Blk.far ((hJ.2.2.2.2.1)) (p := ⟨G 10, 0, none⟩) (((hJ.2.2.2.2.2.2.2.2.2.1) p10).2.2.2.1) (.int .i64 (Wi.Hq (h + h')))) (p := ⟨G 10, 1, none⟩) (((hJ.2.2.2.2.2.2.2.2.2.1) p10).2.2.2.1) (.int .u64 (Wi.Lr (h + h'))),
          by simpa using (hJ.2.2.2.2.2.1),
          Blk.far (Blk.far ((hJ.2.2.2.2.2.2.1)) (p := ⟨G 10, 0, none⟩) (((hJ.2.2.2.2.2.2.2.2.2.1) p10).2.2.2.2.1) (.int .i64 (Wi.Hq (h + h')))) (p := ⟨G 10, 1, none⟩) (((hJ.2.2.2.2.2.2.2.2.2.1) p10).2.2.2.2.1) (.int .u64 (Wi.Lr (h + h'))),
          by simpa using (hJ.2.2.2.2.2.2.2.1),
          Blk.far (Blk.far ((hJ.2.2.2.2.2.2.2.2.1)) (p := ⟨G 10, 0, none⟩) (((hJ.2.2.2.2.2.2.2.2.2.1) p10).2.2.2.2.2) (.int .i64 (Wi.Hq (h + h')))) (p := ⟨G 10, 1, none⟩) (((hJ.2.2.2.2.2.2.2.2.2.1) p10).2.2.2.2.2) (.int .u64 (Wi.Lr (h + h'))),
          fun q => ⟨((hJ.2.2.2.2.2.2.2.2.2.1) (q.resolve_left (by decide))).1, by have := ((hJ.2.2.2.2.2.2.2.2.2.1) (q.resolve_left (by decide))).2.1; simpa using this, ((hJ.2.2.2.2.2.2.2.2.2.1) (q.resolve_left (by decide))).2.2⟩,
          fun _ n => absurd (.inl rfl) n,
          fun _ => by simpa using Blk.set_ (Blk.set_ (((hJ.2.2.2.2.2.2.2.2.2.2.1) p10 hn)) 0 (.int .i64 (Wi.Hq (h + h')))) 1 (.int .u64 (Wi.Lr (h + h'))),
          fun _ => .inr p10,
          fun q => (hJ.2.2.2.2.2.2.2.2.2.2.2.2.2.1) (q.resolve_left (by decide)),
          fun q => (hJ.2.2.2.2.2.2.2.2.2.2.2.2.2.2.1) (q.resolve_left (by decide)),
          fun q => (hJ.2.2.2.2.2.2.2.2.2.2.2.2.2.2.2.1) (q.resolve_left (by decide)),
          fun q => (hJ.2.2.2.2.2.2.2.2.2.2.2.2.2.2.2.2.1) (q.resolve_left (by decide)),
          fun q => (hJ.2.2.2.2.2.2.2.2.2.2.2.2.2.2.2.2.2.1) (q.resolve_left (by decide)),
          fun q => (hJ.2.2.2.2.2.2.2.2.2.2.2.2.2.2.2.2.2.2.1) (q.resolve_left (by decide)),
          fun q => (hJ.2.2.2.2.2.2.2.2.2.2.2.2.2.2.2.2.2.2.2.1) (q.resolve_left (by decide)),
          fun q => (hJ.2.2.2.2.2.2.2.2.2.2.2.2.2.2.2.2.2.2.2.2.1) (q.resolve_left (by decide)),
          fun _ => by first | exact rfl | exact e8,
          fun q => (hJ.2.2.2.2.2.2.2.2.2.2.2.2.2.2.2.2.2.2.2.2.2.2.1) (q.resolve_left (by decide)),
          fun _ => by first | exact rfl | exact e10,
          fun q => (hJ.2.2.2.2.2.2.2.2.2.2.2.2.2.2.2.2.2.2.2.2.2.2.2.2) (q.resolve_left (by decide))⟩
      refine StepsOk.cons (i := 12) rfl (fun L x G w1 K Q hn hp hJ hK => ?_) ?_
      · skip
        have p9 : L 9 := hp ⟨9, .data⟩ (by simp) rfl
        have e9 := (hJ.2.2.2.2.2.2.2.2.2.2.2.2.2.2.2.2.2.2.2.2.2.2.1) p9
        simp only [putAll, Act.put, List.setIfInBounds_toArray, List.set_cons_zero, List.set_cons_succ]
        go_simp
        refine hK _ G _ (by kernel_rfl) ?_
        exact ⟨(hJ.1),
          (hJ.2.1),
          (hJ.2.2.1),
          (hJ.2.2.2.1),
          (hJ.2.2.2.2.1),
          (hJ.2.2.2.2.2.1),
          (hJ.2.2.2.2.2.2.1),
          (hJ.2.2.2.2.2.2.2.1),
          (hJ.2.2.2.2.2.2.2.2.1),
          fun q => (hJ.2.2.2.2.2.2.2.2.2.1) (q.resolve_left (by decide)),
          fun q n => (hJ.2.2.2.2.2.2.2.2.2.2.1) (q.resolve_left (by decide)) (fun m => n (.inr m)),
          fun q => (hJ.2.2.2.2.2.2.2.2.2.2.2.1) (q.resolve_left (by decide)),
          fun q => .inr ((hJ.2.2.2.2.2.2.2.2.2.2.2.2.1) (q.resolve_left (by decide))),
          fun q => (hJ.2.2.2.2.2.2.2.2.2.2.2.2.2.1) (q.resolve_left (by decide)),
          fun q => (hJ.2.2.2.2.2.2.2.2.2.2.2.2.2.2.1) (q.resolve_left (by decide)),
          fun q => (hJ.2.2.2.2.2.2.2.2.2.2.2.2.2.2.2.1) (q.resolve_left (by decide)),
          fun q => (hJ.2.2.2.2.2.2.2.2.2.2.2.2.2.2.2.2.1) (q.resolve_left (by decide)),
          fun q => (hJ.2.2.2.2.2.2.2.2.2.2.2.2.2.2.2.2.2.1) (q.resolve_left (by decide)),
          fun q => (hJ.2.2.2.2.2.2.2.2.2.2.2.2.2.2.2.2.2.2.1) (q.resolve_left (by decide)),
          fun q => (hJ.2.2.2.2.2.2.2.2.2.2.2.2.2.2.2.2.2.2.2.1) (q.resolve_left (by decide)),
          fun q => (hJ.2.2.2.2.2.2.2.2.2.2.2.2.2.2.2.2.2.2.2.2.1) (q.resolve_left (by decide)),
          fun q => (hJ.2.2.2.2.2.2.2.2.2.2.2.2.2.2.2.2.2.2.2.2.2.1) (q.resolve_left (by decide)),
          fun _ => by first | exact rfl | exact e9,
          fun q => (hJ.2.2.2.2.2.2.2.2.2.2.2.2.2.2.2.2.2.2.2.2.2.2.2.1) (q.resolve_left (by decide)),
          fun _ => rfl⟩
      exact StepsOk.nil
    case fin =>
      intro L x G w4 hall hJ
      replace X := (hJ.2.2.1)
      replace Y := (hJ.2.2.2.2.1)
      replace R := (hJ.2.2.2.2.2.2.1)
      replace ML := (hJ.2.2.2.2.2.2.2.2.1)
      obtain ⟨haMH, hlMH, hnMHX, hnMHY, hnMHR, hnMHML⟩ := (hJ.2.2.2.2.2.2.2.2.2.1) (hall 10 (by decide))
      have MH := (hJ.2.2.2.2.2.2.2.2.2.2.2.1) (hall 11 (by decide))
      have u0 := hJ.2.2.2.2.2.2.2.2.2.2.2.2.2.1 (hall 0 (by decide))
      have u1 := hJ.2.2.2.2.2.2.2.2.2.2.2.2.2.2.1 (hall 1 (by decide))
      have u2 := hJ.2.2.2.2.2.2.2.2.2.2.2.2.2.2.2.1 (hall 2 (by decide))
      have u3 := hJ.2.2.2.2.2.2.2.2.2.2.2.2.2.2.2.2.1 (hall 3 (by decide))
      have u4 := hJ.2.2.2.2.2.2.2.2.2.2.2.2.2.2.2.2.2.1 (hall 4 (by decide))
      have u5 := hJ.2.2.2.2.2.2.2.2.2.2.2.2.2.2.2.2.2.2.1 (hall 5 (by decide))
      have u6 := hJ.2.2.2.2.2.2.2.2.2.2.2.2.2.2.2.2.2.2.2.1 (hall 6 (by decide))
      have u7 := hJ.2.2.2.2.2.2.2.2.2.2.2.2.2.2.2.2.2.2.2.2.1 (hall 7 (by decide))
      have u8 := hJ.2.2.2.2.2.2.2.2.2.2.2.2.2.2.2.2.2.2.2.2.2.1 (hall 8 (by decide))
      have u9 := hJ.2.2.2.2.2.2.2.2.2.2.2.2.2.2.2.2.2.2.2.2.2.2.1 (hall 9 (by decide))
      have u10 := hJ.2.2.2.2.2.2.2.2.2.2.2.2.2.2.2.2.2.2.2.2.2.2.2.1 (hall 10 (by decide))
      have u12 := hJ.2.2.2.2.2.2.2.2.2.2.2.2.2.2.2.2.2.2.2.2.2.2.2.2 (hall 12 (by decide))
      replace hB := hJ.1
      simp only [putAll, Act.put, List.setIfInBounds_toArray, List.set_cons_zero, List.set_cons_succ]
      simp only [u0, u1, u2, u3, u4, u5, u6, u7, u8, u9, u10, u12]
      clear hall hJ u0 u1 u2 u3 u4 u5 u6 u7 u8 u9 u10 u12
      generalize G 10 = gMH at *
      obtain ⟨c00, c01, c02, c03⟩ := ML.open2
      obtain ⟨c10, c11, c12, c13⟩ := MH.open2
      obtain ⟨c20, c21, c22, c23⟩ := R.open2
      go_wp2_with fail
      have hz4 := hB.size
      have l4X := X.lt
      have l4Y := Y.lt
      have l4R := R.lt
      have l4ML := ML.lt
      have l4MH := MH.lt
      replace X := X.alloc (.cells #[.int .i64 (Wi.Hq (l + l')), .int .u64 (Wi.Lr (l + l')), .int .i64 (Wi.Hq (h + h')), .int .u64 (Wi.Lr (h + h'))] 40)
      replace Y := Y.alloc (.cells #[.int .i64 (Wi.Hq (l + l')), .int .u64 (Wi.Lr (l + l')), .int .i64 (Wi.Hq (h + h')), .int .u64 (Wi.Lr (h + h'))] 40)
      replace R := R.alloc (.cells #[.int .i64 (Wi.Hq (l + l')), .int .u64 (Wi.Lr (l + l')), .int .i64 (Wi.Hq (h + h')), .int .u64 (Wi.Lr (h + h'))] 40)
      replace ML := ML.alloc (.cells #[.int .i64 (Wi.Hq (l + l')), .int .u64 (Wi.Lr (l + l')), .int .i64 (Wi.Hq (h + h')), .int .u64 (Wi.Lr (h + h'))] 40)
      replace MH := MH.alloc (.cells #[.int .i64 (Wi.Hq (l + l')), .int .u64 (Wi.Lr (l + l')), .int .i64 (Wi.Hq (h + h')), .int .u64 (Wi.Lr (h + h'))] 40)
      replace hB := bal hB (.cells #[.int .i64 (Wi.Hq (l + l')), .int .u64 (Wi.Lr (l + l')), .int .i64 (Wi.Hq (h + h')), .int .u64 (Wi.Lr (h + h'))] 40)
      have SL := Blk.new w4 40 #[.int .i64 (Wi.Hq (l + l')), .int .u64 (Wi.Lr (l + l')), .int .i64 (Wi.Hq (h + h')), .int .u64 (Wi.Lr (h + h'))]
      refine (rexact_c _ 2 2 (two (l + l') (h + h')) _ (rd2W SL) (by decide) (two_W o5.hv o6.hv)).mono ?_
      rw [E.out]
      rintro e w5 ⟨rfl, hb⟩
      clear c00 c01 c02 c03 c10 c11 c12 c13 c20 c21 c22 c23
      replace X := X.keep hb
      replace Y := Y.keep hb
      replace R := R.keep hb
      replace ML := ML.keep hb
      replace MH := MH.keep hb
      replace SL := SL.keep hb
      replace hB := bt hB hb
      clear hb
      obtain ⟨r00, r01, r02, r03⟩ := R.open2
      go_wp2_with fail
      refine bodyPost_ret (by simp [results, Try.results45, go_sem, r00, r01, r02, r03]; try rfl) rfl ?_
      exact ⟨rfl, by repeat (first | exact Below.refl _ _ | (with_reducible assumption) | (with_reducible apply bal) | (with_reducible apply bdr) | (with_reducible apply bdnl) | (with_reducible refine bst ?_ (by first | (simp; done) | (simp; omega) | omega) _) | (with_reducible refine bt ?_ (by with_reducible assumption)))⟩
end Go.Proofs.Ytclohghongpfkaa
