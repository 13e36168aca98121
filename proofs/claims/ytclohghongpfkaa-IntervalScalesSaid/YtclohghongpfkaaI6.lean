/-
  Contracts: the reference's Int, and made.
-/
import Derived.Test.YtclohghongpfkaaI1
import Derived.Test.YtclohghongpfkaaIPlain2
import Derived.Test.YtclohghongpfkaaInv
import Derived.Test.YtclohghongpfkaaRd
import Derived.Test.YtclohghongpfkaaW9
namespace Go.Proofs.Ytclohghongpfkaa
set_option linter.unusedVariables false
set_option linter.unusedSimpArgs false
open Go.RowKit

/-- Rows of two words. -/
def wv (N : Nat → Int) : Nat → Nat → Value := fun i j => if j = 0 then .int .i64 (Wi.Hq (N i)) else .int .u64 (Wi.Lr (N i))
theorem one_wv (N : Nat → Int) : ∀ i j, (wv N i j).oneCell' = true := fun i j => by unfold wv; split <;> rfl
theorem Rd.atW {w : World} {b off n c : Nat} {N : Nat → Int} (h : Rd w 2 (some ⟨b, off, none⟩) n c (wv N)) {k : Nat} (hk : k < n) :
    b < w.heap.size ∧ w.cell? ⟨b, off + k * 2, none⟩ = some (.int .i64 (Wi.Hq (N k))) ∧ w.cell? ⟨b, off + k * 2 + 1, none⟩ = some (.int .u64 (Wi.Lr (N k))) := by
  obtain ⟨b', off', e, hl, hc⟩ := h.at_ (by omega)
  injection e with e
  injection e with e1 e2
  subst e1 e2
  exact ⟨hl, hc k 0 hk (by omega), hc k 1 hk (by omega)⟩

set_option maxRecDepth 100000 in
set_option maxHeartbeats 4000000 in
theorem rint_c (h l v : Int) (w : World) (H : Wi.Wd h l v) : Calls Try.prog 100 #[.agg #[.int .i64 h, .int .u64 l]] w fun e w' =>
    e = .returned (.tuple #[.int .i64 (Wi.iv v), .bool (Wi.ib v)]) ∧ Below w.heap.size w w' := by
  obtain ⟨h1, h2, h3, h4, hv⟩ := H.bd
  obtain ⟨z, n, z1, z2, hz, ez⟩ := i_ex l h3 h4
  have ez2 : IntKind.i64.wrap l = z := by have := hz.out; rw [IntKind.wrap_i64]; omega
  have hL : Wi.Lr z = l := by have := hz.out; unfold Wi.Lr; omega
  have hb2 : (Wi.Lr z == l) = true := by simpa using hL
  by_cases hh : Wi.Hq z = h
  · have hb : (Wi.Hq z == h) = true := by simpa using hh
    have ev : z = v := by have := Wi.HL z; rw [hh, hL] at this; omega
    have q : Wi.in64 v := by unfold Wi.in64; omega
    have E := Lib.hid (show z = Wi.iv v ∧ true = Wi.ib v from by rw [Wi.iv_yes q, Wi.ib_yes q]; exact ⟨ev, rfl⟩)
    clear ev q
    clear hv hh
    go_enter Try.func100, Try.ntmps100
    have X := Blk.new w 40 #[.int .i64 h, .int .u64 l]
    have hB := ba w (.cells #[.int .i64 h, .int .u64 l] 40)
    go_wp2_with fail
    refine wp_region_inv (fun L x G wx => Below w.heap.size w wx
          ∧ w.heap.size < wx.heap.size
          ∧ Blk wx (w.heap.size) 40 #[.int .i64 h, .int .u64 l]
          ∧ (L 0 → x 4 = .pointer (some ⟨w.heap.size, 1, none⟩))
          ∧ (L 1 → x 5 = .int .u64 l)
          ∧ (L 2 → x 6 = .int .i64 (z))
          ∧ (L 3 → x 7 = .agg #[.int .i64 (Wi.Hq z), .int .u64 (l)])
          ∧ (L 4 → x 8 = .agg #[.int .i64 h, .int .u64 l])
          ∧ (L 5 → x 9 = .bool (true))) [4, 5, 6, 7, 8, 9] 6 (by kernel_rfl) (by kernel_rfl) (by kernel_rfl) ?h0 ?st ?fin
    case h0 =>
      exact ⟨bdr hB, Blk.lt X.drew, X.drew, fun q => q.elim, fun q => q.elim, fun q => q.elim, fun q => q.elim, fun q => q.elim, fun q => q.elim⟩
    case st =>
      refine StepsOk.cons (i := 0) rfl (fun L x G w1 K Q hn hp hJ hK => ?_) ?_
      · skip
        simp only [putAll, Act.put, List.setIfInBounds_toArray, List.set_cons_zero, List.set_cons_succ]
        go_simp
        refine hK _ G _ (by kernel_rfl) ?_
        exact ⟨(hJ.1),
          (hJ.2.1),
          (hJ.2.2.1),
          fun _ => rfl,
          fun q => (hJ.2.2.2.2.1) (q.resolve_left (by decide)),
          fun q => (hJ.2.2.2.2.2.1) (q.resolve_left (by decide)),
          fun q => (hJ.2.2.2.2.2.2.1) (q.resolve_left (by decide)),
          fun q => (hJ.2.2.2.2.2.2.2.1) (q.resolve_left (by decide)),
          fun q => (hJ.2.2.2.2.2.2.2.2) (q.resolve_left (by decide))⟩
      refine StepsOk.cons (i := 1) rfl (fun L x G w1 K Q hn hp hJ hK => ?_) ?_
      · skip
        have p0 : L 0 := hp ⟨0, .data⟩ (by simp) rfl
        have e0 := (hJ.2.2.2.1) p0
        have hc := Blk.open2 ((hJ.2.2.1))
        have c0 := hc.1
        have c1 := hc.2.1
        have c2 := hc.2.2.1
        have c3 := hc.2.2.2
        clear hc
        simp only [putAll, Act.put, List.setIfInBounds_toArray, List.set_cons_zero, List.set_cons_succ]
        go_simp
        refine hK _ G _ (by kernel_rfl) ?_
        exact ⟨(hJ.1),
          (hJ.2.1),
          (hJ.2.2.1),
          fun _ => by first | exact rfl | exact e0,
          fun _ => rfl,
          fun q => (hJ.2.2.2.2.2.1) (q.resolve_left (by decide)),
          fun q => (hJ.2.2.2.2.2.2.1) (q.resolve_left (by decide)),
          fun q => (hJ.2.2.2.2.2.2.2.1) (q.resolve_left (by decide)),
          fun q => (hJ.2.2.2.2.2.2.2.2) (q.resolve_left (by decide))⟩
      refine StepsOk.cons (i := 2) rfl (fun L x G w1 K Q hn hp hJ hK => ?_) ?_
      · skip
        have p1 : L 1 := hp ⟨1, .data⟩ (by simp) rfl
        have e1 := (hJ.2.2.2.2.1) p1
        simp only [putAll, Act.put, List.setIfInBounds_toArray, List.set_cons_zero, List.set_cons_succ]
        go_simp
        refine hK _ G _ (by kernel_rfl) ?_
        exact ⟨(hJ.1),
          (hJ.2.1),
          (hJ.2.2.1),
          fun q => (hJ.2.2.2.1) (q.resolve_left (by decide)),
          fun _ => by first | exact rfl | exact e1,
          fun _ => rfl,
          fun q => (hJ.2.2.2.2.2.2.1) (q.resolve_left (by decide)),
          fun q => (hJ.2.2.2.2.2.2.2.1) (q.resolve_left (by decide)),
          fun q => (hJ.2.2.2.2.2.2.2.2) (q.resolve_left (by decide))⟩
      refine StepsOk.cons (i := 3) rfl (fun L x G w1 K Q hn hp hJ hK => ?_) ?_
      · skip
        have p2 : L 2 := hp ⟨2, .data⟩ (by simp) rfl
        have e2 := (hJ.2.2.2.2.2.1) p2
        simp only [putAll, Act.put, List.setIfInBounds_toArray, List.set_cons_zero, List.set_cons_succ]
        go_simp
        refine (rof_c _ _ z1 z2).mono ?_
        rintro e w2 ⟨rfl, hb⟩
        have hz := hb.size
        try go_simp
        refine hK _ G _ (by kernel_rfl) ?_
        exact ⟨bt (hJ.1) hb,
          Nat.lt_of_lt_of_le (hJ.2.1) hb.size,
          Blk.keep ((hJ.2.2.1)) hb,
          fun q => (hJ.2.2.2.1) (q.resolve_left (by decide)),
          fun q => (hJ.2.2.2.2.1) (q.resolve_left (by decide)),
          fun _ => by first | exact rfl | exact e2,
          fun _ => rfl,
          fun q => (hJ.2.2.2.2.2.2.2.1) (q.resolve_left (by decide)),
          fun q => (hJ.2.2.2.2.2.2.2.2) (q.resolve_left (by decide))⟩
      refine StepsOk.cons (i := 4) rfl (fun L x G w1 K Q hn hp hJ hK => ?_) ?_
      · skip
        have hc := Blk.open2 ((hJ.2.2.1))
        have c0 := hc.1
        have c1 := hc.2.1
        have c2 := hc.2.2.1
        have c3 := hc.2.2.2
        clear hc
        simp only [putAll, Act.put, List.setIfInBounds_toArray, List.set_cons_zero, List.set_cons_succ]
        go_simp
        refine hK _ G _ (by kernel_rfl) ?_
        exact ⟨(hJ.1),
          (hJ.2.1),
          (hJ.2.2.1),
          fun q => (hJ.2.2.2.1) (q.resolve_left (by decide)),
          fun q => (hJ.2.2.2.2.1) (q.resolve_left (by decide)),
          fun q => (hJ.2.2.2.2.2.1) (q.resolve_left (by decide)),
          fun q => (hJ.2.2.2.2.2.2.1) (q.resolve_left (by decide)),
          fun _ => rfl,
          fun q => (hJ.2.2.2.2.2.2.2.2) (q.resolve_left (by decide))⟩
      refine StepsOk.cons (i := 5) rfl (fun L x G w1 K Q hn hp hJ hK => ?_) ?_
      · skip
        have p3 : L 3 := hp ⟨3, .data⟩ (by simp) rfl
        have e3 := (hJ.2.2.2.2.2.2.1) p3
        have p4 : L 4 := hp ⟨4, .data⟩ (by simp) rfl
        have e4 := (hJ.2.2.2.2.2.2.2.1) p4
        simp only [putAll, Act.put, List.setIfInBounds_toArray, List.set_cons_zero, List.set_cons_succ]
        go_simp
        refine hK _ G _ (by kernel_rfl) ?_
        exact ⟨(hJ.1),
          (hJ.2.1),
          (hJ.2.2.1),
          fun q => (hJ.2.2.2.1) (q.resolve_left (by decide)),
          fun q => (hJ.2.2.2.2.1) (q.resolve_left (by decide)),
          fun q => (hJ.2.2.2.2.2.1) (q.resolve_left (by decide)),
          fun _ => by first | exact rfl | exact e3,
          fun _ => by first | exact rfl | exact e4,
          fun _ => rfl⟩
      exact StepsOk.nil
    case fin =>
      intro L x G w1 hall hJ
      replace X := (hJ.2.2.1)
      have u0 := hJ.2.2.2.1 (hall 0 (by decide))
      have u1 := hJ.2.2.2.2.1 (hall 1 (by decide))
      have u2 := hJ.2.2.2.2.2.1 (hall 2 (by decide))
      have u3 := hJ.2.2.2.2.2.2.1 (hall 3 (by decide))
      have u4 := hJ.2.2.2.2.2.2.2.1 (hall 4 (by decide))
      have u5 := hJ.2.2.2.2.2.2.2.2 (hall 5 (by decide))
      replace hB := hJ.1
      simp only [putAll, Act.put, List.setIfInBounds_toArray, List.set_cons_zero, List.set_cons_succ]
      simp only [u0, u1, u2, u3, u4, u5]
      clear hall hJ u0 u1 u2 u3 u4 u5
      obtain ⟨c00, c01, c02, c03⟩ := X.open2
      go_wp2_with fail
      go_returns
      exact ⟨ret_i (by first | exact E.out | (rw [ez]; exact E.out)), hB⟩
  · have hb : (Wi.Hq z == h) = false := by simpa using hh
    have q : ¬ Wi.in64 v := fun q => hh (by unfold Wi.in64 at q; have := hz.out; unfold Wi.Hq; omega)
    have E := Lib.hid (show 0 = Wi.iv v ∧ false = Wi.ib v from by rw [Wi.iv_no q, Wi.ib_no q]; exact ⟨rfl, rfl⟩)
    clear q
    clear hv hh
    go_enter Try.func100, Try.ntmps100
    have X := Blk.new w 40 #[.int .i64 h, .int .u64 l]
    have hB := ba w (.cells #[.int .i64 h, .int .u64 l] 40)
    go_wp2_with fail
    refine wp_region_inv (fun L x G wx => Below w.heap.size w wx
          ∧ w.heap.size < wx.heap.size
          ∧ Blk wx (w.heap.size) 40 #[.int .i64 h, .int .u64 l]
          ∧ (L 0 → x 4 = .pointer (some ⟨w.heap.size, 1, none⟩))
          ∧ (L 1 → x 5 = .int .u64 l)
          ∧ (L 2 → x 6 = .int .i64 (z))
          ∧ (L 3 → x 7 = .agg #[.int .i64 (Wi.Hq z), .int .u64 (l)])
          ∧ (L 4 → x 8 = .agg #[.int .i64 h, .int .u64 l])
          ∧ (L 5 → x 9 = .bool (false))) [4, 5, 6, 7, 8, 9] 6 (by kernel_rfl) (by kernel_rfl) (by kernel_rfl) ?h0 ?st ?fin
    case h0 =>
      exact ⟨bdr hB, Blk.lt X.drew, X.drew, fun q => q.elim, fun q => q.elim, fun q => q.elim, fun q => q.elim, fun q => q.elim, fun q => q.elim⟩
    case st =>
      refine StepsOk.cons (i := 0) rfl (fun L x G w1 K Q hn hp hJ hK => ?_) ?_
      · skip
        simp only [putAll, Act.put, List.setIfInBounds_toArray, List.set_cons_zero, List.set_cons_succ]
        go_simp
        refine hK _ G _ (by kernel_rfl) ?_
        exact ⟨(hJ.1),
          (hJ.2.1),
          (hJ.2.2.1),
          fun _ => rfl,
          fun q => (hJ.2.2.2.2.1) (q.resolve_left (by decide)),
          fun q => (hJ.2.2.2.2.2.1) (q.resolve_left (by decide)),
          fun q => (hJ.2.2.2.2.2.2.1) (q.resolve_left (by decide)),
          fun q => (hJ.2.2.2.2.2.2.2.1) (q.resolve_left (by decide)),
          fun q => (hJ.2.2.2.2.2.2.2.2) (q.resolve_left (by decide))⟩
      refine StepsOk.cons (i := 1) rfl (fun L x G w1 K Q hn hp hJ hK => ?_) ?_
      · skip
        have p0 : L 0 := hp ⟨0, .data⟩ (by simp) rfl
        have e0 := (hJ.2.2.2.1) p0
        have hc := Blk.open2 ((hJ.2.2.1))
        have c0 := hc.1
        have c1 := hc.2.1
        have c2 := hc.2.2.1
        have c3 := hc.2.2.2
        clear hc
        simp only [putAll, Act.put, List.setIfInBounds_toArray, List.set_cons_zero, List.set_cons_succ]
        go_simp
        refine hK _ G _ (by kernel_rfl) ?_
        exact ⟨(hJ.1),
          (hJ.2.1),
          (hJ.2.2.1),
          fun _ => by first | exact rfl | exact e0,
          fun _ => rfl,
          fun q => (hJ.2.2.2.2.2.1) (q.resolve_left (by decide)),
          fun q => (hJ.2.2.2.2.2.2.1) (q.resolve_left (by decide)),
          fun q => (hJ.2.2.2.2.2.2.2.1) (q.resolve_left (by decide)),
          fun q => (hJ.2.2.2.2.2.2.2.2) (q.resolve_left (by decide))⟩
      refine StepsOk.cons (i := 2) rfl (fun L x G w1 K Q hn hp hJ hK => ?_) ?_
      · skip
        have p1 : L 1 := hp ⟨1, .data⟩ (by simp) rfl
        have e1 := (hJ.2.2.2.2.1) p1
        simp only [putAll, Act.put, List.setIfInBounds_toArray, List.set_cons_zero, List.set_cons_succ]
        go_simp
        refine hK _ G _ (by kernel_rfl) ?_
        exact ⟨(hJ.1),
          (hJ.2.1),
          (hJ.2.2.1),
          fun q => (hJ.2.2.2.1) (q.resolve_left (by decide)),
          fun _ => by first | exact rfl | exact e1,
          fun _ => rfl,
          fun q => (hJ.2.2.2.2.2.2.1) (q.resolve_left (by decide)),
          fun q => (hJ.2.2.2.2.2.2.2.1) (q.resolve_left (by decide)),
          fun q => (hJ.2.2.2.2.2.2.2.2) (q.resolve_left (by decide))⟩
      refine StepsOk.cons (i := 3) rfl (fun L x G w1 K Q hn hp hJ hK => ?_) ?_
      · skip
        have p2 : L 2 := hp ⟨2, .data⟩ (by simp) rfl
        have e2 := (hJ.2.2.2.2.2.1) p2
        simp only [putAll, Act.put, List.setIfInBounds_toArray, List.set_cons_zero, List.set_cons_succ]
        go_simp
        refine (rof_c _ _ z1 z2).mono ?_
        rintro e w2 ⟨rfl, hb⟩
        have hz := hb.size
        try go_simp
        refine hK _ G _ (by kernel_rfl) ?_
        exact ⟨bt (hJ.1) hb,
          Nat.lt_of_lt_of_le (hJ.2.1) hb.size,
          Blk.keep ((hJ.2.2.1)) hb,
          fun q => (hJ.2.2.2.1) (q.resolve_left (by decide)),
          fun q => (hJ.2.2.2.2.1) (q.resolve_left (by decide)),
          fun _ => by first | exact rfl | exact e2,
          fun _ => rfl,
          fun q => (hJ.2.2.2.2.2.2.2.1) (q.resolve_left (by decide)),
          fun q => (hJ.2.2.2.2.2.2.2.2) (q.resolve_left (by decide))⟩
      refine StepsOk.cons (i := 4) rfl (fun L x G w1 K Q hn hp hJ hK => ?_) ?_
      · skip
        have hc := Blk.open2 ((hJ.2.2.1))
        have c0 := hc.1
        have c1 := hc.2.1
        have c2 := hc.2.2.1
        have c3 := hc.2.2.2
        clear hc
        simp only [putAll, Act.put, List.setIfInBounds_toArray, List.set_cons_zero, List.set_cons_succ]
        go_simp
        refine hK _ G _ (by kernel_rfl) ?_
        exact ⟨(hJ.1),
          (hJ.2.1),
          (hJ.2.2.1),
          fun q => (hJ.2.2.2.1) (q.resolve_left (by decide)),
          fun q => (hJ.2.2.2.2.1) (q.resolve_left (by decide)),
          fun q => (hJ.2.2.2.2.2.1) (q.resolve_left (by decide)),
          fun q => (hJ.2.2.2.2.2.2.1) (q.resolve_left (by decide)),
          fun _ => rfl,
          fun q => (hJ.2.2.2.2.2.2.2.2) (q.resolve_left (by decide))⟩
      refine StepsOk.cons (i := 5) rfl (fun L x G w1 K Q hn hp hJ hK => ?_) ?_
      · skip
        have p3 : L 3 := hp ⟨3, .data⟩ (by simp) rfl
        have e3 := (hJ.2.2.2.2.2.2.1) p3
        have p4 : L 4 := hp ⟨4, .data⟩ (by simp) rfl
        have e4 := (hJ.2.2.2.2.2.2.2.1) p4
        simp only [putAll, Act.put, List.setIfInBounds_toArray, List.set_cons_zero, List.set_cons_succ]
        go_simp
        refine hK _ G _ (by kernel_rfl) ?_
        exact ⟨(hJ.1),
          (hJ.2.1),
          (hJ.2.2.1),
          fun q => (hJ.2.2.2.1) (q.resolve_left (by decide)),
          fun q => (hJ.2.2.2.2.1) (q.resolve_left (by decide)),
          fun q => (hJ.2.2.2.2.2.1) (q.resolve_left (by decide)),
          fun _ => by first | exact rfl | exact e3,
          fun _ => by first | exact rfl | exact e4,
          fun _ => rfl⟩
      exact StepsOk.nil
    case fin =>
      intro L x G w1 hall hJ
      replace X := (hJ.2.2.1)
      have u0 := hJ.2.2.2.1 (hall 0 (by decide))
      have u1 := hJ.2.2.2.2.1 (hall 1 (by decide))
      have u2 := hJ.2.2.2.2.2.1 (hall 2 (by decide))
      have u3 := hJ.2.2.2.2.2.2.1 (hall 3 (by decide))
      have u4 := hJ.2.2.2.2.2.2.2.1 (hall 4 (by decide))
      have u5 := hJ.2.2.2.2.2.2.2.2 (hall 5 (by decide))
      replace hB := hJ.1
      simp only [putAll, Act.put, List.setIfInBounds_toArray, List.set_cons_zero, List.set_cons_succ]
      simp only [u0, u1, u2, u3, u4, u5]
      clear hall hJ u0 u1 u2 u3 u4 u5
      obtain ⟨c00, c01, c02, c03⟩ := X.open2
      go_wp2_with fail
      go_returns
      exact ⟨ret_i (by first | exact E.out | (rw [ez]; exact E.out)), hB⟩
set_option maxRecDepth 100000 in
set_option maxHeartbeats 4000000 in
theorem made_c (A B : Option Addr) (n c d : Nat) (N M : Nat → Int) (w : World) (RA : Rd w 2 A n c (wv N)) (RB : Rd w 2 B n d (wv M)) (hn : 0 < n) (hN : ∀ i, i < n → Wi.inW (N i)) (hM : ∀ i, i < n → Wi.inW (M i)) : Calls Try.prog 82 #[.slice A n c, .slice B n d] w fun e w' =>
    e = .returned (.tuple #[.agg #[.int .i64 (Iv.rs (Iv.mnU N n) (Iv.mxU M n)).lo, .int .i64 (Iv.rs (Iv.mnU N n) (Iv.mxU M n)).hi], .int .i64 (Iv.rs (Iv.mnU N n) (Iv.mxU M n)).er]) ∧ Below w.heap.size w w' := by
  obtain ⟨b, off, rfl, hbl, hcA⟩ := RA.at_ hn
  obtain ⟨b2, off2, rfl, hbl2, hcB⟩ := RB.at_ hn
  clear hcA hcB
  have la1 := RA.le
  have la2 := RA.mx
  have lb1 := RB.le
  have lb2 := RB.mx
  have i1 : (0 : Int) < (n : Int) := by omega
  have HN := Lib.hid hN
  have HM := Lib.hid hM
  have HD := Lib.hid hn
  clear hN hM
  go_enter Try.func82, Try.ntmps82
  have R := Blk.new w 23 #[.int .i64 (0), .int .i64 (0)]
  have hB := ba w (.cells #[.int .i64 (0), .int .i64 (0)] 23)
  go_wp2_with fail
  refine wp_region_inv (fun L x G wx => Below w.heap.size w wx
        ∧ w.heap.size < wx.heap.size
        ∧ Blk wx (w.heap.size) 23 #[.int .i64 (0), .int .i64 (0)]
        ∧ (L 6 → w.heap.size ≤ G 6 ∧ G 6 < wx.heap.size ∧ w.heap.size ≠ G 6)
        ∧ (L 6 → ¬ L 8 → Blk wx (G 6) 40 #[.int .i64 (0), .int .u64 (0)])
        ∧ (L 8 → Blk wx (G 6) 40 #[.int .i64 (Wi.Hq (N 0)), .int .u64 (Wi.Lr (N 0))])
        ∧ (L 8 → L 6)
        ∧ (L 7 → w.heap.size ≤ G 7 ∧ G 7 < wx.heap.size ∧ w.heap.size ≠ G 7)
        ∧ (L 7 → ¬ L 9 → Blk wx (G 7) 40 #[.int .i64 (0), .int .u64 (0)])
        ∧ (L 9 → Blk wx (G 7) 40 #[.int .i64 (Wi.Hq (M 0)), .int .u64 (Wi.Lr (M 0))])
        ∧ (L 9 → L 7)
        ∧ (L 7 → L 6 → G 7 ≠ G 6)
        ∧ (L 0 → x 14 = .slice (some ⟨b, off, none⟩) n c)
        ∧ (L 1 → x 15 = .pointer (some ⟨b, off, none⟩))
        ∧ (L 2 → x 16 = .agg #[.int .i64 (Wi.Hq (N 0)), .int .u64 (Wi.Lr (N 0))])
        ∧ (L 3 → x 17 = .slice (some ⟨b2, off2, none⟩) n d)
        ∧ (L 4 → x 18 = .pointer (some ⟨b2, off2, none⟩))
        ∧ (L 5 → x 19 = .agg #[.int .i64 (Wi.Hq (M 0)), .int .u64 (Wi.Lr (M 0))])
        ∧ (L 6 → x 6 = .pointer (some ⟨G 6, 0, none⟩))
        ∧ (L 7 → x 7 = .pointer (some ⟨G 7, 0, none⟩))) [14, 15, 16, 17, 18, 19, 6, 7] 10 (by kernel_rfl) (by kernel_rfl) (by kernel_rfl) ?h0 ?st ?fin
  case h0 =>
    exact ⟨bdr hB, Blk.lt R.drew, R.drew, fun q => q.elim, fun q => q.elim, fun q => q.elim, fun q => q.elim, fun q => q.elim, fun q => q.elim, fun q => q.elim, fun q => q.elim, fun q _ => q.elim, fun q => q.elim, fun q => q.elim, fun q => q.elim, fun q => q.elim, fun q => q.elim, fun q => q.elim, fun q => q.elim, fun q => q.elim⟩
  case st =>
    refine StepsOk.cons (i := 0) rfl (fun L x G w1 K Q hn hp hJ hK => ?_) ?_
    · skip
      simp only [putAll, Act.put, List.setIfInBounds_toArray, List.set_cons_zero, List.set_cons_succ]
      go_simp
      refine hK _ G _ (by kernel_rfl) ?_
      exact ⟨(hJ.1),
        (hJ.2.1),
        (hJ.2.2.1),
        fun q => (hJ.2.2.2.1) (q.resolve_left (by decide)),
        fun q n => (hJ.2.2.2.2.1) (q.resolve_left (by decide)) (fun m => n (.inr m)),
        fun q => (hJ.2.2.2.2.2.1) (q.resolve_left (by decide)),
        fun q => .inr ((hJ.2.2.2.2.2.2.1) (q.resolve_left (by decide))),
        fun q => (hJ.2.2.2.2.2.2.2.1) (q.resolve_left (by decide)),
        fun q n => (hJ.2.2.2.2.2.2.2.2.1) (q.resolve_left (by decide)) (fun m => n (.inr m)),
        fun q => (hJ.2.2.2.2.2.2.2.2.2.1) (q.resolve_left (by decide)),
        fun q => .inr ((hJ.2.2.2.2.2.2.2.2.2.2.1) (q.resolve_left (by decide))),
        fun q r => (hJ.2.2.2.2.2.2.2.2.2.2.2.1) (q.resolve_left (by decide)) (r.resolve_left (by decide)),
        fun _ => rfl,
        fun q => (hJ.2.2.2.2.2.2.2.2.2.2.2.2.2.1) (q.resolve_left (by decide)),
        fun q => (hJ.2.2.2.2.2.2.2.2.2.2.2.2.2.2.1) (q.resolve_left (by decide)),
        fun q => (hJ.2.2.2.2.2.2.2.2.2.2.2.2.2.2.2.1) (q.resolve_left (by decide)),
        fun q => (hJ.2.2.2.2.2.2.2.2.2.2.2.2.2.2.2.2.1) (q.resolve_left (by decide)),
        fun q => (hJ.2.2.2.2.2.2.2.2.2.2.2.2.2.2.2.2.2.1) (q.resolve_left (by decide)),
        fun q => (hJ.2.2.2.2.2.2.2.2.2.2.2.2.2.2.2.2.2.2.1) (q.resolve_left (by decide)),
        fun q => (hJ.2.2.2.2.2.2.2.2.2.2.2.2.2.2.2.2.2.2.2) (q.resolve_left (by decide))⟩
    refine StepsOk.cons (i := 1) rfl (fun L x G w1 K Q hn hp hJ hK => ?_) ?_
    · skip
      have p0 : L 0 := hp ⟨0, .data⟩ (by simp) rfl
      have e0 := (hJ.2.2.2.2.2.2.2.2.2.2.2.2.1) p0
      simp only [putAll, Act.put, List.setIfInBounds_toArray, List.set_cons_zero, List.set_cons_succ]
      go_simp
      refine hK _ G _ (by kernel_rfl) ?_
      exact ⟨(hJ.1),
        (hJ.2.1),
        (hJ.2.2.1),
        fun q => (hJ.2.2.2.1) (q.resolve_left (by decide)),
        fun q n => (hJ.2.2.2.2.1) (q.resolve_left (by decide)) (fun m => n (.inr m)),
        fun q => (hJ.2.2.2.2.2.1) (q.resolve_left (by decide)),
        fun q => .inr ((hJ.2.2.2.2.2.2.1) (q.resolve_left (by decide))),
        fun q => (hJ.2.2.2.2.2.2.2.1) (q.resolve_left (by decide)),
        fun q n => (hJ.2.2.2.2.2.2.2.2.1) (q.resolve_left (by decide)) (fun m => n (.inr m)),
        fun q => (hJ.2.2.2.2.2.2.2.2.2.1) (q.resolve_left (by decide)),
        fun q => .inr ((hJ.2.2.2.2.2.2.2.2.2.2.1) (q.resolve_left (by decide))),
        fun q r => (hJ.2.2.2.2.2.2.2.2.2.2.2.1) (q.resolve_left (by decide)) (r.resolve_left (by decide)),
        fun _ => by first | exact rfl | exact e0,
        fun _ => rfl,
        fun q => (hJ.2.2.2.2.2.2.2.2.2.2.2.2.2.2.1) (q.resolve_left (by decide)),
        fun q => (hJ.2.2.2.2.2.2.2.2.2.2.2.2.2.2.2.1) (q.resolve_left (by decide)),
        fun q => (hJ.2.2.2.2.2.2.2.2.2.2.2.2.2.2.2.2.1) (q.resolve_left (by decide)),
        fun q => (hJ.2.2.2.2.2.2.2.2.2.2.2.2.2.2.2.2.2.1) (q.resolve_left (by decide)),
        fun q => (hJ.2.2.2.2.2.2.2.2.2.2.2.2.2.2.2.2.2.2.1) (q.resolve_left (by decide)),
        fun q => (hJ.2.2.2.2.2.2.2.2.2.2.2.2.2.2.2.2.2.2.2) (q.resolve_left (by decide))⟩
    refine StepsOk.cons (i := 2) rfl (fun L x G w1 K Q hn hp hJ hK => ?_) ?_
    · skip
      have p1 : L 1 := hp ⟨1, .data⟩ (by simp) rfl
      have e1 := (hJ.2.2.2.2.2.2.2.2.2.2.2.2.2.1) p1
      have hr := Rd.atW (RA.keep (hJ.1)) HD.out
      have c0 := hr.2.1
      have c1 := hr.2.2
      simp only [Nat.zero_mul, Nat.add_zero] at c0 c1
      clear hr
      simp only [putAll, Act.put, List.setIfInBounds_toArray, List.set_cons_zero, List.set_cons_succ]
      go_simp
      refine hK _ G _ (by kernel_rfl) ?_
      exact ⟨(hJ.1),
        (hJ.2.1),
        (hJ.2.2.1),
        fun q => (hJ.2.2.2.1) (q.resolve_left (by decide)),
        fun q n => (hJ.2.2.2.2.1) (q.resolve_left (by decide)) (fun m => n (.inr m)),
        fun q => (hJ.2.2.2.2.2.1) (q.resolve_left (by decide)),
        fun q => .inr ((hJ.2.2.2.2.2.2.1) (q.resolve_left (by decide))),
        fun q => (hJ.2.2.2.2.2.2.2.1) (q.resolve_left (by decide)),
        fun q n => (hJ.2.2.2.2.2.2.2.2.1) (q.resolve_left (by decide)) (fun m => n (.inr m)),
        fun q => (hJ.2.2.2.2.2.2.2.2.2.1) (q.resolve_left (by decide)),
        fun q => .inr ((hJ.2.2.2.2.2.2.2.2.2.2.1) (q.resolve_left (by decide))),
        fun q r => (hJ.2.2.2.2.2.2.2.2.2.2.2.1) (q.resolve_left (by decide)) (r.resolve_left (by decide)),
        fun q => (hJ.2.2.2.2.2.2.2.2.2.2.2.2.1) (q.resolve_left (by decide)),
        fun _ => by first | exact rfl | exact e1,
        fun _ => rfl,
        fun q => (hJ.2.2.2.2.2.2.2.2.2.2.2.2.2.2.2.1) (q.resolve_left (by decide)),
        fun q => (hJ.2.2.2.2.2.2.2.2.2.2.2.2.2.2.2.2.1) (q.resolve_left (by decide)),
        fun q => (hJ.2.2.2.2.2.2.2.2.2.2.2.2.2.2.2.2.2.1) (q.resolve_left (by decide)),
        fun q => (hJ.2.2.2.2.2.2.2.2.2.2.2.2.2.2.2.2.2.2.1) (q.resolve_left (by decide)),
        fun q => (hJ.2.2.2.2.2.2.2.2.2.2.2.2.2.2.2.2.2.2.2) (q.resolve_left (by decide))⟩
    refine StepsOk.cons (i := 3) rfl (fun L x G w1 K Q hn hp hJ hK => ?_) ?_
    · skip
      simp only [putAll, Act.put, List.setIfInBounds_toArray, List.set_cons_zero, List.set_cons_succ]
      go_simp
      refine hK _ G _ (by kernel_rfl) ?_
      exact ⟨(hJ.1),
        (hJ.2.1),
        (hJ.2.2.1),
        fun q => (hJ.2.2.2.1) (q.resolve_left (by decide)),
        fun q n => (hJ.2.2.2.2.1) (q.resolve_left (by decide)) (fun m => n (.inr m)),
        fun q => (hJ.2.2.2.2.2.1) (q.resolve_left (by decide)),
        fun q => .inr ((hJ.2.2.2.2.2.2.1) (q.resolve_left (by decide))),
        fun q => (hJ.2.2.2.2.2.2.2.1) (q.resolve_left (by decide)),
        fun q n => (hJ.2.2.2.2.2.2.2.2.1) (q.resolve_left (by decide)) (fun m => n (.inr m)),
        fun q => (hJ.2.2.2.2.2.2.2.2.2.1) (q.resolve_left (by decide)),
        fun q => .inr ((hJ.2.2.2.2.2.2.2.2.2.2.1) (q.resolve_left (by decide))),
        fun q r => (hJ.2.2.2.2.2.2.2.2.2.2.2.1) (q.resolve_left (by decide)) (r.resolve_left (by decide)),
        fun q => (hJ.2.2.2.2.2.2.2.2.2.2.2.2.1) (q.resolve_left (by decide)),
        fun q => (hJ.2.2.2.2.2.2.2.2.2.2.2.2.2.1) (q.resolve_left (by decide)),
        fun q => (hJ.2.2.2.2.2.2.2.2.2.2.2.2.2.2.1) (q.resolve_left (by decide)),
        fun _ => rfl,
        fun q => (hJ.2.2.2.2.2.2.2.2.2.2.2.2.2.2.2.2.1) (q.resolve_left (by decide)),
        fun q => (hJ.2.2.2.2.2.2.2.2.2.2.2.2.2.2.2.2.2.1) (q.resolve_left (by decide)),
        fun q => (hJ.2.2.2.2.2.2.2.2.2.2.2.2.2.2.2.2.2.2.1) (q.resolve_left (by decide)),
        fun q => (hJ.2.2.2.2.2.2.2.2.2.2.2.2.2.2.2.2.2.2.2) (q.resolve_left (by decide))⟩
    refine StepsOk.cons (i := 4) rfl (fun L x G w1 K Q hn hp hJ hK => ?_) ?_
    · skip
      have p3 : L 3 := hp ⟨3, .data⟩ (by simp) rfl
      have e3 := (hJ.2.2.2.2.2.2.2.2.2.2.2.2.2.2.2.1) p3
      simp only [putAll, Act.put, List.setIfInBounds_toArray, List.set_cons_zero, List.set_cons_succ]
      go_simp
      refine hK _ G _ (by kernel_rfl) ?_
      exact ⟨(hJ.1),
        (hJ.2.1),
        (hJ.2.2.1),
        fun q => (hJ.2.2.2.1) (q.resolve_left (by decide)),
        fun q n => (hJ.2.2.2.2.1) (q.resolve_left (by decide)) (fun m => n (.inr m)),
        fun q => (hJ.2.2.2.2.2.1) (q.resolve_left (by decide)),
        fun q => .inr ((hJ.2.2.2.2.2.2.1) (q.resolve_left (by decide))),
        fun q => (hJ.2.2.2.2.2.2.2.1) (q.resolve_left (by decide)),
        fun q n => (hJ.2.2.2.2.2.2.2.2.1) (q.resolve_left (by decide)) (fun m => n (.inr m)),
        fun q => (hJ.2.2.2.2.2.2.2.2.2.1) (q.resolve_left (by decide)),
        fun q => .inr ((hJ.2.2.2.2.2.2.2.2.2.2.1) (q.resolve_left (by decide))),
        fun q r => (hJ.2.2.2.2.2.2.2.2.2.2.2.1) (q.resolve_left (by decide)) (r.resolve_left (by decide)),
        fun q => (hJ.2.2.2.2.2.2.2.2.2.2.2.2.1) (q.resolve_left (by decide)),
        fun q => (hJ.2.2.2.2.2.2.2.2.2.2.2.2.2.1) (q.resolve_left (by decide)),
        fun q => (hJ.2.2.2.2.2.2.2.2.2.2.2.2.2.2.1) (q.resolve_left (by decide)),
        fun _ => by first | exact rfl | exact e3,
        fun _ => rfl,
        fun q => (hJ.2.2.2.2.2.2.2.2.2.2.2.2.2.2.2.2.2.1) (q.resolve_left (by decide)),
        fun q => (hJ.2.2.2.2.2.2.2.2.2.2.2.2.2.2.2.2.2.2.1) (q.resolve_left (by decide)),
        fun q => (hJ.2.2.2.2.2.2.2.2.2.2.2.2.2.2.2.2.2.2.2) (q.resolve_left (by decide))⟩
    refine StepsOk.cons (i := 5) rfl (fun L x G w1 K Q hn hp hJ hK => ?_) ?_
    · skip
      have p4 : L 4 := hp ⟨4, .data⟩ (by simp) rfl
      have e4 := (hJ.2.2.2.2.2.2.2.2.2.2.2.2.2.2.2.2.1) p4
      have hr := Rd.atW (RB.keep (hJ.1)) HD.out
      have c0 := hr.2.1
      have c1 := hr.2.2
      simp only [Nat.zero_mul, Nat.add_zero] at c0 c1
      clear hr
      simp only [putAll, Act.put, List.setIfInBounds_toArray, List.set_cons_zero, List.set_cons_succ]
      go_simp
      refine hK _ G _ (by kernel_rfl) ?_
      exact ⟨(hJ.1),
        (hJ.2.1),
        (hJ.2.2.1),
        fun q => (hJ.2.2.2.1) (q.resolve_left (by decide)),
        fun q n => (hJ.2.2.2.2.1) (q.resolve_left (by decide)) (fun m => n (.inr m)),
        fun q => (hJ.2.2.2.2.2.1) (q.resolve_left (by decide)),
        fun q => .inr ((hJ.2.2.2.2.2.2.1) (q.resolve_left (by decide))),
        fun q => (hJ.2.2.2.2.2.2.2.1) (q.resolve_left (by decide)),
        fun q n => (hJ.2.2.2.2.2.2.2.2.1) (q.resolve_left (by decide)) (fun m => n (.inr m)),
        fun q => (hJ.2.2.2.2.2.2.2.2.2.1) (q.resolve_left (by decide)),
        fun q => .inr ((hJ.2.2.2.2.2.2.2.2.2.2.1) (q.resolve_left (by decide))),
        fun q r => (hJ.2.2.2.2.2.2.2.2.2.2.2.1) (q.resolve_left (by decide)) (r.resolve_left (by decide)),
        fun q => (hJ.2.2.2.2.2.2.2.2.2.2.2.2.1) (q.resolve_left (by decide)),
        fun q => (hJ.2.2.2.2.2.2.2.2.2.2.2.2.2.1) (q.resolve_left (by decide)),
        fun q => (hJ.2.2.2.2.2.2.2.2.2.2.2.2.2.2.1) (q.resolve_left (by decide)),
        fun q => (hJ.2.2.2.2.2.2.2.2.2.2.2.2.2.2.2.1) (q.resolve_left (by decide)),
        fun _ => by first | exact rfl | exact e4,
        fun _ => rfl,
        fun q => (hJ.2.2.2.2.2.2.2.2.2.2.2.2.2.2.2.2.2.2.1) (q.resolve_left (by decide)),
        fun q => (hJ.2.2.2.2.2.2.2.2.2.2.2.2.2.2.2.2.2.2.2) (q.resolve_left (by decide))⟩
    refine StepsOk.cons (i := 6) rfl (fun L x G w1 K Q hn hp hJ hK => ?_) ?_
    · skip
      simp only [putAll, Act.put, List.setIfInBounds_toArray, List.set_cons_zero, List.set_cons_succ]
      go_simp
      refine hK _ (fun t => if t = 6 then w1.heap.size else G t) _ (by kernel_rfl) ?_
      exact ⟨bal (hJ.1) _,
        by simp; omega,
        Blk.alloc ((hJ.2.2.1)) _,
        fun _ => ⟨(hJ.1).size, by simp, Nat.ne_of_lt (hJ.2.1)⟩,
        fun _ _ => Blk.new w1 _ _,
        fun q => absurd ((hJ.2.2.2.2.2.2.1) (q.resolve_left (by decide))) hn,
        fun q => .inr ((hJ.2.2.2.2.2.2.1) (q.resolve_left (by decide))),
        fun q => ⟨((hJ.2.2.2.2.2.2.2.1) (q.resolve_left (by decide))).1, by have := ((hJ.2.2.2.2.2.2.2.1) (q.resolve_left (by decide))).2.1; simp; omega, ((hJ.2.2.2.2.2.2.2.1) (q.resolve_left (by decide))).2.2⟩,
        fun q n => Blk.alloc ((hJ.2.2.2.2.2.2.2.2.1) (q.resolve_left (by decide)) (fun m => n (.inr m))) _,
        fun q => Blk.alloc ((hJ.2.2.2.2.2.2.2.2.2.1) (q.resolve_left (by decide))) _,
        fun q => .inr ((hJ.2.2.2.2.2.2.2.2.2.2.1) (q.resolve_left (by decide))),
        fun q _ => Nat.ne_of_lt ((hJ.2.2.2.2.2.2.2.1) (q.resolve_left (by decide))).2.1,
        fun q => (hJ.2.2.2.2.2.2.2.2.2.2.2.2.1) (q.resolve_left (by decide)),
        fun q => (hJ.2.2.2.2.2.2.2.2.2.2.2.2.2.1) (q.resolve_left (by decide)),
        fun q => (hJ.2.2.2.2.2.2.2.2.2.2.2.2.2.2.1) (q.resolve_left (by decide)),
        fun q => (hJ.2.2.2.2.2.2.2.2.2.2.2.2.2.2.2.1) (q.resolve_left (by decide)),
        fun q => (hJ.2.2.2.2.2.2.2.2.2.2.2.2.2.2.2.2.1) (q.resolve_left (by decide)),
        fun q => (hJ.2.2.2.2.2.2.2.2.2.2.2.2.2.2.2.2.2.1) (q.resolve_left (by decide)),
        fun _ => rfl,
        fun q => (hJ.2.2.2.2.2.2.2.2.2.2.2.2.2.2.2.2.2.2.2) (q.resolve_left (by decide))⟩
    refine StepsOk.cons (i := 7) rfl (fun L x G w1 K Q hn hp hJ hK => ?_) ?_
    · skip
      simp only [putAll, Act.put, List.setIfInBounds_toArray, List.set_cons_zero, List.set_cons_succ]
      go_simp
      refine hK _ (fun t => if t = 7 then w1.heap.size else G t) _ (by kernel_rfl) ?_
      exact ⟨bal (hJ.1) _,
        by simp; omega,
        Blk.alloc ((hJ.2.2.1)) _,
        fun q => ⟨((hJ.2.2.2.1) (q.resolve_left (by decide))).1, by have := ((hJ.2.2.2.1) (q.resolve_left (by decide))).2.1; simp; omega, ((hJ.2.2.2.1) (q.resolve_left (by decide))).2.2⟩,
        fun q n => Blk.alloc ((hJ.2.2.2.2.1) (q.resolve_left (by decide)) (fun m => n (.inr m))) _,
        fun q => Blk.alloc ((hJ.2.2.2.2.2.1) (q.resolve_left (by decide))) _,
        fun q => .inr ((hJ.2.2.2.2.2.2.1) (q.resolve_left (by decide))),
        fun _ => ⟨(hJ.1).size, by simp, Nat.ne_of_lt (hJ.2.1)⟩,
        fun _ _ => Blk.new w1 _ _,
        fun q => absurd ((hJ.2.2.2.2.2.2.2.2.2.2.1) (q.resolve_left (by decide))) hn,
        fun q => .inr ((hJ.2.2.2.2.2.2.2.2.2.2.1) (q.resolve_left (by decide))),
        fun _ r => Nat.ne_of_gt ((hJ.2.2.2.1) (r.resolve_left (by decide))).2.1,
        fun q => (hJ.2.2.2.2.2.2.2.2.2.2.2.2.1) (q.resolve_left (by decide)),
        fun q => (hJ.2.2.2.2.2.2.2.2.2.2.2.2.2.1) (q.resolve_left (by decide)),
        fun q => (hJ.2.2.2.2.2.2.2.2.2.2.2.2.2.2.1) (q.resolve_left (by decide)),
        fun q => (hJ.2.2.2.2.2.2.2.2.2.2.2.2.2.2.2.1) (q.resolve_left (by decide)),
        fun q => (hJ.2.2.2.2.2.2.2.2.2.2.2.2.2.2.2.2.1) (q.resolve_left (by decide)),
        fun q => (hJ.2.2.2.2.2.2.2.2.2.2.2.2.2.2.2.2.2.1) (q.resolve_left (by decide)),
        fun q => (hJ.2.2.2.2.2.2.2.2.2.2.2.2.2.2.2.2.2.2.1) (q.resolve_left (by decide)),
        fun _ => rfl⟩
    refine StepsOk.cons (i := 8) rfl (fun L x G w1 K Q hn hp hJ hK => ?_) ?_
    · skip
      have p2 : L 2 := hp ⟨2, .data⟩ (by simp) rfl
      have e2 := (hJ.2.2.2.2.2.2.2.2.2.2.2.2.2.2.1) p2
      have p6 : L 6 := hp ⟨6, .data⟩ (by simp) rfl
      have e6 := (hJ.2.2.2.2.2.2.2.2.2.2.2.2.2.2.2.2.2.2.1) p6
      have hc := Blk.open2 (((hJ.2.2.2.2.1) p6 hn))
      have c0 := hc.1
      have c1 := hc.2.1
      have c2 := hc.2.2.1
      have c3 := hc.2.2.2
      clear hc
      simp only [putAll, Act.put, List.setIfInBounds_toArray, List.set_cons_zero, List.set_cons_succ]
      go_simp
      refine hK _ G _ (by kernel_rfl) ?_
      exact ⟨bst (bst ((hJ.1)) (p := ⟨G 6, 0, none⟩) ((hJ.2.2.2.1) p6).1 (.int .i64 (Wi.Hq (N 0)))) (p := ⟨G 6, 1, none⟩) ((hJ.2.2.2.1) p6).1 (.int .u64 (Wi.Lr (N 0))),
        by simpa using (hJ.2.1),
        Blk.far (Blk.far ((hJ.2.2.1)) (p := ⟨G 6, 0, none⟩) (((hJ.2.2.2.1) p6).2.2) (.int .i64 (Wi.Hq (N 0)))) (p := ⟨G 6, 1, none⟩) (((hJ.2.2.2.1) p6).2.2) (.int .u64 (Wi.Lr (N 0))),
        fun q => ⟨((hJ.2.2.2.1) (q.resolve_left (by decide))).1, by have := ((hJ.2.2.2.1) (q.resolve_left (by decide))).2.1; simpa using this, ((hJ.2.2.2.1) (q.resolve_left (by decide))).2.2⟩,
        fun _ n => absurd (.inl rfl) n,
        fun _ => by simpa using Blk.set_ (Blk.set_ (((hJ.2.2.2.2.1) p6 hn)) 0 (.int .i64 (Wi.Hq (N 0)))) 1 (.int .u64 (Wi.Lr (N 0))),
        fun _ => .inr p6,
        fun q => ⟨((hJ.2.2.2.2.2.2.2.1) (q.resolve_left (by decide))).1, by have := ((hJ.2.2.2.2.2.2.2.1) (q.resolve_left (by decide))).2.1; simpa using this, ((hJ.2.2.2.2.2.2.2.1) (q.resolve_left (by decide))).2.2⟩,
        fun q n => Blk.far (Blk.far ((hJ.2.2.2.2.2.2.2.2.1) (q.resolve_left (by decide)) (fun m => n (.inr m))) (p := ⟨G 6, 0, none⟩) ((hJ.2.2.2.2.2.2.2.2.2.2.2.1) (q.resolve_left (by decide)) p6) (.int .i64 (Wi.Hq (N 0)))) (p := ⟨G 6, 1, none⟩) ((hJ.2.2.2.2.2.2.2.2.2.2.2.1) (q.resolve_left (by decide)) p6) (.int .u64 (Wi.Lr (N 0))),
        fun q => Blk.far (Blk.far ((hJ.2.2.2.2.2.2.2.2.2.1) (q.resolve_left (by decide))) (p := ⟨G 6, 0, none⟩) ((hJ.2.2.2.2.2.2.2.2.2.2.2.1) ((hJ.2.2.2.2.2.2.2.2.2.2.1) (q.resolve_left (by decide))) p6) (.int .i64 (Wi.Hq (N 0)))) (p := ⟨G 6, 1, none⟩) ((hJ.2.2.2.2.2.2.2.2.2.2.2.1) ((hJ.2.2.2.2.2.2.2.2.2.2.1) (q.resolve_left (by decide))) p6) (.int .u64 (Wi.Lr (N 0))),
        fun q => .inr ((hJ.2.2.2.2.2.2.2.2.2.2.1) (q.resolve_left (by decide))),
        fun q r => (hJ.2.2.2.2.2.2.2.2.2.2.2.1) (q.resolve_left (by decide)) (r.resolve_left (by decide)),
        fun q => (hJ.2.2.2.2.2.2.2.2.2.2.2.2.1) (q.resolve_left (by decide)),
        fun q => (hJ.2.2.2.2.2.2.2.2.2.2.2.2.2.1) (q.resolve_left (by decide)),
        fun _ => by first | exact rfl | exact e2,
        fun q => (hJ.2.2.2.2.2.2.2.2.2.2.2.2.2.2.2.1) (q.resolve_left (by decide)),
        fun q => (hJ.2.2.2.2.2.2.2.2.2.2.2.2.2.2.2.2.1) (q.resolve_left (by decide)),
        fun q => (hJ.2.2.2.2.2.2.2.2.2.2.2.2.2.2.2.2.2.1) (q.resolve_left (by decide)),
        fun _ => by first | exact rfl | exact e6,
        fun q => (hJ.2.2.2.2.2.2.2.2.2.2.2.2.2.2.2.2.2.2.2) (q.resolve_left (by decide))⟩
    refine StepsOk.cons (i := 9) rfl (fun L x G w1 K Q hn hp hJ hK => ?_) ?_
    · skip
      have p5 : L 5 := hp ⟨5, .data⟩ (by simp) rfl
      have e5 := (hJ.2.2.2.2.2.2.2.2.2.2.2.2.2.2.2.2.2.1) p5
      have p7 : L 7 := hp ⟨7, .data⟩ (by simp) rfl
      have e7 := (hJ.2.2.2.2.2.2.2.2.2.2.2.2.2.2.2.2.2.2.2) p7
      have hc := Blk.open2 (((hJ.2.2.2.2.2.2.2.2.1) p7 hn))
      have c0 := hc.1
      have c1 := hc.2.1
      have c2 := hc.2.2.1
      have c3 := hc.2.2.2
      clear hc
      simp only [putAll, Act.put, List.setIfInBounds_toArray, List.set_cons_zero, List.set_cons_succ]
      go_simp
      refine hK _ G _ (by kernel_rfl) ?_
      exact ⟨bst (bst ((hJ.1)) (p := ⟨G 7, 0, none⟩) ((hJ.2.2.2.2.2.2.2.1) p7).1 (.int .i64 (Wi.Hq (M 0)))) (p := ⟨G 7, 1, none⟩) ((hJ.2.2.2.2.2.2.2.1) p7).1 (.int .u64 (Wi.Lr (M 0))),
        by simpa using (hJ.2.1),
        Blk.far (Blk.far ((hJ.2.2.1)) (p := ⟨G 7, 0, none⟩) (((hJ.2.2.2.2.2.2.2.1) p7).2.2) (.int .i64 (Wi.Hq (M 0)))) (p := ⟨G 7, 1, none⟩) (((hJ.2.2.2.2.2.2.2.1) p7).2.2) (.int .u64 (Wi.Lr (M 0))),
        fun q => ⟨((hJ.2.2.2.1) (q.resolve_left (by decide))).1, by have := ((hJ.2.2.2.1) (q.resolve_left (by decide))).2.1; simpa using this, ((hJ.2.2.2.1) (q.resolve_left (by decide))).2.2⟩,
        fun q n => Blk.far (Blk.far ((hJ.2.2.2.2.1) (q.resolve_left (by decide)) (fun m => n (.inr m))) (p := ⟨G 7, 0, none⟩) (Ne.symm ((hJ.2.2.2.2.2.2.2.2.2.2.2.1) p7 (q.resolve_left (by decide)))) (.int .i64 (Wi.Hq (M 0)))) (p := ⟨G 7, 1, none⟩) (Ne.symm ((hJ.2.2.2.2.2.2.2.2.2.2.2.1) p7 (q.resolve_left (by decide)))) (.int .u64 (Wi.Lr (M 0))),
        fun q => Blk.far (Blk.far ((hJ.2.2.2.2.2.1) (q.resolve_left (by decide))) (p := ⟨G 7, 0, none⟩) (Ne.symm ((hJ.2.2.2.2.2.2.2.2.2.2.2.1) p7 ((hJ.2.2.2.2.2.2.1) (q.resolve_left (by decide))))) (.int .i64 (Wi.Hq (M 0)))) (p := ⟨G 7, 1, none⟩) (Ne.symm ((hJ.2.2.2.2.2.2.2.2.2.2.2.1) p7 ((hJ.2.2.2.2.2.2.1) (q.resolve_left (by decide))))) (.int .u64 (Wi.Lr (M 0))),
        fun q => .inr ((hJ.2.2.2.2.2.2.1) (q.resolve_left (by decide))),
        fun q => ⟨((hJ.2.2.2.2.2.2.2.1) (q.resolve_left (by decide))).1, by have := ((hJ.2.2.2.2.2.2.2.1) (q.resolve_left (by decide))).2.1; simpa using this, ((hJ.2.2.2.2.2.2.2.1) (q.resolve_left (by decide))).2.2⟩,
        fun _ n => absurd (.inl rfl) n,
        fun _ => by simpa using Blk.set_ (Blk.set_ (((hJ.2.2.2.2.2.2.2.2.1) p7 hn)) 0 (.int .i64 (Wi.Hq (M 0)))) 1 (.int .u64 (Wi.Lr (M 0))),
        fun _ => .inr p7,
        fun q r => (hJ.2.2.2.2.2.2.2.2.2.2.2.1) (q.resolve_left (by decide)) (r.resolve_left (by decide)),
        fun q => (hJ.2.2.2.2.2.2.2.2.2.2.2.2.1) (q.resolve_left (by decide)),
        fun q => (hJ.2.2.2.2.2.2.2.2.2.2.2.2.2.1) (q.resolve_left (by decide)),
        fun q => (hJ.2.2.2.2.2.2.2.2.2.2.2.2.2.2.1) (q.resolve_left (by decide)),
        fun q => (hJ.2.2.2.2.2.2.2.2.2.2.2.2.2.2.2.1) (q.resolve_left (by decide)),
        fun q => (hJ.2.2.2.2.2.2.2.2.2.2.2.2.2.2.2.2.1) (q.resolve_left (by decide)),
        fun _ => by first | exact rfl | exact e5,
        fun q => (hJ.2.2.2.2.2.2.2.2.2.2.2.2.2.2.2.2.2.2.1) (q.resolve_left (by decide)),
        fun _ => by first | exact rfl | exact e7⟩
    exact StepsOk.nil
  case fin =>
    intro L x G w1 hall hJ
    replace R := (hJ.2.2.1)
    obtain ⟨haML, hlML, hnMLR⟩ := (hJ.2.2.2.1) (hall 6 (by decide))
    have ML := (hJ.2.2.2.2.2.1) (hall 8 (by decide))
    obtain ⟨haMH, hlMH, hnMHR⟩ := (hJ.2.2.2.2.2.2.2.1) (hall 7 (by decide))
    have MH := (hJ.2.2.2.2.2.2.2.2.2.1) (hall 9 (by decide))
    have n_dMHML := (hJ.2.2.2.2.2.2.2.2.2.2.2.1) (hall 7 (by decide)) (hall 6 (by decide))
    have u0 := hJ.2.2.2.2.2.2.2.2.2.2.2.2.1 (hall 0 (by decide))
    have u1 := hJ.2.2.2.2.2.2.2.2.2.2.2.2.2.1 (hall 1 (by decide))
    have u2 := hJ.2.2.2.2.2.2.2.2.2.2.2.2.2.2.1 (hall 2 (by decide))
    have u3 := hJ.2.2.2.2.2.2.2.2.2.2.2.2.2.2.2.1 (hall 3 (by decide))
    have u4 := hJ.2.2.2.2.2.2.2.2.2.2.2.2.2.2.2.2.1 (hall 4 (by decide))
    have u5 := hJ.2.2.2.2.2.2.2.2.2.2.2.2.2.2.2.2.2.1 (hall 5 (by decide))
    have u6 := hJ.2.2.2.2.2.2.2.2.2.2.2.2.2.2.2.2.2.2.1 (hall 6 (by decide))
    have u7 := hJ.2.2.2.2.2.2.2.2.2.2.2.2.2.2.2.2.2.2.2 (hall 7 (by decide))
    replace hB := hJ.1
    simp only [putAll, Act.put, List.setIfInBounds_toArray, List.set_cons_zero, List.set_cons_succ]
    simp only [u0, u1, u2, u3, u4, u5, u6, u7]
    clear hall hJ u0 u1 u2 u3 u4 u5 u6 u7
    generalize G 6 = gML at *
    generalize G 7 = gMH at *
    go_wp2_with fail
    go_loopw [22] (fun i wr => ∃ k : Nat, k ≤ n ∧ i = .int .i64 k ∧ Blk wr w.heap.size 23 #[.int .i64 (0), .int .i64 (0)] ∧ Blk wr gML 40 #[.int .i64 (Wi.Hq (Iv.mnU N k)), .int .u64 (Wi.Lr (Iv.mnU N k))] ∧ Blk wr gMH 40 #[.int .i64 (Wi.Hq (Iv.mxU M k)), .int .u64 (Wi.Lr (Iv.mxU M k))] ∧ Below w.heap.size w wr) (fun i _ => n - (intOf i).toNat)
    case atStart => exact ⟨0, Nat.zero_le _, rfl, R, ML, MH, hB⟩
    case round =>
      clear R ML MH hB
      rename_i wr
      obtain ⟨k, hk, rfl, R, ML, MH, hB⟩ := hrel
      by_cases hlt : k < n
      · have mw := Iv.mnU_W HD.out HN.out k hk
        have mx := Iv.mxU_W HD.out HM.out k hk
        have i2 : (0 : Int) ≤ (k : Int) := by omega
        have i3 : (k : Int) < (n : Int) := by omega
        by_cases c1 : N k < Iv.mnU N k <;> by_cases c2 : Iv.mxU M k < M k
        · have m1 := Lib.hid (Iv.mnU_yes c1)
          have m2 := Lib.hid (Iv.mxU_yes c2)
          have z1 := Lib.hid (Wi.cm_lt c1)
          have z2 := Lib.hid (Wi.cm_gt c2)
          clear c1 c2
          obtain ⟨hr, x0, x1⟩ := Rd.atW (RA.keep hB) hlt
          go_wp2_with fail
          generalize wr = W0 at R ML MH hB ⊢
          have hreg : ∀ w', Below W0.heap.size W0 w' → Below W0.heap.size W0 w' ∧ w'.cell? ⟨gML, 0, none⟩ = some (.int .i64 (Wi.Hq (Iv.mnU N k))) ∧ w'.cell? ⟨gML, 1, none⟩ = some (.int .u64 (Wi.Lr (Iv.mnU N k))) ∧ w'.cell? ⟨b, off + k * 2, none⟩ = some (.int .i64 (Wi.Hq (N k))) ∧ w'.cell? ⟨b, off + k * 2 + 1, none⟩ = some (.int .u64 (Wi.Lr (N k))) := fun w' h => ⟨h, (ML.keep h).cell 0, (ML.keep h).cell 1, (Rd.atW (Rd.keep RA (bt hB h)) hlt).2.1, (Rd.atW (Rd.keep RA (bt hB h)) hlt).2.2⟩
          go_region_held3 (fun w' => Below W0.heap.size W0 w' ∧ w'.cell? ⟨gML, 0, none⟩ = some (.int .i64 (Wi.Hq (Iv.mnU N k))) ∧ w'.cell? ⟨gML, 1, none⟩ = some (.int .u64 (Wi.Lr (Iv.mnU N k))) ∧ w'.cell? ⟨b, off + k * 2, none⟩ = some (.int .i64 (Wi.Hq (N k))) ∧ w'.cell? ⟨b, off + k * 2 + 1, none⟩ = some (.int .u64 (Wi.Lr (N k)))) (first | exact hreg _ (Below.refl _ _).drew | exact keepR hreg hbn (by assumption)) (first | (go_at_call 99; refine (rcmp_c _ _ _ _ _ _ _ (Wi.wd_self (HN.out k hlt)) (Wi.wd_self mw)).mono ?_; rw [z1.out]; rintro e wn ⟨rfl, hbn⟩))
          rename_i hS
          replace R := R.keep hS.1
          replace ML := ML.keep hS.1
          replace MH := MH.keep hS.1
          replace hB := bt hB hS.1
          clear hS hreg
          clear x0 x1 hr
          obtain ⟨hr, x0, x1⟩ := Rd.atW (RA.keep hB) hlt
          obtain ⟨c00, c01, c02, c03⟩ := ML.open2
          go_wp2_with fail
          clear x0 x1 hr
          clear c00 c01 c02 c03
          replace R := ((R.far (p := ⟨gML, 0, none⟩) (by first | (simp; done) | (simp; omega) | omega) (.int .i64 (Wi.Hq (N k)))).far (p := ⟨gML, 1, none⟩) (by first | (simp; done) | (simp; omega) | omega) (.int .u64 (Wi.Lr (N k))))
          replace MH := ((MH.far (p := ⟨gML, 0, none⟩) (by first | (simp; done) | (simp; omega) | omega) (.int .i64 (Wi.Hq (N k)))).far (p := ⟨gML, 1, none⟩) (by first | (simp; done) | (simp; omega) | omega) (.int .u64 (Wi.Lr (N k))))
          replace hB := (bst (bst hB (p := ⟨gML, 0, none⟩) (by first | (simp; done) | (simp; omega) | omega) (.int .i64 (Wi.Hq (N k)))) (p := ⟨gML, 1, none⟩) (by first | (simp; done) | (simp; omega) | omega) (.int .u64 (Wi.Lr (N k))))
          replace ML := ((ML.set_ 0 (.int .i64 (Wi.Hq (N k)))).set_ 1 (.int .u64 (Wi.Lr (N k))))
          simp only [List.setIfInBounds_toArray, List.set_cons_zero, List.set_cons_succ] at ML
          generalize World.setCell (World.setCell wn _ _) _ _ = W0 at R ML MH hB ⊢
          have hreg : ∀ w', Below W0.heap.size W0 w' → Below W0.heap.size W0 w' ∧ w'.cell? ⟨gMH, 0, none⟩ = some (.int .i64 (Wi.Hq (Iv.mxU M k))) ∧ w'.cell? ⟨gMH, 1, none⟩ = some (.int .u64 (Wi.Lr (Iv.mxU M k))) ∧ w'.cell? ⟨b2, off2 + k * 2, none⟩ = some (.int .i64 (Wi.Hq (M k))) ∧ w'.cell? ⟨b2, off2 + k * 2 + 1, none⟩ = some (.int .u64 (Wi.Lr (M k))) := fun w' h => ⟨h, (MH.keep h).cell 0, (MH.keep h).cell 1, (Rd.atW (Rd.keep RB (bt hB h)) hlt).2.1, (Rd.atW (Rd.keep RB (bt hB h)) hlt).2.2⟩
          go_region_held3 (fun w' => Below W0.heap.size W0 w' ∧ w'.cell? ⟨gMH, 0, none⟩ = some (.int .i64 (Wi.Hq (Iv.mxU M k))) ∧ w'.cell? ⟨gMH, 1, none⟩ = some (.int .u64 (Wi.Lr (Iv.mxU M k))) ∧ w'.cell? ⟨b2, off2 + k * 2, none⟩ = some (.int .i64 (Wi.Hq (M k))) ∧ w'.cell? ⟨b2, off2 + k * 2 + 1, none⟩ = some (.int .u64 (Wi.Lr (M k)))) (first | exact hreg _ (Below.refl _ _).drew | exact keepR hreg hbn (by assumption)) (first | (go_at_call 99; refine (rcmp_c _ _ _ _ _ _ _ (Wi.wd_self (HM.out k hlt)) (Wi.wd_self mx)).mono ?_; rw [z2.out]; rintro e wn ⟨rfl, hbn⟩))
          rename_i hS
          replace R := R.keep hS.1
          replace ML := ML.keep hS.1
          replace MH := MH.keep hS.1
          replace hB := bt hB hS.1
          clear hS hreg
          obtain ⟨hr, x0, x1⟩ := Rd.atW (RB.keep hB) hlt
          obtain ⟨c00, c01, c02, c03⟩ := MH.open2
          go_wp2_with fail
          clear x0 x1 hr
          clear c00 c01 c02 c03
          replace R := ((R.far (p := ⟨gMH, 0, none⟩) (by first | (simp; done) | (simp; omega) | omega) (.int .i64 (Wi.Hq (M k)))).far (p := ⟨gMH, 1, none⟩) (by first | (simp; done) | (simp; omega) | omega) (.int .u64 (Wi.Lr (M k))))
          replace ML := ((ML.far (p := ⟨gMH, 0, none⟩) (by first | (simp; done) | (simp; omega) | omega) (.int .i64 (Wi.Hq (M k)))).far (p := ⟨gMH, 1, none⟩) (by first | (simp; done) | (simp; omega) | omega) (.int .u64 (Wi.Lr (M k))))
          replace hB := (bst (bst hB (p := ⟨gMH, 0, none⟩) (by first | (simp; done) | (simp; omega) | omega) (.int .i64 (Wi.Hq (M k)))) (p := ⟨gMH, 1, none⟩) (by first | (simp; done) | (simp; omega) | omega) (.int .u64 (Wi.Lr (M k))))
          replace MH := ((MH.set_ 0 (.int .i64 (Wi.Hq (M k)))).set_ 1 (.int .u64 (Wi.Lr (M k))))
          simp only [List.setIfInBounds_toArray, List.set_cons_zero, List.set_cons_succ] at MH
          go_roundw
          case rel => exact ⟨k + 1, by omega, by go_num, R, by rw [m1.out]; exact ML, by rw [m2.out]; exact MH, hB⟩
          case measure => simp [intOf]; omega
        · have m1 := Lib.hid (Iv.mnU_yes c1)
          have m2 := Lib.hid (Iv.mxU_no c2)
          have z1 := Lib.hid (Wi.cm_lt c1)
          obtain ⟨y, z2, dy⟩ := Iv.cm_ng c2
          replace z2 := Lib.hid z2
          clear c1 c2
          obtain ⟨hr, x0, x1⟩ := Rd.atW (RA.keep hB) hlt
          go_wp2_with fail
          generalize wr = W0 at R ML MH hB ⊢
          have hreg : ∀ w', Below W0.heap.size W0 w' → Below W0.heap.size W0 w' ∧ w'.cell? ⟨gML, 0, none⟩ = some (.int .i64 (Wi.Hq (Iv.mnU N k))) ∧ w'.cell? ⟨gML, 1, none⟩ = some (.int .u64 (Wi.Lr (Iv.mnU N k))) ∧ w'.cell? ⟨b, off + k * 2, none⟩ = some (.int .i64 (Wi.Hq (N k))) ∧ w'.cell? ⟨b, off + k * 2 + 1, none⟩ = some (.int .u64 (Wi.Lr (N k))) := fun w' h => ⟨h, (ML.keep h).cell 0, (ML.keep h).cell 1, (Rd.atW (Rd.keep RA (bt hB h)) hlt).2.1, (Rd.atW (Rd.keep RA (bt hB h)) hlt).2.2⟩
          go_region_held3 (fun w' => Below W0.heap.size W0 w' ∧ w'.cell? ⟨gML, 0, none⟩ = some (.int .i64 (Wi.Hq (Iv.mnU N k))) ∧ w'.cell? ⟨gML, 1, none⟩ = some (.int .u64 (Wi.Lr (Iv.mnU N k))) ∧ w'.cell? ⟨b, off + k * 2, none⟩ = some (.int .i64 (Wi.Hq (N k))) ∧ w'.cell? ⟨b, off + k * 2 + 1, none⟩ = some (.int .u64 (Wi.Lr (N k)))) (first | exact hreg _ (Below.refl _ _).drew | exact keepR hreg hbn (by assumption)) (first | (go_at_call 99; refine (rcmp_c _ _ _ _ _ _ _ (Wi.wd_self (HN.out k hlt)) (Wi.wd_self mw)).mono ?_; rw [z1.out]; rintro e wn ⟨rfl, hbn⟩))
          rename_i hS
          replace R := R.keep hS.1
          replace ML := ML.keep hS.1
          replace MH := MH.keep hS.1
          replace hB := bt hB hS.1
          clear hS hreg
          clear x0 x1 hr
          obtain ⟨hr, x0, x1⟩ := Rd.atW (RA.keep hB) hlt
          obtain ⟨c00, c01, c02, c03⟩ := ML.open2
          go_wp2_with fail
          clear x0 x1 hr
          clear c00 c01 c02 c03
          replace R := ((R.far (p := ⟨gML, 0, none⟩) (by first | (simp; done) | (simp; omega) | omega) (.int .i64 (Wi.Hq (N k)))).far (p := ⟨gML, 1, none⟩) (by first | (simp; done) | (simp; omega) | omega) (.int .u64 (Wi.Lr (N k))))
          replace MH := ((MH.far (p := ⟨gML, 0, none⟩) (by first | (simp; done) | (simp; omega) | omega) (.int .i64 (Wi.Hq (N k)))).far (p := ⟨gML, 1, none⟩) (by first | (simp; done) | (simp; omega) | omega) (.int .u64 (Wi.Lr (N k))))
          replace hB := (bst (bst hB (p := ⟨gML, 0, none⟩) (by first | (simp; done) | (simp; omega) | omega) (.int .i64 (Wi.Hq (N k)))) (p := ⟨gML, 1, none⟩) (by first | (simp; done) | (simp; omega) | omega) (.int .u64 (Wi.Lr (N k))))
          replace ML := ((ML.set_ 0 (.int .i64 (Wi.Hq (N k)))).set_ 1 (.int .u64 (Wi.Lr (N k))))
          simp only [List.setIfInBounds_toArray, List.set_cons_zero, List.set_cons_succ] at ML
          generalize World.setCell (World.setCell wn _ _) _ _ = W0 at R ML MH hB ⊢
          have hreg : ∀ w', Below W0.heap.size W0 w' → Below W0.heap.size W0 w' ∧ w'.cell? ⟨gMH, 0, none⟩ = some (.int .i64 (Wi.Hq (Iv.mxU M k))) ∧ w'.cell? ⟨gMH, 1, none⟩ = some (.int .u64 (Wi.Lr (Iv.mxU M k))) ∧ w'.cell? ⟨b2, off2 + k * 2, none⟩ = some (.int .i64 (Wi.Hq (M k))) ∧ w'.cell? ⟨b2, off2 + k * 2 + 1, none⟩ = some (.int .u64 (Wi.Lr (M k))) := fun w' h => ⟨h, (MH.keep h).cell 0, (MH.keep h).cell 1, (Rd.atW (Rd.keep RB (bt hB h)) hlt).2.1, (Rd.atW (Rd.keep RB (bt hB h)) hlt).2.2⟩
          go_region_held3 (fun w' => Below W0.heap.size W0 w' ∧ w'.cell? ⟨gMH, 0, none⟩ = some (.int .i64 (Wi.Hq (Iv.mxU M k))) ∧ w'.cell? ⟨gMH, 1, none⟩ = some (.int .u64 (Wi.Lr (Iv.mxU M k))) ∧ w'.cell? ⟨b2, off2 + k * 2, none⟩ = some (.int .i64 (Wi.Hq (M k))) ∧ w'.cell? ⟨b2, off2 + k * 2 + 1, none⟩ = some (.int .u64 (Wi.Lr (M k)))) (first | exact hreg _ (Below.refl _ _).drew | exact keepR hreg hbn (by assumption)) (first | (go_at_call 99; refine (rcmp_c _ _ _ _ _ _ _ (Wi.wd_self (HM.out k hlt)) (Wi.wd_self mx)).mono ?_; rw [z2.out]; rintro e wn ⟨rfl, hbn⟩))
          rename_i hS
          replace R := R.keep hS.1
          replace ML := ML.keep hS.1
          replace MH := MH.keep hS.1
          replace hB := bt hB hS.1
          clear hS hreg
          go_wp2_with fail
          go_roundw
          case rel => exact ⟨k + 1, by omega, by go_num, R, by rw [m1.out]; exact ML, by rw [m2.out]; exact MH, hB⟩
          case measure => simp [intOf]; omega
        · have m1 := Lib.hid (Iv.mnU_no c1)
          have m2 := Lib.hid (Iv.mxU_yes c2)
          obtain ⟨z, z1, dz, _⟩ := Iv.cm_nl c1
          replace z1 := Lib.hid z1
          have z2 := Lib.hid (Wi.cm_gt c2)
          clear c1 c2
          obtain ⟨hr, x0, x1⟩ := Rd.atW (RA.keep hB) hlt
          go_wp2_with fail
          generalize wr = W0 at R ML MH hB ⊢
          have hreg : ∀ w', Below W0.heap.size W0 w' → Below W0.heap.size W0 w' ∧ w'.cell? ⟨gML, 0, none⟩ = some (.int .i64 (Wi.Hq (Iv.mnU N k))) ∧ w'.cell? ⟨gML, 1, none⟩ = some (.int .u64 (Wi.Lr (Iv.mnU N k))) ∧ w'.cell? ⟨b, off + k * 2, none⟩ = some (.int .i64 (Wi.Hq (N k))) ∧ w'.cell? ⟨b, off + k * 2 + 1, none⟩ = some (.int .u64 (Wi.Lr (N k))) := fun w' h => ⟨h, (ML.keep h).cell 0, (ML.keep h).cell 1, (Rd.atW (Rd.keep RA (bt hB h)) hlt).2.1, (Rd.atW (Rd.keep RA (bt hB h)) hlt).2.2⟩
          go_region_held3 (fun w' => Below W0.heap.size W0 w' ∧ w'.cell? ⟨gML, 0, none⟩ = some (.int .i64 (Wi.Hq (Iv.mnU N k))) ∧ w'.cell? ⟨gML, 1, none⟩ = some (.int .u64 (Wi.Lr (Iv.mnU N k))) ∧ w'.cell? ⟨b, off + k * 2, none⟩ = some (.int .i64 (Wi.Hq (N k))) ∧ w'.cell? ⟨b, off + k * 2 + 1, none⟩ = some (.int .u64 (Wi.Lr (N k)))) (first | exact hreg _ (Below.refl _ _).drew | exact keepR hreg hbn (by assumption)) (first | (go_at_call 99; refine (rcmp_c _ _ _ _ _ _ _ (Wi.wd_self (HN.out k hlt)) (Wi.wd_self mw)).mono ?_; rw [z1.out]; rintro e wn ⟨rfl, hbn⟩))
          rename_i hS
          replace R := R.keep hS.1
          replace ML := ML.keep hS.1
          replace MH := MH.keep hS.1
          replace hB := bt hB hS.1
          clear hS hreg
          clear x0 x1 hr
          go_wp2_with fail
          generalize wn = W0 at R ML MH hB ⊢
          have hreg : ∀ w', Below W0.heap.size W0 w' → Below W0.heap.size W0 w' ∧ w'.cell? ⟨gMH, 0, none⟩ = some (.int .i64 (Wi.Hq (Iv.mxU M k))) ∧ w'.cell? ⟨gMH, 1, none⟩ = some (.int .u64 (Wi.Lr (Iv.mxU M k))) ∧ w'.cell? ⟨b2, off2 + k * 2, none⟩ = some (.int .i64 (Wi.Hq (M k))) ∧ w'.cell? ⟨b2, off2 + k * 2 + 1, none⟩ = some (.int .u64 (Wi.Lr (M k))) := fun w' h => ⟨h, (MH.keep h).cell 0, (MH.keep h).cell 1, (Rd.atW (Rd.keep RB (bt hB h)) hlt).2.1, (Rd.atW (Rd.keep RB (bt hB h)) hlt).2.2⟩
          go_region_held3 (fun w' => Below W0.heap.size W0 w' ∧ w'.cell? ⟨gMH, 0, none⟩ = some (.int .i64 (Wi.Hq (Iv.mxU M k))) ∧ w'.cell? ⟨gMH, 1, none⟩ = some (.int .u64 (Wi.Lr (Iv.mxU M k))) ∧ w'.cell? ⟨b2, off2 + k * 2, none⟩ = some (.int .i64 (Wi.Hq (M k))) ∧ w'.cell? ⟨b2, off2 + k * 2 + 1, none⟩ = some (.int .u64 (Wi.Lr (M k)))) (first | exact hreg _ (Below.refl _ _).drew | exact keepR hreg hbn (by assumption)) (first | (go_at_call 99; refine (rcmp_c _ _ _ _ _ _ _ (Wi.wd_self (HM.out k hlt)) (Wi.wd_self mx)).mono ?_; rw [z2.out]; rintro e wn ⟨rfl, hbn⟩))
          rename_i hS
          replace R := R.keep hS.1
          replace ML := ML.keep hS.1
          replace MH := MH.keep hS.1
          replace hB := bt hB hS.1
          clear hS hreg
          obtain ⟨hr, x0, x1⟩ := Rd.atW (RB.keep hB) hlt
          obtain ⟨c00, c01, c02, c03⟩ := MH.open2
          go_wp2_with fail
          clear x0 x1 hr
          clear c00 c01 c02 c03
          replace R := ((R.far (p := ⟨gMH, 0, none⟩) (by first | (simp; done) | (simp; omega) | omega) (.int .i64 (Wi.Hq (M k)))).far (p := ⟨gMH, 1, none⟩) (by first | (simp; done) | (simp; omega) | omega) (.int .u64 (Wi.Lr (M k))))
          replace ML := ((ML.far (p := ⟨gMH, 0, none⟩) (by first | (simp; done) | (simp; omega) | omega) (.int .i64 (Wi.Hq (M k)))).far (p := ⟨gMH, 1, none⟩) (by first | (simp; done) | (simp; omega) | omega) (.int .u64 (Wi.Lr (M k))))
          replace hB := (bst (bst hB (p := ⟨gMH, 0, none⟩) (by first | (simp; done) | (simp; omega) | omega) (.int .i64 (Wi.Hq (M k)))) (p := ⟨gMH, 1, none⟩) (by first | (simp; done) | (simp; omega) | omega) (.int .u64 (Wi.Lr (M k))))
          replace MH := ((MH.set_ 0 (.int .i64 (Wi.Hq (M k)))).set_ 1 (.int .u64 (Wi.Lr (M k))))
          simp only [List.setIfInBounds_toArray, List.set_cons_zero, List.set_cons_succ] at MH
          go_roundw
          case rel => exact ⟨k + 1, by omega, by go_num, R, by rw [m1.out]; exact ML, by rw [m2.out]; exact MH, hB⟩
          case measure => simp [intOf]; omega
        · have m1 := Lib.hid (Iv.mnU_no c1)
          have m2 := Lib.hid (Iv.mxU_no c2)
          obtain ⟨z, z1, dz, _⟩ := Iv.cm_nl c1
          replace z1 := Lib.hid z1
          obtain ⟨y, z2, dy⟩ := Iv.cm_ng c2
          replace z2 := Lib.hid z2
          clear c1 c2
          obtain ⟨hr, x0, x1⟩ := Rd.atW (RA.keep hB) hlt
          go_wp2_with fail
          generalize wr = W0 at R ML MH hB ⊢
          have hreg : ∀ w', Below W0.heap.size W0 w' → Below W0.heap.size W0 w' ∧ w'.cell? ⟨gML, 0, none⟩ = some (.int .i64 (Wi.Hq (Iv.mnU N k))) ∧ w'.cell? ⟨gML, 1, none⟩ = some (.int .u64 (Wi.Lr (Iv.mnU N k))) ∧ w'.cell? ⟨b, off + k * 2, none⟩ = some (.int .i64 (Wi.Hq (N k))) ∧ w'.cell? ⟨b, off + k * 2 + 1, none⟩ = some (.int .u64 (Wi.Lr (N k))) := fun w' h => ⟨h, (ML.keep h).cell 0, (ML.keep h).cell 1, (Rd.atW (Rd.keep RA (bt hB h)) hlt).2.1, (Rd.atW (Rd.keep RA (bt hB h)) hlt).2.2⟩
          go_region_held3 (fun w' => Below W0.heap.size W0 w' ∧ w'.cell? ⟨gML, 0, none⟩ = some (.int .i64 (Wi.Hq (Iv.mnU N k))) ∧ w'.cell? ⟨gML, 1, none⟩ = some (.int .u64 (Wi.Lr (Iv.mnU N k))) ∧ w'.cell? ⟨b, off + k * 2, none⟩ = some (.int .i64 (Wi.Hq (N k))) ∧ w'.cell? ⟨b, off + k * 2 + 1, none⟩ = some (.int .u64 (Wi.Lr (N k)))) (first | exact hreg _ (Below.refl _ _).drew | exact keepR hreg hbn (by assumption)) (first | (go_at_call 99; refine (rcmp_c _ _ _ _ _ _ _ (Wi.wd_self (HN.out k hlt)) (Wi.wd_self mw)).mono ?_; rw [z1.out]; rintro e wn ⟨rfl, hbn⟩))
          rename_i hS
          replace R := R.keep hS.1
          replace ML := ML.keep hS.1
          replace MH := MH.keep hS.1
          replace hB := bt hB hS.1
          clear hS hreg
          clear x0 x1 hr
          go_wp2_with fail
          generalize wn = W0 at R ML MH hB ⊢
          have hreg : ∀ w', Below W0.heap.size W0 w' → Below W0.heap.size W0 w' ∧ w'.cell? ⟨gMH, 0, none⟩ = some (.int .i64 (Wi.Hq (Iv.mxU M k))) ∧ w'.cell? ⟨gMH, 1, none⟩ = some (.int .u64 (Wi.Lr (Iv.mxU M k))) ∧ w'.cell? ⟨b2, off2 + k * 2, none⟩ = some (.int .i64 (Wi.Hq (M k))) ∧ w'.cell? ⟨b2, off2 + k * 2 + 1, none⟩ = some (.int .u64 (Wi.Lr (M k))) := fun w' h => ⟨h, (MH.keep h).cell 0, (MH.keep h).cell 1, (Rd.atW (Rd.keep RB (bt hB h)) hlt).2.1, (Rd.atW (Rd.keep RB (bt hB h)) hlt).2.2⟩
          go_region_held3 (fun w' => Below W0.heap.size W0 w' ∧ w'.cell? ⟨gMH, 0, none⟩ = some (.int .i64 (Wi.Hq (Iv.mxU M k))) ∧ w'.cell? ⟨gMH, 1, none⟩ = some (.int .u64 (Wi.Lr (Iv.mxU M k))) ∧ w'.cell? ⟨b2, off2 + k * 2, none⟩ = some (.int .i64 (Wi.Hq (M k))) ∧ w'.cell? ⟨b2, off2 + k * 2 + 1, none⟩ = some (.int .u64 (Wi.Lr (M k)))) (first | exact hreg _ (Below.refl _ _).drew | exact keepR hreg hbn (by assumption)) (first | (go_at_call 99; refine (rcmp_c _ _ _ _ _ _ _ (Wi.wd_self (HM.out k hlt)) (Wi.wd_self mx)).mono ?_; rw [z2.out]; rintro e wn ⟨rfl, hbn⟩))
          rename_i hS
          replace R := R.keep hS.1
          replace ML := ML.keep hS.1
          replace MH := MH.keep hS.1
          replace hB := bt hB hS.1
          clear hS hreg
          go_wp2_with fail
          go_roundw
          case rel => exact ⟨k + 1, by omega, by go_num, R, by rw [m1.out]; exact ML, by rw [m2.out]; exact MH, hB⟩
          case measure => simp [intOf]; omega
      · obtain rfl : k = n := by omega
        have mw := Wi.wd_self (Iv.mnU_W HD.out HN.out k hk)
        have mx := Wi.wd_self (Iv.mxU_W HD.out HM.out k hk)
        by_cases v1 : Iv.Vd (Iv.mnU N k) (Iv.mxU M k)
        · have E := Lib.hid (Iv.rs_yes v1)
          have k1 := Lib.hid (Wi.ib_yes (v := (Iv.mnU N k)) (by unfold Iv.Vd at v1; unfold Wi.in64; omega))
          have k2 := Lib.hid (Wi.ib_yes (v := (Iv.mxU M k)) (by unfold Iv.Vd at v1; unfold Wi.in64; omega))
          have k3 := Lib.hid (Wi.iv_yes (v := (Iv.mnU N k)) (by unfold Iv.Vd at v1; unfold Wi.in64; omega))
          have k4 := Lib.hid (Wi.iv_yes (v := (Iv.mxU M k)) (by unfold Iv.Vd at v1; unfold Wi.in64; omega))
          have k5 := Lib.hid (Iv.vb_yes v1)
          clear v1
          obtain ⟨c00, c01, c02, c03⟩ := ML.open2
          go_wp2_with fail
          refine (rint_c _ _ _ _ mw).mono ?_
          rw [k1.out, k3.out]
          rintro e w2 ⟨rfl, hb⟩
          clear c00 c01 c02 c03
          replace R := R.keep hb
          replace ML := ML.keep hb
          replace MH := MH.keep hb
          replace hB := bt hB hb
          clear hb
          obtain ⟨c00, c01, c02, c03⟩ := MH.open2
          go_wp2_with fail
          refine (rint_c _ _ _ _ mx).mono ?_
          rw [k2.out, k4.out]
          rintro e w3 ⟨rfl, hb⟩
          clear c00 c01 c02 c03
          replace R := R.keep hb
          replace ML := ML.keep hb
          replace MH := MH.keep hb
          replace hB := bt hB hb
          clear hb
          have hz3 := hB.size
          have l3R := R.lt
          have l3ML := ML.lt
          have l3MH := MH.lt
          replace R := R.alloc (.cells #[.int .i64 (Iv.mnU N k), .int .i64 (Iv.mxU M k)] 23)
          replace ML := ML.alloc (.cells #[.int .i64 (Iv.mnU N k), .int .i64 (Iv.mxU M k)] 23)
          replace MH := MH.alloc (.cells #[.int .i64 (Iv.mnU N k), .int .i64 (Iv.mxU M k)] 23)
          replace hB := bal hB (.cells #[.int .i64 (Iv.mnU N k), .int .i64 (Iv.mxU M k)] 23)
          have Z := Blk.new w3 23 #[.int .i64 (Iv.mnU N k), .int .i64 (Iv.mxU M k)]
          obtain ⟨c00, c01, c02, c03⟩ := R.open2
          go_wp2_with fail
          refine (rvalid_c _ _ _).mono ?_
          rw [k5.out]
          rintro e w4 ⟨rfl, hb⟩
          clear c00 c01 c02 c03
          replace R := R.keep hb
          replace ML := ML.keep hb
          replace MH := MH.keep hb
          replace Z := Z.keep hb
          replace hB := bt hB hb
          clear hb
          obtain ⟨c00, c01, c02, c03⟩ := Z.open2
          obtain ⟨r00, r01, r02, r03⟩ := R.open2
          go_wp2_with fail
          refine bodyPost_ret (by simp [results, Try.results82, go_sem, r00, r01, r02, r03]; try rfl) rfl ?_
          exact ⟨by rw [E.out] <;> rfl, by repeat (first | exact Below.refl _ _ | (with_reducible assumption) | (with_reducible apply bal) | (with_reducible apply bdr) | (with_reducible apply bdnl) | (with_reducible refine bst ?_ (by first | (simp; done) | (simp; omega) | omega) _) | (with_reducible refine bt ?_ (by with_reducible assumption)))⟩
        · by_cases q1 : Wi.in64 (Iv.mnU N k)
          rotate_left
          · have E := Lib.hid (Iv.rs_no v1)
            have k1 := Lib.hid (Wi.ib_no q1)
            obtain ⟨kb, k2⟩ : ∃ kb, Hid (Wi.ib (Iv.mxU M k) = kb) := ⟨_, Lib.hid rfl⟩
            clear v1 q1
            obtain ⟨c00, c01, c02, c03⟩ := ML.open2
            go_wp2_with fail
            refine (rint_c _ _ _ _ mw).mono ?_
            rw [k1.out]
            rintro e w2 ⟨rfl, hb⟩
            clear c00 c01 c02 c03
            replace R := R.keep hb
            replace ML := ML.keep hb
            replace MH := MH.keep hb
            replace hB := bt hB hb
            clear hb
            obtain ⟨c00, c01, c02, c03⟩ := MH.open2
            go_wp2_with fail
            refine (rint_c _ _ _ _ mx).mono ?_
            rw [k2.out]
            rintro e w3 ⟨rfl, hb⟩
            clear c00 c01 c02 c03
            replace R := R.keep hb
            replace ML := ML.keep hb
            replace MH := MH.keep hb
            replace hB := bt hB hb
            clear hb
            obtain ⟨r00, r01, r02, r03⟩ := R.open2
            go_wp2_with fail
            refine bodyPost_ret (by simp [results, Try.results82, go_sem, r00, r01, r02, r03]; try rfl) rfl ?_
            exact ⟨by rw [E.out] <;> rfl, by repeat (first | exact Below.refl _ _ | (with_reducible assumption) | (with_reducible apply bal) | (with_reducible apply bdr) | (with_reducible apply bdnl) | (with_reducible refine bst ?_ (by first | (simp; done) | (simp; omega) | omega) _) | (with_reducible refine bt ?_ (by with_reducible assumption)))⟩
          by_cases q2 : Wi.in64 (Iv.mxU M k)
          rotate_left
          · have E := Lib.hid (Iv.rs_no v1)
            have k1 := Lib.hid (Wi.ib_yes q1)
            have k2 := Lib.hid (Wi.ib_no q2)
            clear v1 q1 q2
            obtain ⟨c00, c01, c02, c03⟩ := ML.open2
            go_wp2_with fail
            refine (rint_c _ _ _ _ mw).mono ?_
            rw [k1.out]
            rintro e w2 ⟨rfl, hb⟩
            clear c00 c01 c02 c03
            replace R := R.keep hb
            replace ML := ML.keep hb
            replace MH := MH.keep hb
            replace hB := bt hB hb
            clear hb
            obtain ⟨c00, c01, c02, c03⟩ := MH.open2
            go_wp2_with fail
            refine (rint_c _ _ _ _ mx).mono ?_
            rw [k2.out]
            rintro e w3 ⟨rfl, hb⟩
            clear c00 c01 c02 c03
            replace R := R.keep hb
            replace ML := ML.keep hb
            replace MH := MH.keep hb
            replace hB := bt hB hb
            clear hb
            obtain ⟨r00, r01, r02, r03⟩ := R.open2
            go_wp2_with fail
            refine bodyPost_ret (by simp [results, Try.results82, go_sem, r00, r01, r02, r03]; try rfl) rfl ?_
            exact ⟨by rw [E.out] <;> rfl, by repeat (first | exact Below.refl _ _ | (with_reducible assumption) | (with_reducible apply bal) | (with_reducible apply bdr) | (with_reducible apply bdnl) | (with_reducible refine bst ?_ (by first | (simp; done) | (simp; omega) | omega) _) | (with_reducible refine bt ?_ (by with_reducible assumption)))⟩
          · have E := Lib.hid (Iv.rs_no v1)
            have k1 := Lib.hid (Wi.ib_yes q1)
            have k2 := Lib.hid (Wi.ib_yes q2)
            have k3 := Lib.hid (Wi.iv_yes q1)
            have k4 := Lib.hid (Wi.iv_yes q2)
            have k5 := Lib.hid (Iv.vb_no v1)
            clear v1 q1 q2
            obtain ⟨c00, c01, c02, c03⟩ := ML.open2
            go_wp2_with fail
            refine (rint_c _ _ _ _ mw).mono ?_
            rw [k1.out, k3.out]
            rintro e w2 ⟨rfl, hb⟩
            clear c00 c01 c02 c03
            replace R := R.keep hb
            replace ML := ML.keep hb
            replace MH := MH.keep hb
            replace hB := bt hB hb
            clear hb
            obtain ⟨c00, c01, c02, c03⟩ := MH.open2
            go_wp2_with fail
            refine (rint_c _ _ _ _ mx).mono ?_
            rw [k2.out, k4.out]
            rintro e w3 ⟨rfl, hb⟩
            clear c00 c01 c02 c03
            replace R := R.keep hb
            replace ML := ML.keep hb
            replace MH := MH.keep hb
            replace hB := bt hB hb
            clear hb
            have hz3 := hB.size
            have l3R := R.lt
            have l3ML := ML.lt
            have l3MH := MH.lt
            replace R := R.alloc (.cells #[.int .i64 (Iv.mnU N k), .int .i64 (Iv.mxU M k)] 23)
            replace ML := ML.alloc (.cells #[.int .i64 (Iv.mnU N k), .int .i64 (Iv.mxU M k)] 23)
            replace MH := MH.alloc (.cells #[.int .i64 (Iv.mnU N k), .int .i64 (Iv.mxU M k)] 23)
            replace hB := bal hB (.cells #[.int .i64 (Iv.mnU N k), .int .i64 (Iv.mxU M k)] 23)
            have Z := Blk.new w3 23 #[.int .i64 (Iv.mnU N k), .int .i64 (Iv.mxU M k)]
            obtain ⟨c00, c01, c02, c03⟩ := R.open2
            go_wp2_with fail
            refine (rvalid_c _ _ _).mono ?_
            rw [k5.out]
            rintro e w4 ⟨rfl, hb⟩
            clear c00 c01 c02 c03
            replace R := R.keep hb
            replace ML := ML.keep hb
            replace MH := MH.keep hb
            replace Z := Z.keep hb
            replace hB := bt hB hb
            clear hb
            obtain ⟨r00, r01, r02, r03⟩ := R.open2
            go_wp2_with fail
            refine bodyPost_ret (by simp [results, Try.results82, go_sem, r00, r01, r02, r03]; try rfl) rfl ?_
            exact ⟨by rw [E.out] <;> rfl, by repeat (first | exact Below.refl _ _ | (with_reducible assumption) | (with_reducible apply bal) | (with_reducible apply bdr) | (with_reducible apply bdnl) | (with_reducible refine bst ?_ (by first | (simp; done) | (simp; omega) | omega) _) | (with_reducible refine bt ?_ (by with_reducible assumption)))⟩
end Go.Proofs.Ytclohghongpfkaa
