/-
  Contract: navBinary.
-/
import Derived.Test.YtgkbjkgafiojjaaITw
import Derived.Test.YtgkbjkgafiojjaaI3
import Derived.Test.YtgkbjkgafiojjaaI11
import Derived.Test.YtgkbjkgafiojjaaW2
import Derived.Test.YtgkbjkgafiojjaaW5
import Derived.Deep.DeepCutAuto
namespace Go.Proofs.Ytgkbjkgafiojjaa
set_option linter.unusedVariables false
set_option linter.unusedSimpArgs false
open Go.RowKit
attribute [local irreducible] World.setCell World.cell?

theorem te_inW {c c2 : Int} (h1 : -4611686018427387904 ≤ c) (h2 : c ≤ 4611686018427387904) (h3 : -4611686018427387904 ≤ c2) (h4 : c2 ≤ 4611686018427387904) : Wi.inW (c * c2) := by
  have h := Nat.mul_le_mul (show c.natAbs ≤ 4611686018427387904 by omega) (show c2.natAbs ≤ 4611686018427387904 by omega)
  rw [← Int.natAbs_mul] at h
  generalize c * c2 = p at *
  unfold Wi.inW
  omega
theorem Blk.new3 (w : World) (o o2 o3 : Obj) (t : TypeId) (cs : Array Value) : Blk ((((w.alloc o).alloc o2).alloc o3).alloc (.cells cs t)) (w.heap.size + 1 + 1 + 1) t cs := by
  have h := Blk.new (((w.alloc o).alloc o2).alloc o3) t cs
  simpa using h
set_option maxRecDepth 100000 in
set_option maxHeartbeats 4000000 in
theorem binary_c (a b c a2 b2 c2 op lo hi n : Int) (w : World) (hm : Iv.Mem a b c) (hm2 : Iv.Mem a2 b2 c2) (ho : 1 ≤ op ∧ op ≤ 3) : Calls Try.prog 7 #[.agg #[.int .i64 a, .int .i64 b, .int .i64 c], .agg #[.int .i64 a2, .int .i64 b2, .int .i64 c2], .agg #[.int .u8 op, .int .i64 lo, .int .i64 hi, .int .u64 n]] w fun e w' => ∃ a' b' c' er : Int, e = .returned (.tuple #[.agg #[.int .i64 a', .int .i64 b', .int .i64 c'], .int .i64 er]) ∧ 0 ≤ er ∧ er ≤ 2 ∧ (er = 0 → Iv.Mem a' b' c') ∧ Below w.heap.size w w' := by
  obtain ⟨m1, m2, m3, m4, m5⟩ := hm.bd
  obtain ⟨k1, k2, k3, k4, k5⟩ := hm2.bd
  have hmem : a ≤ c ∧ c ≤ b := ⟨hm.2.1, hm.2.2⟩
  have hmem2 : a2 ≤ c2 ∧ c2 ≤ b2 := ⟨hm2.2.1, hm2.2.2⟩
  have HMM := Lib.hid hmem
  have HM2 := Lib.hid hmem2
  obtain ⟨o1, o2⟩ := ho
  clear hm hmem hm2 hmem2
  have X := (((Blk.new w 33 #[.int .i64 a, .int .i64 b, .int .i64 c]).alloc (.cells #[.int .i64 a2, .int .i64 b2, .int .i64 c2] 33)).alloc (.cells #[.int .u8 op, .int .i64 lo, .int .i64 hi, .int .u64 n] 31)).alloc (.cells #[.int .i64 0, .int .i64 0, .int .i64 0] 33)
  have X2 := ((Blk.new1 w (.cells #[.int .i64 a, .int .i64 b, .int .i64 c] 33) 33 #[.int .i64 a2, .int .i64 b2, .int .i64 c2]).alloc (.cells #[.int .u8 op, .int .i64 lo, .int .i64 hi, .int .u64 n] 31)).alloc (.cells #[.int .i64 0, .int .i64 0, .int .i64 0] 33)
  have T := (Blk.new2 w (.cells #[.int .i64 a, .int .i64 b, .int .i64 c] 33) (.cells #[.int .i64 a2, .int .i64 b2, .int .i64 c2] 33) 31 #[.int .u8 op, .int .i64 lo, .int .i64 hi, .int .u64 n]).alloc (.cells #[.int .i64 0, .int .i64 0, .int .i64 0] 33)
  have R := Blk.new3 w (.cells #[.int .i64 a, .int .i64 b, .int .i64 c] 33) (.cells #[.int .i64 a2, .int .i64 b2, .int .i64 c2] 33) (.cells #[.int .u8 op, .int .i64 lo, .int .i64 hi, .int .u64 n] 31) 33 #[.int .i64 0, .int .i64 0, .int .i64 0]
  have hB := bal (bal (bal (ba w (.cells #[.int .i64 a, .int .i64 b, .int .i64 c] 33)) (.cells #[.int .i64 a2, .int .i64 b2, .int .i64 c2] 33)) (.cells #[.int .u8 op, .int .i64 lo, .int .i64 hi, .int .u64 n] 31)) (.cells #[.int .i64 0, .int .i64 0, .int .i64 0] 33)
  go_enter Try.func7, Try.ntmps7
  try simp only [List.append_eq, List.cons_append, List.nil_append]
  go_upto_region 1 with fail
  generalize World.alloc (World.alloc (World.alloc (World.alloc w _) _) _) _ = w1 at X X2 T R hB ⊢
  obtain ⟨x0, x1, x2, x3, x4⟩ := X.open3
  obtain ⟨z0, z1, z2, z3, z4⟩ := X2.open3
  obtain ⟨t0, t1, t2, t3, t4, t5⟩ := T.open4
  by_cases h1 : op = 1
  · subst h1
    go_wp2_with fail
    refine (add_ci a b a2 b2 _).mono ?_
    rintro e w2 ⟨rfl, hb⟩
    clear x0 x1 x2 x3 x4 z0 z1 z2 z3 z4 t0 t1 t2 t3 t4 t5
    replace X := X.keep hb
    replace X2 := X2.keep hb
    replace R := R.keep hb
    replace hB := bt hB hb
    clear hb
    have E := Lib.hid (Iv.te_add a b a2 b2)
    have V := Lib.hid (fun (h : (Iv.add a b a2 b2).er = 0) => Iv.add_has HMM.out HM2.out h)
    generalize Iv.add a b a2 b2 = r at *
    have Y := Blk.new w2 24 #[.int .i64 r.lo, .int .i64 r.hi]
    replace X := X.alloc (.cells #[.int .i64 r.lo, .int .i64 r.hi] 24)
    replace X2 := X2.alloc (.cells #[.int .i64 r.lo, .int .i64 r.hi] 24)
    replace R := R.alloc (.cells #[.int .i64 r.lo, .int .i64 r.hi] 24)
    replace hB := bal hB (.cells #[.int .i64 r.lo, .int .i64 r.hi] 24)
    obtain ⟨x0, x1, x2, x3, x4⟩ := X.open3
    obtain ⟨z0, z1, z2, z3, z4⟩ := X2.open3
    obtain ⟨y0, y1, y2, y3⟩ := Y.open2
    by_cases her : r.er = 0
    · have he1 : (r.er != 0) = false := by simpa using her
      have VB := V.out her
      obtain ⟨v0, v1, v2⟩ := VB
      have VM := Lib.hid (Iv.hs_iff.1 v0)
      clear v0
      have HER := Lib.hid her
      clear her
      obtain ⟨r0, r1, r2, r3, r4⟩ := R.open3
      have R2 := ((R.set_ 0 (.int .i64 (r.lo))).set_ 1 (.int .i64 (r.hi))).set_ 2 (.int .i64 (c + c2))
      simp only [List.setIfInBounds_toArray, List.set_cons_zero, List.set_cons_succ] at R2
      have hB2 := bst (bst (bst hB (p := ⟨w.heap.size + 1 + 1 + 1, 0, none⟩) (by show _ ≤ w.heap.size + 1 + 1 + 1; omega) (.int .i64 (r.lo))) (p := ⟨w.heap.size + 1 + 1 + 1, 1, none⟩) (by show _ ≤ w.heap.size + 1 + 1 + 1; omega) (.int .i64 (r.hi))) (p := ⟨w.heap.size + 1 + 1 + 1, 2, none⟩) (by show _ ≤ w.heap.size + 1 + 1 + 1; omega) (.int .i64 (c + c2))
      obtain ⟨s0, s1, s2, s3, s4⟩ := R2.open3
      go_wp2_with fail
      refine bodyPost_ret (by simp [results, Try.results7, go_sem, s0, s1, s2]; try rfl) rfl ?_
      exact ⟨_, _, _, _, rfl, E.out.1, E.out.2, fun _ => VM.out, hB2⟩
    · have he1 : (r.er != 0) = true := by simpa using her
      have HER := Lib.hid her
      clear her
      obtain ⟨r0, r1, r2, r3, r4⟩ := R.open3
      have R2 := ((R.set_ 0 (.int .i64 0)).set_ 1 (.int .i64 0)).set_ 2 (.int .i64 0)
      simp only [List.setIfInBounds_toArray, List.set_cons_zero, List.set_cons_succ] at R2
      have hB2 := bst (bst (bst hB (p := ⟨w.heap.size + 1 + 1 + 1, 0, none⟩) (by show _ ≤ w.heap.size + 1 + 1 + 1; omega) (.int .i64 0)) (p := ⟨w.heap.size + 1 + 1 + 1, 1, none⟩) (by show _ ≤ w.heap.size + 1 + 1 + 1; omega) (.int .i64 0)) (p := ⟨w.heap.size + 1 + 1 + 1, 2, none⟩) (by show _ ≤ w.heap.size + 1 + 1 + 1; omega) (.int .i64 0)
      obtain ⟨s0, s1, s2, s3, s4⟩ := R2.open3
      go_wp2_with fail
      refine bodyPost_ret (by simp [results, Try.results7, go_sem, s0, s1, s2]; try rfl) rfl ?_
      exact ⟨_, _, _, _, rfl, E.out.1, E.out.2, fun h => absurd h HER.out, hB2⟩
  by_cases h2 : op = 2
  · subst h2
    have h1' : ((2 : Int) == 1) = false := by decide
    go_wp2_with fail
    refine (sub_ci a b a2 b2 _).mono ?_
    rintro e w2 ⟨rfl, hb⟩
    clear x0 x1 x2 x3 x4 z0 z1 z2 z3 z4 t0 t1 t2 t3 t4 t5
    replace X := X.keep hb
    replace X2 := X2.keep hb
    replace R := R.keep hb
    replace hB := bt hB hb
    clear hb
    have E := Lib.hid (Iv.te_sub a b a2 b2)
    have V := Lib.hid (fun (h : (Iv.sub a b a2 b2).er = 0) => Iv.sub_has HMM.out HM2.out h)
    generalize Iv.sub a b a2 b2 = r at *
    have Y := Blk.new w2 24 #[.int .i64 r.lo, .int .i64 r.hi]
    replace X := X.alloc (.cells #[.int .i64 r.lo, .int .i64 r.hi] 24)
    replace X2 := X2.alloc (.cells #[.int .i64 r.lo, .int .i64 r.hi] 24)
    replace R := R.alloc (.cells #[.int .i64 r.lo, .int .i64 r.hi] 24)
    replace hB := bal hB (.cells #[.int .i64 r.lo, .int .i64 r.hi] 24)
    obtain ⟨x0, x1, x2, x3, x4⟩ := X.open3
    obtain ⟨z0, z1, z2, z3, z4⟩ := X2.open3
    obtain ⟨y0, y1, y2, y3⟩ := Y.open2
    by_cases her : r.er = 0
    · have he1 : (r.er != 0) = false := by simpa using her
      have VB := V.out her
      obtain ⟨v0, v1, v2⟩ := VB
      have VM := Lib.hid (Iv.hs_iff.1 v0)
      clear v0
      have HER := Lib.hid her
      clear her
      obtain ⟨r0, r1, r2, r3, r4⟩ := R.open3
      have R2 := ((R.set_ 0 (.int .i64 (r.lo))).set_ 1 (.int .i64 (r.hi))).set_ 2 (.int .i64 (c - c2))
      simp only [List.setIfInBounds_toArray, List.set_cons_zero, List.set_cons_succ] at R2
      have hB2 := bst (bst (bst hB (p := ⟨w.heap.size + 1 + 1 + 1, 0, none⟩) (by show _ ≤ w.heap.size + 1 + 1 + 1; omega) (.int .i64 (r.lo))) (p := ⟨w.heap.size + 1 + 1 + 1, 1, none⟩) (by show _ ≤ w.heap.size + 1 + 1 + 1; omega) (.int .i64 (r.hi))) (p := ⟨w.heap.size + 1 + 1 + 1, 2, none⟩) (by show _ ≤ w.heap.size + 1 + 1 + 1; omega) (.int .i64 (c - c2))
      obtain ⟨s0, s1, s2, s3, s4⟩ := R2.open3
      go_wp2_with fail
      refine bodyPost_ret (by simp [results, Try.results7, go_sem, s0, s1, s2]; try rfl) rfl ?_
      exact ⟨_, _, _, _, rfl, E.out.1, E.out.2, fun _ => VM.out, hB2⟩
    · have he1 : (r.er != 0) = true := by simpa using her
      have HER := Lib.hid her
      clear her
      obtain ⟨r0, r1, r2, r3, r4⟩ := R.open3
      have R2 := ((R.set_ 0 (.int .i64 0)).set_ 1 (.int .i64 0)).set_ 2 (.int .i64 0)
      simp only [List.setIfInBounds_toArray, List.set_cons_zero, List.set_cons_succ] at R2
      have hB2 := bst (bst (bst hB (p := ⟨w.heap.size + 1 + 1 + 1, 0, none⟩) (by show _ ≤ w.heap.size + 1 + 1 + 1; omega) (.int .i64 0)) (p := ⟨w.heap.size + 1 + 1 + 1, 1, none⟩) (by show _ ≤ w.heap.size + 1 + 1 + 1; omega) (.int .i64 0)) (p := ⟨w.heap.size + 1 + 1 + 1, 2, none⟩) (by show _ ≤ w.heap.size + 1 + 1 + 1; omega) (.int .i64 0)
      obtain ⟨s0, s1, s2, s3, s4⟩ := R2.open3
      go_wp2_with fail
      refine bodyPost_ret (by simp [results, Try.results7, go_sem, s0, s1, s2]; try rfl) rfl ?_
      exact ⟨_, _, _, _, rfl, E.out.1, E.out.2, fun h => absurd h HER.out, hB2⟩
  have h1' : (op == 1) = false := by simpa using h1
  have h2' : (op == 2) = false := by simpa using h2
  go_wp2_with fail
  refine (mul_ci a b a2 b2 _).mono ?_
  rintro e w2 ⟨rfl, hb⟩
  clear x0 x1 x2 x3 x4 z0 z1 z2 z3 z4 t0 t1 t2 t3 t4 t5
  replace X := X.keep hb
  replace X2 := X2.keep hb
  replace R := R.keep hb
  replace hB := bt hB hb
  clear hb
  have E := Lib.hid (Iv.te_mul a b a2 b2)
  have V := Lib.hid (fun (h : (Iv.mul a b a2 b2).er = 0) => Iv.mul_has HMM.out HM2.out h)
  generalize Iv.mul a b a2 b2 = r at *
  have Y := Blk.new w2 24 #[.int .i64 r.lo, .int .i64 r.hi]
  replace X := X.alloc (.cells #[.int .i64 r.lo, .int .i64 r.hi] 24)
  replace X2 := X2.alloc (.cells #[.int .i64 r.lo, .int .i64 r.hi] 24)
  replace R := R.alloc (.cells #[.int .i64 r.lo, .int .i64 r.hi] 24)
  replace hB := bal hB (.cells #[.int .i64 r.lo, .int .i64 r.hi] 24)
  obtain ⟨x0, x1, x2, x3, x4⟩ := X.open3
  obtain ⟨z0, z1, z2, z3, z4⟩ := X2.open3
  obtain ⟨y0, y1, y2, y3⟩ := Y.open2
  go_wp2_with fail
  refine (mul_c c c2 _ (by omega) (by omega) (by omega) (by omega)).mono ?_
  rintro e w3 ⟨rfl, hb⟩
  clear x0 x1 x2 x3 x4 z0 z1 z2 z3 z4 y0 y1 y2 y3
  replace Y := Y.keep hb
  replace R := R.keep hb
  replace hB := bt hB hb
  clear hb
  have WD := Wi.wd_self (te_inW (c := c) (c2 := c2) (by omega) (by omega) (by omega) (by omega))
  go_wp2_with fail
  refine (int_c _ _ (c * c2) _ WD).mono ?_
  rintro e w4 ⟨rfl, hb⟩
  replace Y := Y.keep hb
  replace R := R.keep hb
  replace hB := bt hB hb
  clear hb
  obtain ⟨y0, y1, y2, y3⟩ := Y.open2
  by_cases her : r.er = 0
  · have he1 : (r.er == 0) = true := by simpa using her
    have VB := V.out her
    obtain ⟨v0, v1⟩ := VB
    have VM := Lib.hid (Iv.hs_iff.1 v0)
    have hib : Wi.ib (c * c2) = true := Wi.ib_yes v1
    have hiv : Wi.iv (c * c2) = c * c2 := Wi.iv_yes v1
    rw [hib, hiv]
    clear v0 v1 hib hiv
    have HER := Lib.hid her
    clear her
    generalize c * c2 = pr at *
    obtain ⟨r0, r1, r2, r3, r4⟩ := R.open3
    have R2 := ((R.set_ 0 (.int .i64 (r.lo))).set_ 1 (.int .i64 (r.hi))).set_ 2 (.int .i64 (pr))
    simp only [List.setIfInBounds_toArray, List.set_cons_zero, List.set_cons_succ] at R2
    have hB2 := bst (bst (bst hB (p := ⟨w.heap.size + 1 + 1 + 1, 0, none⟩) (by show _ ≤ w.heap.size + 1 + 1 + 1; omega) (.int .i64 (r.lo))) (p := ⟨w.heap.size + 1 + 1 + 1, 1, none⟩) (by show _ ≤ w.heap.size + 1 + 1 + 1; omega) (.int .i64 (r.hi))) (p := ⟨w.heap.size + 1 + 1 + 1, 2, none⟩) (by show _ ≤ w.heap.size + 1 + 1 + 1; omega) (.int .i64 (pr))
    obtain ⟨s0, s1, s2, s3, s4⟩ := R2.open3
    go_wp2_with fail
    refine bodyPost_ret (by simp [results, Try.results7, go_sem, s0, s1, s2]; try rfl) rfl ?_
    exact ⟨_, _, _, _, rfl, E.out.1, E.out.2, fun _ => VM.out, hB2⟩
  · have he1 : (r.er == 0) = false := by simpa using her
    have HER := Lib.hid her
    clear her
    generalize Wi.iv (c * c2) = pr at *
    obtain ⟨r0, r1, r2, r3, r4⟩ := R.open3
    have R2 := ((R.set_ 0 (.int .i64 (r.lo))).set_ 1 (.int .i64 (r.hi))).set_ 2 (.int .i64 (pr))
    simp only [List.setIfInBounds_toArray, List.set_cons_zero, List.set_cons_succ] at R2
    have hB2 := bst (bst (bst hB (p := ⟨w.heap.size + 1 + 1 + 1, 0, none⟩) (by show _ ≤ w.heap.size + 1 + 1 + 1; omega) (.int .i64 (r.lo))) (p := ⟨w.heap.size + 1 + 1 + 1, 1, none⟩) (by show _ ≤ w.heap.size + 1 + 1 + 1; omega) (.int .i64 (r.hi))) (p := ⟨w.heap.size + 1 + 1 + 1, 2, none⟩) (by show _ ≤ w.heap.size + 1 + 1 + 1; omega) (.int .i64 (pr))
    obtain ⟨s0, s1, s2, s3, s4⟩ := R2.open3
    go_wp2_with fail
    refine bodyPost_ret (by simp [results, Try.results7, go_sem, s0, s1, s2]; try rfl) rfl ?_
    exact ⟨_, _, _, _, rfl, E.out.1, E.out.2, fun h => absurd h HER.out, hB2⟩
end Go.Proofs.Ytgkbjkgafiojjaa
