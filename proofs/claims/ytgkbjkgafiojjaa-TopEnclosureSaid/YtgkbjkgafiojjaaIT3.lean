/-
  The walk of TopEnclosure.
-/
import Derived.Test.YtgkbjkgafiojjaaIT1
import Derived.Test.YtgkbjkgafiojjaaIT2
import Derived.Test.YtgkbjkgafiojjaaI1
import Derived.Test.YtgkbjkgafiojjaaInv
import Derived.Deep.DeepCutAuto
namespace Go.Proofs.Ytgkbjkgafiojjaa
set_option linter.unusedVariables false
set_option linter.unusedSimpArgs false
open Go.RowKit
attribute [local irreducible] World.setCell World.cell?

set_option maxRecDepth 100000 in
set_option maxHeartbeats 16000000 in
theorem law_enclosure (B : Option Addr) (l d : Nat) (N : Nat → Nat → Int) (w : World) (U : Rd w 4 B l d (tv N)) (hw0 : ∀ i, i < l → (0 ≤ N i 0 ∧ N i 0 ≤ 255) ∧ (-9223372036854775808 ≤ N i 1 ∧ N i 1 ≤ 9223372036854775807) ∧ (-9223372036854775808 ≤ N i 2 ∧ N i 2 ≤ 9223372036854775807) ∧ (0 ≤ N i 3 ∧ N i 3 ≤ 18446744073709551615)) : Calls Try.prog 3 #[.slice B l d] w fun e w' => e = .returned (.bool true) ∧ Below w.heap.size w w' := by
  have r1 := U.le
  have r2 := U.mx
  have hw := Lib.hid hw0
  clear hw0
  obtain ⟨i0, hi, hz0, hz1, hz2⟩ := te_info infoNC
  have HI := Lib.hid hi
  have HZ0 := Lib.hid hz0
  have HZ1 := Lib.hid hz1
  have HZ2 := Lib.hid hz2
  clear hi hz0 hz1 hz2
  have ea : Iv.add 0 1 2 3 = ⟨2, 4, 0⟩ := by unfold Iv.add; rw [if_pos (by unfold Iv.Vd; omega), Iv.rs_yes (by unfold Iv.Vd; omega)]; rfl
  go_enter Try.func3, Try.ntmps3
  try simp only [List.append_eq, List.cons_append, List.nil_append]
  go_wp2_with fail
  refine (add_ci 0 1 2 3 _).mono ?_
  rw [ea]
  rintro e w1 ⟨rfl, hB⟩
  clear ea
  replace hB := bal (bal hB (.cells #[.int .i64 2, .int .i64 4] 24)) (.cells #[] 33)
  go_wp2_with fail
  generalize World.alloc (World.alloc w1 _) _ = wA at hB ⊢
  go_loopw [5, 6] (fun s5 i_ wr => ∃ (j n c : Nat) (A : Option Addr) (K : Nat → Nat → Int), j ≤ l ∧ j ≤ 24 ∧ n ≤ j ∧ i_ = .int .i64 (j : Int) ∧ s5 = .slice A n c ∧ Rd wr 3 A n c (iv K) ∧ Hid (∀ i, i < n → Iv.Mem (K i 0) (K i 1) (K i 2)) ∧ Below w.heap.size w wr) (fun _ i_ _ => 24 - (intOf i_).toNat)
  case atStart => exact ⟨0, 0, 0, _, fun _ _ => 0, by omega, by omega, by omega, rfl, rfl, Rd.zero _ _ _ _, Lib.hid (fun i hi => absurd hi (by omega)), hB⟩
  case round =>
    clear hB
    obtain ⟨j, n, c, A, K, hj, hj24, hn, rfl, rfl, R, HK, hB⟩ := hrel
    by_cases hl1 : j < l
    rotate_left
    · have q1 : ¬ (j : Int) < (l : Int) := by omega
      go_wp2_with fail
      go_returns
      first | exact ⟨rfl, hB⟩ | exact hB
    by_cases hl2 : j < 24
    rotate_left
    · have q1 : (j : Int) < (l : Int) := by omega
      have q2 : ¬ (j : Int) < 24 := by omega
      go_wp2_with fail
      go_returns
      first | exact ⟨rfl, hB⟩ | exact hB
    have q1 : (j : Int) < (l : Int) := by omega
    have q2 : (j : Int) < 24 := by omega
    obtain ⟨b, off, eB, hbl, u0, u1, u2, u3⟩ := (U.keep hB).atT hl1
    have HU := Lib.hid eB
    rw [HU.out]
    clear eB
    have bw := hw.out j hl1
    generalize N j 0 = op at *
    generalize N j 1 = lo at *
    generalize N j 2 = hi at *
    generalize N j 3 = nn at *
    obtain ⟨⟨o1, o2⟩, ⟨l1, l2⟩, ⟨h1, h2⟩, n1, n2⟩ := bw
    have rl1 := R.le
    have rl2 := R.mx
    have hW := bal (ba wr (.cells #[.int .u8 op, .int .i64 lo, .int .i64 hi, .int .u64 nn] 31)) (.cells #[.int .i64 0, .int .i64 0, .int .i64 0] 33)
    have T := (Blk.new wr 31 #[.int .u8 op, .int .i64 lo, .int .i64 hi, .int .u64 nn]).alloc (.cells #[.int .i64 0, .int .i64 0, .int .i64 0] 33)
    have C := Blk.new1 wr (.cells #[.int .u8 op, .int .i64 lo, .int .i64 hi, .int .u64 nn] 31) 33 #[.int .i64 0, .int .i64 0, .int .i64 0]
    go_upto_region 10 with fail
    clear u0 u1 u2 u3
    generalize World.alloc (World.alloc wr _) _ = w2 at T C hW ⊢
    obtain ⟨t0, t1, t2, t3, t4, t5⟩ := T.open4
    obtain ⟨g0, g1, g2, g3, g4⟩ := C.open3
    by_cases c0 : op = 0
    · subst c0
      go_wp2_with fail
      refine (make_c lo hi _).mono ?_
      rintro e w3 ⟨rfl, hb⟩
      clear t0 t1 t2 t3 t4 t5 g0 g1 g2 g3 g4
      replace T := T.keep hb
      replace C := C.keep hb
      have HLC := Lib.hid C.lt
      replace hW := bt hW hb
      clear hb
      have E := Lib.hid (Iv.te_mk lo hi)
      by_cases her : (Iv.mk lo hi).er = 0
      rotate_left
      · have hz := E.out
        have XI := Blk.new w3 24 #[.int .i64 (Iv.mk lo hi).lo, .int .i64 (Iv.mk lo hi).hi]
        replace C := C.alloc (.cells #[.int .i64 (Iv.mk lo hi).lo, .int .i64 (Iv.mk lo hi).hi] 24)
        replace hW := bal hW (.cells #[.int .i64 (Iv.mk lo hi).lo, .int .i64 (Iv.mk lo hi).hi] 24)
        generalize (Iv.mk lo hi).er = er at *
        generalize (Iv.mk lo hi).lo = ml at *
        generalize (Iv.mk lo hi).hi = mh at *
        have he0 : (er == 0) = false := by simpa using her
        have he1 : (er != 0) = true := by simpa using her
        have he2 : (er != 8) = true := by simp; omega
        obtain ⟨y0, y1, y2, y3⟩ := XI.open2
        obtain ⟨g0, g1, g2, g3, g4⟩ := C.open3
        have hW2 := bst (bst hW (p := ⟨wr.heap.size + 1, 0, none⟩) (Nat.le_succ _) (.int .i64 ml)) (p := ⟨wr.heap.size + 1, 1, none⟩) (Nat.le_succ _) (.int .i64 mh)
        clear her
        go_wp2_with fail
        go_returns
        first | exact ⟨rfl, bt hB hW2⟩ | exact bt hB hW2
      obtain ⟨VV, em⟩ := Iv.te_mkok her
      rw [em]
      clear her E em
      obtain ⟨a_, ea, ha⟩ : ∃ a_, IntKind.u64.wrap lo = a_ ∧ Hid (a_ = lo % 18446744073709551616) := ⟨_, rfl, Lib.hid (by rw [IntKind.wrap_u64])⟩
      have vv := VV
      unfold Iv.Vd at vv
      have ew : Iv.wd lo hi = hi - lo := if_pos VV
      have f2 : IntKind.u64.wrap (hi - lo + 1) = hi - lo + 1 := IntWalk.u64_in _ (by omega)
      have nz : (hi - lo + 1 == 0) = false := by simp; omega
      have nz2 : ¬ hi - lo + 1 = 0 := by omega
      have MEM := Lib.hid (Iv.mem_pick (n := nn) VV n1)
      have m0 := Int.emod_nonneg nn (show hi - lo + 1 ≠ 0 by omega)
      have m1 := Int.emod_lt_of_pos nn (show 0 < hi - lo + 1 by omega)
      have f3 : nn.tmod (hi - lo + 1) = nn % (hi - lo + 1) := Int.tmod_eq_emod_of_nonneg n1
      obtain ⟨r, hm⟩ : ∃ r, nn % (hi - lo + 1) = r := ⟨_, rfl⟩
      rw [hm] at f3 MEM m0 m1
      obtain ⟨c_, f4, hc⟩ : ∃ c_, IntKind.u64.wrap (a_ + r) = c_ ∧ Hid (c_ = (a_ + r) % 18446744073709551616) := ⟨_, rfl, Lib.hid (by rw [IntKind.wrap_u64])⟩
      have f5 : IntKind.i64.wrap c_ = lo + r := by have := ha.out; have := hc.out; rw [IntKind.wrap_i64]; omega
      have KW := Lib.hid (fun W_ => width_c lo hi W_)
      rw [ew] at KW
      clear vv VV m0 m1 hm ew
      have XI := Blk.new w3 24 #[.int .i64 lo, .int .i64 hi]
      replace T := T.alloc (.cells #[.int .i64 lo, .int .i64 hi] 24)
      replace C := C.alloc (.cells #[.int .i64 lo, .int .i64 hi] 24)
      have hx3 : wr.heap.size + 1 < w3.heap.size := HLC.out
      replace hW := bal hW (.cells #[.int .i64 lo, .int .i64 hi] 24)
      go_upto_region 13 with fail
      generalize World.alloc w3 _ = w4 at XI T C hW ⊢
      generalize w3.heap.size = gx at XI hx3 ⊢
      obtain ⟨t0, t1, t2, t3, t4, t5⟩ := T.open4
      obtain ⟨g0, g1, g2, g3, g4⟩ := C.open3
      obtain ⟨y0, y1, y2, y3⟩ := XI.open2
      go_cut [] (fun wx => Below wr.heap.size wr wx ∧ Blk wx (wr.heap.size + 1) 33 #[.int .i64 0, .int .i64 0, .int .i64 (lo + r)] ∧ Blk wx gx 24 #[.int .i64 lo, .int .i64 hi])
      case first =>
        go_region_with (go_at_call 6; refine (KW.out _).mono ?_; rintro e wn ⟨rfl, hbn⟩; have C2 := Blk.keep (by first | exact C | exact C.drew) hbn; have T2 := Blk.keep (by first | exact T | exact T.drew) hbn; have X2 := Blk.keep (by first | exact XI | exact XI.drew) hbn; obtain ⟨z0, z1, z2, z3, z4⟩ := C2.open3; obtain ⟨p0, p1, p2, p3⟩ := X2.open2; obtain ⟨s0, s1, s2, s3, s4, s5⟩ := T2.open4)
        all_goals
          have hW3 : Below wr.heap.size wr wn := by first | exact bt (bdr hW) hbn | exact bt hW hbn
          have hW4 := bst hW3 (p := ⟨wr.heap.size + 1, 2, none⟩) (Nat.le_succ _) (.int .i64 (lo + r))
          have X4 := X2.far (p := ⟨wr.heap.size + 1, 2, none⟩) (by show gx ≠ wr.heap.size + 1; omega) (.int .i64 (lo + r))
          have C4 := C2.set_ 2 (.int .i64 (lo + r))
          simp only [List.setIfInBounds_toArray, List.set_cons_zero, List.set_cons_succ] at C4
          go_wp2_with fail
          go_meet
          exact ⟨hW4, C4, X4⟩
      case rest =>
        obtain ⟨hW2, C2, X2⟩ := hcut
        clear hW T C XI t0 t1 t2 t3 t4 t5 g0 g1 g2 g3 g4 y0 y1 y2 y3
        obtain ⟨y0, y1, y2, y3⟩ := X2.open2
        obtain ⟨g0, g1, g2, g3, g4⟩ := C2.open3
        have hW := bst (bst hW2 (p := ⟨wr.heap.size + 1, 0, none⟩) (Nat.le_succ _) (.int .i64 lo)) (p := ⟨wr.heap.size + 1, 1, none⟩) (Nat.le_succ _) (.int .i64 hi)
        have C := (C2.set_ 0 (.int .i64 lo)).set_ 1 (.int .i64 hi)
        simp only [List.setIfInBounds_toArray, List.set_cons_zero, List.set_cons_succ] at C
        go_upto_region 21 with fail
        clear y0 y1 y2 y3 g0 g1 g2 g3 g4 hW2 C2 X2
        generalize World.setCell (World.setCell _ _ _) _ _ = wS0 at hW C ⊢
        have RS := R.keep hW
        have HMK := HK
        have hzz := C.lt
        obtain ⟨g0, g1, g2, g3, g4⟩ := C.open3
        have MM := MEM
        have hs1 := MM.out.hs
        go_wp2_with fail
        refine (has_c (lo) (hi) (lo + r) _).mono ?_
        rw [hs1]
        rintro e wS2 ⟨rfl, hb⟩
        clear g0 g1 g2 g3 g4 hs1 hzz
        replace C := C.keep hb
        replace RS := RS.keep hb
        replace hW := bt hW hb
        clear hb
        generalize wS2 = wS at *
        go_upto_region 25 with fail
        refine wp_region_inv (fun L x G wx => Below wS.heap.size wS wx
              ∧ (L 0 → ¬ L 2 → Own wx wS.heap.size 33 3 (some ⟨G 0, 0, none⟩) 0 0 (iv (fun _ _ => 0)))
              ∧ (L 2 → ¬ L 5 → Own wx wS.heap.size 33 3 (oa (G 2)) (0 + n) (G 12) (iv K))
              ∧ (L 4 → ¬ L 5 → Blk wx (G 4) 33 #[.int .i64 (lo), .int .i64 (hi), .int .i64 (lo + r)])
              ∧ (L 0 → ¬ L 2 → L 4 → G 0 ≠ G 4)
              ∧ (L 5 → Own wx wS.heap.size 33 3 (oa (G 5)) (0 + n + 1) (G 15) (iv (push (0 + n) K (lo) (hi) (lo + r))))
              ∧ (L 5 → L 2)
              ∧ (L 2 → L 0)
              ∧ (L 6 → L 1 ∧ L 5)
              ∧ (¬ L 6 → x 5 = .slice A n c)
              ∧ (L 0 → x 132 = .slice (some ⟨G 0, 0, none⟩) 0 0)
              ∧ (L 1 → x 133 = .slice A n c)
              ∧ (L 2 → x 134 = .slice (oa (G 2)) (0 + n) (G 12))
              ∧ (L 3 → x 135 = .agg #[.int .i64 (lo), .int .i64 (hi), .int .i64 (lo + r)])
              ∧ (L 4 → x 136 = .slice (some ⟨G 4, 0, none⟩) 1 1)
              ∧ (L 5 → x 137 = .slice (oa (G 5)) (0 + n + 1) (G 15))
              ∧ (L 6 → x 5 = .slice (oa (G 5)) (0 + n + 1) (G 15))) [132, 133, 134, 135, 136, 137, 5] 7 (by kernel_rfl) (by kernel_rfl) (by kernel_rfl) ?h0 ?st ?fin
        case h0 => exact ⟨bdr (Below.refl _ _), fun q => q.elim, fun q => q.elim, fun q => q.elim, fun q => q.elim, fun q => q.elim, fun q => q.elim, fun q => q.elim, fun q => q.elim, fun _ => rfl, fun q => q.elim, fun q => q.elim, fun q => q.elim, fun q => q.elim, fun q => q.elim, fun q => q.elim, fun q => q.elim⟩
        case st =>
          refine StepsOk.cons (i := 0) rfl (fun L x G w1 K_ Q hn hp hJ hK => ?_) ?_
          · skip
            simp only [putAll, Act.put, List.setIfInBounds_toArray, List.set_cons_zero, List.set_cons_succ]
            go_simp
            refine hK _ (fun t => if t = 0 then w1.heap.size else G t) _ (by kernel_rfl) ?_
            exact ⟨bal (hJ.1) _,
              fun _ _ => te_empty _ _ _ _ _ (hJ.1).size,
              fun q => absurd ((hJ.2.2.2.2.2.2.2.1) (q.resolve_left (by decide))) hn,
              fun q n => Blk.alloc ((hJ.2.2.2.1) (q.resolve_left (by decide)) (fun m_ => n (.inr m_))) _,
              fun _ n r => Nat.ne_of_gt (Blk.lt ((hJ.2.2.2.1) (r.resolve_left (by decide)) (fun z => n (.inr ((hJ.2.2.2.2.2.2.1) z))))),
              fun q => Own.alloc ((hJ.2.2.2.2.2.1) (q.resolve_left (by decide))) _,
              fun q => .inr ((hJ.2.2.2.2.2.2.1) (q.resolve_left (by decide))),
              fun _ => .inl rfl,
              fun q => ⟨.inr ((hJ.2.2.2.2.2.2.2.2.1) (q.resolve_left (by decide))).1, .inr ((hJ.2.2.2.2.2.2.2.2.1) (q.resolve_left (by decide))).2⟩,
              fun n => (hJ.2.2.2.2.2.2.2.2.2.1) (fun m_ => n (.inr m_)),
              fun _ => rfl,
              fun q => (hJ.2.2.2.2.2.2.2.2.2.2.2.1) (q.resolve_left (by decide)),
              fun q => absurd ((hJ.2.2.2.2.2.2.2.1) (q.resolve_left (by decide))) hn,
              fun q => (hJ.2.2.2.2.2.2.2.2.2.2.2.2.2.1) (q.resolve_left (by decide)),
              fun q => (hJ.2.2.2.2.2.2.2.2.2.2.2.2.2.2.1) (q.resolve_left (by decide)),
              fun q => absurd ((hJ.2.2.2.2.2.2.2.1) ((hJ.2.2.2.2.2.2.1) (q.resolve_left (by decide)))) hn,
              fun q => absurd ((hJ.2.2.2.2.2.2.2.1) ((hJ.2.2.2.2.2.2.1) ((hJ.2.2.2.2.2.2.2.2.1) (q.resolve_left (by decide))).2)) hn⟩
          refine StepsOk.cons (i := 1) rfl (fun L x G w1 K_ Q hn hp hJ hK => ?_) ?_
          · skip
            have e50 := (hJ.2.2.2.2.2.2.2.2.2.1) (fun z => hn ((hJ.2.2.2.2.2.2.2.2.1) z).1)
            simp only [putAll, Act.put, List.setIfInBounds_toArray, List.set_cons_zero, List.set_cons_succ]
            go_simp
            refine hK _ G _ (by kernel_rfl) ?_
            exact ⟨(hJ.1),
              fun q n => (hJ.2.1) (q.resolve_left (by decide)) (fun m_ => n (.inr m_)),
              fun q n => (hJ.2.2.1) (q.resolve_left (by decide)) (fun m_ => n (.inr m_)),
              fun q n => (hJ.2.2.2.1) (q.resolve_left (by decide)) (fun m_ => n (.inr m_)),
              fun q n r => (hJ.2.2.2.2.1) (q.resolve_left (by decide)) (fun m_ => n (.inr m_)) (r.resolve_left (by decide)),
              fun q => (hJ.2.2.2.2.2.1) (q.resolve_left (by decide)),
              fun q => .inr ((hJ.2.2.2.2.2.2.1) (q.resolve_left (by decide))),
              fun q => .inr ((hJ.2.2.2.2.2.2.2.1) (q.resolve_left (by decide))),
              fun q => ⟨.inl rfl, .inr ((hJ.2.2.2.2.2.2.2.2.1) (q.resolve_left (by decide))).2⟩,
              fun n => by first | exact rfl | exact e50,
              fun q => (hJ.2.2.2.2.2.2.2.2.2.2.1) (q.resolve_left (by decide)),
              fun _ => rfl,
              fun q => (hJ.2.2.2.2.2.2.2.2.2.2.2.2.1) (q.resolve_left (by decide)),
              fun q => (hJ.2.2.2.2.2.2.2.2.2.2.2.2.2.1) (q.resolve_left (by decide)),
              fun q => (hJ.2.2.2.2.2.2.2.2.2.2.2.2.2.2.1) (q.resolve_left (by decide)),
              fun q => (hJ.2.2.2.2.2.2.2.2.2.2.2.2.2.2.2.1) (q.resolve_left (by decide)),
              fun q => absurd ((hJ.2.2.2.2.2.2.2.2.1) (q.resolve_left (by decide))).1 hn⟩
          refine StepsOk.cons (i := 2) rfl (fun L x G w1 K_ Q hn hp hJ hK => ?_) ?_
          · skip
            have p0 : L 0 := hp ⟨0, .data⟩ (by simp) rfl
            have e0 := (hJ.2.2.2.2.2.2.2.2.2.2.1) p0
            have p1 : L 1 := hp ⟨1, .data⟩ (by simp) rfl
            have e1 := (hJ.2.2.2.2.2.2.2.2.2.2.2.1) p1
            clear p1
            simp only [putAll, Act.put, List.setIfInBounds_toArray, List.set_cons_zero, List.set_cons_succ]
            simp only [e0, e1]
            have own0 := (hJ.2.1) p0 hn
            have src0 := Rd.keep RS (hJ.1)
            have hBs := (hJ.1).size
            refine wp_append_Rd _ _ _ 28 rfl wS.heap.size 33 i0 _ 3 24 Try.underlying28 HI.out HZ0.out HZ1.out HZ2.out rfl (by decide) rfl own0 rfl src0 (one_iv _) (by omega) (by omega) hBs ?_
            intro A9 c9 w2 own9 hg hob
            refine Exists.elim (oa_form own9) fun u9 hu => ?_
            subst hu
            simp only [Act.put, List.setIfInBounds_toArray, List.set_cons_zero, List.set_cons_succ]
            refine hK _ (fun t => if t = 2 then u9 else if t = 12 then c9 else G t) _ (by kernel_rfl) ?_
            exact ⟨(hJ.1).trans (below_grown hg (fun g h => te_base own0 h) hBs),
              fun _ n => absurd (.inl rfl) n,
              fun _ _ => own_first2 own9,
              fun q n => te_grown ((hJ.2.2.2.1) (q.resolve_left (by decide)) (fun m_ => n (.inr m_))) hg (fun z => (hJ.2.2.2.2.1) p0 hn (q.resolve_left (by decide)) (Option.some.inj z)),
              fun _ n _ => absurd (.inl rfl) n,
              fun q => absurd ((hJ.2.2.2.2.2.2.1) (q.resolve_left (by decide))) hn,
              fun _ => .inl rfl,
              fun _ => .inr p0,
              fun q => ⟨.inr ((hJ.2.2.2.2.2.2.2.2.1) (q.resolve_left (by decide))).1, .inr ((hJ.2.2.2.2.2.2.2.2.1) (q.resolve_left (by decide))).2⟩,
              fun n => (hJ.2.2.2.2.2.2.2.2.2.1) (fun m_ => n (.inr m_)),
              fun _ => by first | exact rfl | exact e0,
              fun _ => by first | exact rfl | exact e1,
              fun _ => rfl,
              fun q => (hJ.2.2.2.2.2.2.2.2.2.2.2.2.2.1) (q.resolve_left (by decide)),
              fun q => (hJ.2.2.2.2.2.2.2.2.2.2.2.2.2.2.1) (q.resolve_left (by decide)),
              fun q => absurd ((hJ.2.2.2.2.2.2.1) (q.resolve_left (by decide))) hn,
              fun q => absurd ((hJ.2.2.2.2.2.2.1) ((hJ.2.2.2.2.2.2.2.2.1) (q.resolve_left (by decide))).2) hn⟩
          refine StepsOk.cons (i := 3) rfl (fun L x G w1 K_ Q hn hp hJ hK => ?_) ?_
          · skip
            have hc := Blk.open3 (Blk.keep C (hJ.1))
            have c0_ := hc.1
            have c1_ := hc.2.1
            have c2_ := hc.2.2.1
            have c3_ := hc.2.2.2.1
            have c4_ := hc.2.2.2.2
            clear hc
            simp only [putAll, Act.put, List.setIfInBounds_toArray, List.set_cons_zero, List.set_cons_succ]
            go_simp
            refine hK _ G _ (by kernel_rfl) ?_
            exact ⟨(hJ.1),
              fun q n => (hJ.2.1) (q.resolve_left (by decide)) (fun m_ => n (.inr m_)),
              fun q n => (hJ.2.2.1) (q.resolve_left (by decide)) (fun m_ => n (.inr m_)),
              fun q n => (hJ.2.2.2.1) (q.resolve_left (by decide)) (fun m_ => n (.inr m_)),
              fun q n r => (hJ.2.2.2.2.1) (q.resolve_left (by decide)) (fun m_ => n (.inr m_)) (r.resolve_left (by decide)),
              fun q => (hJ.2.2.2.2.2.1) (q.resolve_left (by decide)),
              fun q => .inr ((hJ.2.2.2.2.2.2.1) (q.resolve_left (by decide))),
              fun q => .inr ((hJ.2.2.2.2.2.2.2.1) (q.resolve_left (by decide))),
              fun q => ⟨.inr ((hJ.2.2.2.2.2.2.2.2.1) (q.resolve_left (by decide))).1, .inr ((hJ.2.2.2.2.2.2.2.2.1) (q.resolve_left (by decide))).2⟩,
              fun n => (hJ.2.2.2.2.2.2.2.2.2.1) (fun m_ => n (.inr m_)),
              fun q => (hJ.2.2.2.2.2.2.2.2.2.2.1) (q.resolve_left (by decide)),
              fun q => (hJ.2.2.2.2.2.2.2.2.2.2.2.1) (q.resolve_left (by decide)),
              fun q => (hJ.2.2.2.2.2.2.2.2.2.2.2.2.1) (q.resolve_left (by decide)),
              fun _ => rfl,
              fun q => (hJ.2.2.2.2.2.2.2.2.2.2.2.2.2.2.1) (q.resolve_left (by decide)),
              fun q => (hJ.2.2.2.2.2.2.2.2.2.2.2.2.2.2.2.1) (q.resolve_left (by decide)),
              fun q => (hJ.2.2.2.2.2.2.2.2.2.2.2.2.2.2.2.2) (q.resolve_left (by decide))⟩
          refine StepsOk.cons (i := 4) rfl (fun L x G w1 K_ Q hn hp hJ hK => ?_) ?_
          · skip
            have p3 : L 3 := hp ⟨3, .data⟩ (by simp) rfl
            have e3 := (hJ.2.2.2.2.2.2.2.2.2.2.2.2.2.1) p3
            simp only [putAll, Act.put, List.setIfInBounds_toArray, List.set_cons_zero, List.set_cons_succ]
            go_simp
            refine hK _ (fun t => if t = 4 then w1.heap.size else G t) _ (by kernel_rfl) ?_
            exact ⟨bal (hJ.1) _,
              fun q n => Own.alloc ((hJ.2.1) (q.resolve_left (by decide)) (fun m_ => n (.inr m_))) _,
              fun q n => Own.alloc ((hJ.2.2.1) (q.resolve_left (by decide)) (fun m_ => n (.inr m_))) _,
              fun _ _ => Blk.new w1 _ _,
              fun q n _ => Nat.ne_of_lt (te_top ((hJ.2.1) (q.resolve_left (by decide)) (fun m_ => n (.inr m_))) rfl),
              fun q => Own.alloc ((hJ.2.2.2.2.2.1) (q.resolve_left (by decide))) _,
              fun q => .inr ((hJ.2.2.2.2.2.2.1) (q.resolve_left (by decide))),
              fun q => .inr ((hJ.2.2.2.2.2.2.2.1) (q.resolve_left (by decide))),
              fun q => ⟨.inr ((hJ.2.2.2.2.2.2.2.2.1) (q.resolve_left (by decide))).1, .inr ((hJ.2.2.2.2.2.2.2.2.1) (q.resolve_left (by decide))).2⟩,
              fun n => (hJ.2.2.2.2.2.2.2.2.2.1) (fun m_ => n (.inr m_)),
              fun q => (hJ.2.2.2.2.2.2.2.2.2.2.1) (q.resolve_left (by decide)),
              fun q => (hJ.2.2.2.2.2.2.2.2.2.2.2.1) (q.resolve_left (by decide)),
              fun q => (hJ.2.2.2.2.2.2.2.2.2.2.2.2.1) (q.resolve_left (by decide)),
              fun _ => by first | exact rfl | exact e3,
              fun _ => rfl,
              fun q => (hJ.2.2.2.2.2.2.2.2.2.2.2.2.2.2.2.1) (q.resolve_left (by decide)),
              fun q => (hJ.2.2.2.2.2.2.2.2.2.2.2.2.2.2.2.2) (q.resolve_left (by decide))⟩
          refine StepsOk.cons (i := 5) rfl (fun L x G w1 K_ Q hn hp hJ hK => ?_) ?_
          · skip
            have p2 : L 2 := hp ⟨2, .data⟩ (by simp) rfl
            have e2 := (hJ.2.2.2.2.2.2.2.2.2.2.2.2.1) p2
            have p4 : L 4 := hp ⟨4, .data⟩ (by simp) rfl
            have e4 := (hJ.2.2.2.2.2.2.2.2.2.2.2.2.2.2.1) p4
            simp only [putAll, Act.put, List.setIfInBounds_toArray, List.set_cons_zero, List.set_cons_succ]
            simp only [e2, e4]
            have own0 := (hJ.2.2.1) p2 hn
            have src0 := te_src ((hJ.2.2.2.1) p4 hn)
            have hBs := (hJ.1).size
            refine wp_append_Rd _ _ _ 28 rfl wS.heap.size 33 i0 _ 3 24 Try.underlying28 HI.out HZ0.out HZ1.out HZ2.out rfl (by decide) rfl own0 rfl src0 (one_iv _) (by omega) (by omega) hBs ?_
            intro A9 c9 w2 own9 hg hob
            refine Exists.elim (oa_form own9) fun u9 hu => ?_
            subst hu
            simp only [Act.put, List.setIfInBounds_toArray, List.set_cons_zero, List.set_cons_succ]
            refine hK _ (fun t => if t = 5 then u9 else if t = 15 then c9 else G t) _ (by kernel_rfl) ?_
            exact ⟨(hJ.1).trans (below_grown hg (fun g h => te_base own0 h) hBs),
              fun _ n => absurd (.inr p2) n,
              fun _ n => absurd (.inl rfl) n,
              fun _ n => absurd (.inl rfl) n,
              fun _ n _ => absurd (.inr p2) n,
              fun _ => own_push own9,
              fun _ => .inr p2,
              fun q => .inr ((hJ.2.2.2.2.2.2.2.1) (q.resolve_left (by decide))),
              fun q => ⟨.inr ((hJ.2.2.2.2.2.2.2.2.1) (q.resolve_left (by decide))).1, .inl rfl⟩,
              fun n => (hJ.2.2.2.2.2.2.2.2.2.1) (fun m_ => n (.inr m_)),
              fun q => (hJ.2.2.2.2.2.2.2.2.2.2.1) (q.resolve_left (by decide)),
              fun q => (hJ.2.2.2.2.2.2.2.2.2.2.2.1) (q.resolve_left (by decide)),
              fun _ => by first | exact rfl | exact e2,
              fun q => (hJ.2.2.2.2.2.2.2.2.2.2.2.2.2.1) (q.resolve_left (by decide)),
              fun _ => by first | exact rfl | exact e4,
              fun _ => rfl,
              fun q => absurd ((hJ.2.2.2.2.2.2.2.2.1) (q.resolve_left (by decide))).2 hn⟩
          refine StepsOk.cons (i := 6) rfl (fun L x G w1 K_ Q hn hp hJ hK => ?_) ?_
          · skip
            have p5 : L 5 := hp ⟨5, .data⟩ (by simp) rfl
            have e5 := (hJ.2.2.2.2.2.2.2.2.2.2.2.2.2.2.2.1) p5
            have p1 : L 1 := hp ⟨1, .phase⟩ (by simp) rfl
            simp only [putAll, Act.put, List.setIfInBounds_toArray, List.set_cons_zero, List.set_cons_succ]
            go_simp
            refine hK _ G _ (by kernel_rfl) ?_
            have z5 : (Value.slice (oa (G 5)) (n + 1) (G 15) : Value) = Value.slice (oa (G 5)) (0 + n + 1) (G 15) := by rw [Nat.zero_add]
            exact ⟨(hJ.1),
              fun q n => (hJ.2.1) (q.resolve_left (by decide)) (fun m_ => n (.inr m_)),
              fun q n => (hJ.2.2.1) (q.resolve_left (by decide)) (fun m_ => n (.inr m_)),
              fun q n => (hJ.2.2.2.1) (q.resolve_left (by decide)) (fun m_ => n (.inr m_)),
              fun q n r => (hJ.2.2.2.2.1) (q.resolve_left (by decide)) (fun m_ => n (.inr m_)) (r.resolve_left (by decide)),
              fun q => (hJ.2.2.2.2.2.1) (q.resolve_left (by decide)),
              fun q => .inr ((hJ.2.2.2.2.2.2.1) (q.resolve_left (by decide))),
              fun q => .inr ((hJ.2.2.2.2.2.2.2.1) (q.resolve_left (by decide))),
              fun _ => ⟨.inr p1, .inr p5⟩,
              fun n => absurd (.inl rfl) n,
              fun q => (hJ.2.2.2.2.2.2.2.2.2.2.1) (q.resolve_left (by decide)),
              fun q => (hJ.2.2.2.2.2.2.2.2.2.2.2.1) (q.resolve_left (by decide)),
              fun q => (hJ.2.2.2.2.2.2.2.2.2.2.2.2.1) (q.resolve_left (by decide)),
              fun q => (hJ.2.2.2.2.2.2.2.2.2.2.2.2.2.1) (q.resolve_left (by decide)),
              fun q => (hJ.2.2.2.2.2.2.2.2.2.2.2.2.2.2.1) (q.resolve_left (by decide)),
              fun _ => by first | exact z5 | exact rfl | exact e5,
              fun _ => by first | exact z5 | exact rfl | exact e5⟩
          exact StepsOk.nil
        case fin =>
          intro L x G wf hall hJ
          have hbf := hJ.1
          have of := hJ.2.2.2.2.2.1 (hall 5 (by decide))
          have y0 := hJ.2.2.2.2.2.2.2.2.2.2.1 (hall 0 (by decide))
          have y1 := hJ.2.2.2.2.2.2.2.2.2.2.2.1 (hall 1 (by decide))
          have y2 := hJ.2.2.2.2.2.2.2.2.2.2.2.2.1 (hall 2 (by decide))
          have y3 := hJ.2.2.2.2.2.2.2.2.2.2.2.2.2.1 (hall 3 (by decide))
          have y4 := hJ.2.2.2.2.2.2.2.2.2.2.2.2.2.2.1 (hall 4 (by decide))
          have y5 := hJ.2.2.2.2.2.2.2.2.2.2.2.2.2.2.2.1 (hall 5 (by decide))
          have y6 := hJ.2.2.2.2.2.2.2.2.2.2.2.2.2.2.2.2 (hall 6 (by decide))
          simp only [putAll, Act.put, List.setIfInBounds_toArray, List.set_cons_zero, List.set_cons_succ]
          simp only [y0, y1, y2, y3, y4, y5, y6]
          clear hall hJ y0 y1 y2 y3 y4 y5 y6
          rw [Nat.zero_add] at of ⊢
          generalize oa (G 5) = A9 at *
          generalize G 15 = c9 at *
          have R9 := of.rd
          have HN9 := Lib.hid (push_mem (HMK.out) MM.out)
          replace hW := bt hW hbf
          clear hbf of C RS
          go_wp2_with fail
          first
            | exact ⟨⟨j + 1, n + 1, c9, A9, _, by omega, by omega, by omega, by go_num, rfl, R9, HN9, bt hB hW⟩, by simp [intOf]; omega⟩
            | (rw [← HU.out]; go_roundw; case rel => exact ⟨j + 1, n + 1, c9, A9, _, by omega, by omega, by omega, by go_num, rfl, R9, HN9, bt hB hW⟩; case measure => simp [intOf]; omega)
    by_cases cb : op ≤ 3 ∧ 2 ≤ n
    · obtain ⟨c3, c2⟩ := cb
      have d0 : (op == 0) = false := by simpa using c0
      obtain ⟨m, rfl⟩ : ∃ m, n = m + 2 := ⟨n - 2, by omega⟩
      have d1 : (2 : Int) ≤ (m : Int) + 2 := by omega
      have m0 := HK.out m (by omega)
      have m1 := HK.out (m + 1) (by omega)
      obtain ⟨b1, f1, eA, hb1, x0, x1, x2⟩ := (R.keep hW).at3 (k := m) (by omega)
      obtain ⟨b2, f2, eA2, hb2, y0, y1, y2⟩ := (R.keep hW).at3 (k := m + 1) (by omega)
      rw [eA] at eA2
      injection eA2 with eA2
      injection eA2 with e1 e2
      subst e1 e2
      have HA := Lib.hid eA
      rw [HA.out]
      clear eA
      have i1 : (m : Int) + 2 - 2 = (m : Int) := by omega
      have i2 : (m : Int) + 2 - 1 = (m : Int) + 1 := by omega
      have i3 : (m : Int) < (m : Int) + 2 := by omega
      have i4 : (m : Int) + 1 < (m : Int) + 2 := by omega
      have i5 : (0 : Int) ≤ (m : Int) := by omega
      have i6 : (0 : Int) ≤ (m : Int) + 1 := by omega
      have i7 : (m : Int) ≤ (c : Int) := by omega
      have i8 : IntKind.i64.wrap (m : Int) = (m : Int) := IntWalk.i64_in _ (by omega)
      have i9 : IntKind.i64.wrap ((m : Int) + 1) = (m : Int) + 1 := IntWalk.i64_in _ (by omega)
      have M0 := Lib.hid m0
      have M1 := Lib.hid m1
      clear m0 m1
      go_upto_region 16 with fail
      go_cut [10] (fun s10 wx => ∃ a' b' c' er : Int, s10 = .int .i64 er ∧ 0 ≤ er ∧ er ≤ 2 ∧ (er = 0 → Iv.Mem a' b' c') ∧ Below wr.heap.size wr wx ∧ Blk wx wr.heap.size 31 #[.int .u8 op, .int .i64 lo, .int .i64 hi, .int .u64 nn] ∧ Blk wx (wr.heap.size + 1) 33 #[.int .i64 a', .int .i64 b', .int .i64 c'])
      case first =>
        go_region_with (go_at_call 7; refine (binary_c _ _ _ _ _ _ op lo hi nn _ M0.out M1.out ⟨by omega, c3⟩).mono ?_; rintro e wn ⟨a', b', c', er, rfl, e0, e1, e2, hbn⟩; have E3 := Lib.hid (And.intro e0 (And.intro e1 e2)); clear e0 e1 e2; have C2 := Blk.keep (by first | exact C | exact C.drew) hbn; have T2 := Blk.keep (by first | exact T | exact T.drew) hbn; obtain ⟨z0, z1, z2, z3, z4⟩ := C2.open3)
        all_goals
          have hW3 : Below wr.heap.size wr wn := by first | exact bt (bdr hW) hbn | exact bt hW hbn
          have hW4 := bst (bst (bst hW3 (p := ⟨wr.heap.size + 1, 0, none⟩) (Nat.le_succ _) (.int .i64 a')) (p := ⟨wr.heap.size + 1, 1, none⟩) (Nat.le_succ _) (.int .i64 b')) (p := ⟨wr.heap.size + 1, 2, none⟩) (Nat.le_succ _) (.int .i64 c')
          have T4 := ((T2.far (p := ⟨wr.heap.size + 1, 0, none⟩) (Nat.ne_of_lt (Nat.lt_succ_self _)) (.int .i64 a')).far (p := ⟨wr.heap.size + 1, 1, none⟩) (Nat.ne_of_lt (Nat.lt_succ_self _)) (.int .i64 b')).far (p := ⟨wr.heap.size + 1, 2, none⟩) (Nat.ne_of_lt (Nat.lt_succ_self _)) (.int .i64 c')
          have C4 := ((C2.set_ 0 (.int .i64 a')).set_ 1 (.int .i64 b')).set_ 2 (.int .i64 c')
          simp only [List.setIfInBounds_toArray, List.set_cons_zero, List.set_cons_succ] at C4
          go_wp2_with fail
          go_meet
          exact ⟨a', b', c', er, rfl, E3.out.1, E3.out.2.1, E3.out.2.2, hW4, T4, C4⟩
      case rest =>
        obtain ⟨a', b', c', er, rfl, e0, e1, hmem, hW2, T2, C2⟩ := hcut
        have MEM := Lib.hid hmem
        clear hmem hW T C
        have hW := hW2
        have C := C2
        have RS := (R.short (show m ≤ m + 2 by omega)).keep hW2
        rw [HA.out] at RS
        have HMK := Lib.hid (fun i (hi : i < m) => HK.out i (by omega))
        clear hW2 T2 C2 R
        have hc0 : ¬ c = 0 := by omega
        have hzz := C.lt
        obtain ⟨g0, g1, g2, g3, g4⟩ := C.open3
        by_cases her : er = 0
        rotate_left
        · have he1 : (er != 0) = true := by simpa using her
          have he2 : (er != 8) = true := by simp; omega
          clear her
          go_wp2_with fail
          go_returns
          first | exact ⟨rfl, bt hB hW⟩ | exact bt hB hW
        have MM := Lib.hid (MEM.out her)
        have hs1 := MM.out.hs
        subst her
        go_wp2_with fail
        refine (has_c (a') (b') (c') _).mono ?_
        rw [hs1]
        rintro e wS2 ⟨rfl, hb⟩
        clear g0 g1 g2 g3 g4 hs1 hzz
        replace C := C.keep hb
        replace RS := RS.keep hb
        replace hW := bt hW hb
        clear hb
        generalize wS2 = wS at *
        go_upto_region 25 with fail
        refine wp_region_inv (fun L x G wx => Below wS.heap.size wS wx
              ∧ (L 0 → ¬ L 2 → Own wx wS.heap.size 33 3 (some ⟨G 0, 0, none⟩) 0 0 (iv (fun _ _ => 0)))
              ∧ (L 2 → ¬ L 5 → Own wx wS.heap.size 33 3 (oa (G 2)) (0 + m) (G 12) (iv K))
              ∧ (L 4 → ¬ L 5 → Blk wx (G 4) 33 #[.int .i64 (a'), .int .i64 (b'), .int .i64 (c')])
              ∧ (L 0 → ¬ L 2 → L 4 → G 0 ≠ G 4)
              ∧ (L 5 → Own wx wS.heap.size 33 3 (oa (G 5)) (0 + m + 1) (G 15) (iv (push (0 + m) K (a') (b') (c'))))
              ∧ (L 5 → L 2)
              ∧ (L 2 → L 0)
              ∧ (L 6 → L 1 ∧ L 5)
              ∧ (¬ L 6 → x 5 = .slice (some ⟨b1, f1, none⟩) m c)
              ∧ (L 0 → x 132 = .slice (some ⟨G 0, 0, none⟩) 0 0)
              ∧ (L 1 → x 133 = .slice (some ⟨b1, f1, none⟩) m c)
              ∧ (L 2 → x 134 = .slice (oa (G 2)) (0 + m) (G 12))
              ∧ (L 3 → x 135 = .agg #[.int .i64 (a'), .int .i64 (b'), .int .i64 (c')])
              ∧ (L 4 → x 136 = .slice (some ⟨G 4, 0, none⟩) 1 1)
              ∧ (L 5 → x 137 = .slice (oa (G 5)) (0 + m + 1) (G 15))
              ∧ (L 6 → x 5 = .slice (oa (G 5)) (0 + m + 1) (G 15))) [132, 133, 134, 135, 136, 137, 5] 7 (by kernel_rfl) (by kernel_rfl) (by kernel_rfl) ?h0 ?st ?fin
        case h0 => exact ⟨bdr (Below.refl _ _), fun q => q.elim, fun q => q.elim, fun q => q.elim, fun q => q.elim, fun q => q.elim, fun q => q.elim, fun q => q.elim, fun q => q.elim, fun _ => rfl, fun q => q.elim, fun q => q.elim, fun q => q.elim, fun q => q.elim, fun q => q.elim, fun q => q.elim, fun q => q.elim⟩
        case st =>
          refine StepsOk.cons (i := 0) rfl (fun L x G w1 K_ Q hn hp hJ hK => ?_) ?_
          · skip
            simp only [putAll, Act.put, List.setIfInBounds_toArray, List.set_cons_zero, List.set_cons_succ]
            go_simp
            refine hK _ (fun t => if t = 0 then w1.heap.size else G t) _ (by kernel_rfl) ?_
            exact ⟨bal (hJ.1) _,
              fun _ _ => te_empty _ _ _ _ _ (hJ.1).size,
              fun q => absurd ((hJ.2.2.2.2.2.2.2.1) (q.resolve_left (by decide))) hn,
              fun q n => Blk.alloc ((hJ.2.2.2.1) (q.resolve_left (by decide)) (fun m_ => n (.inr m_))) _,
              fun _ n r => Nat.ne_of_gt (Blk.lt ((hJ.2.2.2.1) (r.resolve_left (by decide)) (fun z => n (.inr ((hJ.2.2.2.2.2.2.1) z))))),
              fun q => Own.alloc ((hJ.2.2.2.2.2.1) (q.resolve_left (by decide))) _,
              fun q => .inr ((hJ.2.2.2.2.2.2.1) (q.resolve_left (by decide))),
              fun _ => .inl rfl,
              fun q => ⟨.inr ((hJ.2.2.2.2.2.2.2.2.1) (q.resolve_left (by decide))).1, .inr ((hJ.2.2.2.2.2.2.2.2.1) (q.resolve_left (by decide))).2⟩,
              fun n => (hJ.2.2.2.2.2.2.2.2.2.1) (fun m_ => n (.inr m_)),
              fun _ => rfl,
              fun q => (hJ.2.2.2.2.2.2.2.2.2.2.2.1) (q.resolve_left (by decide)),
              fun q => absurd ((hJ.2.2.2.2.2.2.2.1) (q.resolve_left (by decide))) hn,
              fun q => (hJ.2.2.2.2.2.2.2.2.2.2.2.2.2.1) (q.resolve_left (by decide)),
              fun q => (hJ.2.2.2.2.2.2.2.2.2.2.2.2.2.2.1) (q.resolve_left (by decide)),
              fun q => absurd ((hJ.2.2.2.2.2.2.2.1) ((hJ.2.2.2.2.2.2.1) (q.resolve_left (by decide)))) hn,
              fun q => absurd ((hJ.2.2.2.2.2.2.2.1) ((hJ.2.2.2.2.2.2.1) ((hJ.2.2.2.2.2.2.2.2.1) (q.resolve_left (by decide))).2)) hn⟩
          refine StepsOk.cons (i := 1) rfl (fun L x G w1 K_ Q hn hp hJ hK => ?_) ?_
          · skip
            have e50 := (hJ.2.2.2.2.2.2.2.2.2.1) (fun z => hn ((hJ.2.2.2.2.2.2.2.2.1) z).1)
            simp only [putAll, Act.put, List.setIfInBounds_toArray, List.set_cons_zero, List.set_cons_succ]
            go_simp
            refine hK _ G _ (by kernel_rfl) ?_
            exact ⟨(hJ.1),
              fun q n => (hJ.2.1) (q.resolve_left (by decide)) (fun m_ => n (.inr m_)),
              fun q n => (hJ.2.2.1) (q.resolve_left (by decide)) (fun m_ => n (.inr m_)),
              fun q n => (hJ.2.2.2.1) (q.resolve_left (by decide)) (fun m_ => n (.inr m_)),
              fun q n r => (hJ.2.2.2.2.1) (q.resolve_left (by decide)) (fun m_ => n (.inr m_)) (r.resolve_left (by decide)),
              fun q => (hJ.2.2.2.2.2.1) (q.resolve_left (by decide)),
              fun q => .inr ((hJ.2.2.2.2.2.2.1) (q.resolve_left (by decide))),
              fun q => .inr ((hJ.2.2.2.2.2.2.2.1) (q.resolve_left (by decide))),
              fun q => ⟨.inl rfl, .inr ((hJ.2.2.2.2.2.2.2.2.1) (q.resolve_left (by decide))).2⟩,
              fun n => by first | exact rfl | exact e50,
              fun q => (hJ.2.2.2.2.2.2.2.2.2.2.1) (q.resolve_left (by decide)),
              fun _ => rfl,
              fun q => (hJ.2.2.2.2.2.2.2.2.2.2.2.2.1) (q.resolve_left (by decide)),
              fun q => (hJ.2.2.2.2.2.2.2.2.2.2.2.2.2.1) (q.resolve_left (by decide)),
              fun q => (hJ.2.2.2.2.2.2.2.2.2.2.2.2.2.2.1) (q.resolve_left (by decide)),
              fun q => (hJ.2.2.2.2.2.2.2.2.2.2.2.2.2.2.2.1) (q.resolve_left (by decide)),
              fun q => absurd ((hJ.2.2.2.2.2.2.2.2.1) (q.resolve_left (by decide))).1 hn⟩
          refine StepsOk.cons (i := 2) rfl (fun L x G w1 K_ Q hn hp hJ hK => ?_) ?_
          · skip
            have p0 : L 0 := hp ⟨0, .data⟩ (by simp) rfl
            have e0 := (hJ.2.2.2.2.2.2.2.2.2.2.1) p0
            have p1 : L 1 := hp ⟨1, .data⟩ (by simp) rfl
            have e1 := (hJ.2.2.2.2.2.2.2.2.2.2.2.1) p1
            clear p1
            simp only [putAll, Act.put, List.setIfInBounds_toArray, List.set_cons_zero, List.set_cons_succ]
            simp only [e0, e1]
            have own0 := (hJ.2.1) p0 hn
            have src0 := Rd.keep RS (hJ.1)
            have hBs := (hJ.1).size
            refine wp_append_Rd _ _ _ 28 rfl wS.heap.size 33 i0 _ 3 24 Try.underlying28 HI.out HZ0.out HZ1.out HZ2.out rfl (by decide) rfl own0 rfl src0 (one_iv _) (by omega) (by omega) hBs ?_
            intro A9 c9 w2 own9 hg hob
            refine Exists.elim (oa_form own9) fun u9 hu => ?_
            subst hu
            simp only [Act.put, List.setIfInBounds_toArray, List.set_cons_zero, List.set_cons_succ]
            refine hK _ (fun t => if t = 2 then u9 else if t = 12 then c9 else G t) _ (by kernel_rfl) ?_
            exact ⟨(hJ.1).trans (below_grown hg (fun g h => te_base own0 h) hBs),
              fun _ n => absurd (.inl rfl) n,
              fun _ _ => own_first2 own9,
              fun q n => te_grown ((hJ.2.2.2.1) (q.resolve_left (by decide)) (fun m_ => n (.inr m_))) hg (fun z => (hJ.2.2.2.2.1) p0 hn (q.resolve_left (by decide)) (Option.some.inj z)),
              fun _ n _ => absurd (.inl rfl) n,
              fun q => absurd ((hJ.2.2.2.2.2.2.1) (q.resolve_left (by decide))) hn,
              fun _ => .inl rfl,
              fun _ => .inr p0,
              fun q => ⟨.inr ((hJ.2.2.2.2.2.2.2.2.1) (q.resolve_left (by decide))).1, .inr ((hJ.2.2.2.2.2.2.2.2.1) (q.resolve_left (by decide))).2⟩,
              fun n => (hJ.2.2.2.2.2.2.2.2.2.1) (fun m_ => n (.inr m_)),
              fun _ => by first | exact rfl | exact e0,
              fun _ => by first | exact rfl | exact e1,
              fun _ => rfl,
              fun q => (hJ.2.2.2.2.2.2.2.2.2.2.2.2.2.1) (q.resolve_left (by decide)),
              fun q => (hJ.2.2.2.2.2.2.2.2.2.2.2.2.2.2.1) (q.resolve_left (by decide)),
              fun q => absurd ((hJ.2.2.2.2.2.2.1) (q.resolve_left (by decide))) hn,
              fun q => absurd ((hJ.2.2.2.2.2.2.1) ((hJ.2.2.2.2.2.2.2.2.1) (q.resolve_left (by decide))).2) hn⟩
          refine StepsOk.cons (i := 3) rfl (fun L x G w1 K_ Q hn hp hJ hK => ?_) ?_
          · skip
            have hc := Blk.open3 (Blk.keep C (hJ.1))
            have c0_ := hc.1
            have c1_ := hc.2.1
            have c2_ := hc.2.2.1
            have c3_ := hc.2.2.2.1
            have c4_ := hc.2.2.2.2
            clear hc
            simp only [putAll, Act.put, List.setIfInBounds_toArray, List.set_cons_zero, List.set_cons_succ]
            go_simp
            refine hK _ G _ (by kernel_rfl) ?_
            exact ⟨(hJ.1),
              fun q n => (hJ.2.1) (q.resolve_left (by decide)) (fun m_ => n (.inr m_)),
              fun q n => (hJ.2.2.1) (q.resolve_left (by decide)) (fun m_ => n (.inr m_)),
              fun q n => (hJ.2.2.2.1) (q.resolve_left (by decide)) (fun m_ => n (.inr m_)),
              fun q n r => (hJ.2.2.2.2.1) (q.resolve_left (by decide)) (fun m_ => n (.inr m_)) (r.resolve_left (by decide)),
              fun q => (hJ.2.2.2.2.2.1) (q.resolve_left (by decide)),
              fun q => .inr ((hJ.2.2.2.2.2.2.1) (q.resolve_left (by decide))),
              fun q => .inr ((hJ.2.2.2.2.2.2.2.1) (q.resolve_left (by decide))),
              fun q => ⟨.inr ((hJ.2.2.2.2.2.2.2.2.1) (q.resolve_left (by decide))).1, .inr ((hJ.2.2.2.2.2.2.2.2.1) (q.resolve_left (by decide))).2⟩,
              fun n => (hJ.2.2.2.2.2.2.2.2.2.1) (fun m_ => n (.inr m_)),
              fun q => (hJ.2.2.2.2.2.2.2.2.2.2.1) (q.resolve_left (by decide)),
              fun q => (hJ.2.2.2.2.2.2.2.2.2.2.2.1) (q.resolve_left (by decide)),
              fun q => (hJ.2.2.2.2.2.2.2.2.2.2.2.2.1) (q.resolve_left (by decide)),
              fun _ => rfl,
              fun q => (hJ.2.2.2.2.2.2.2.2.2.2.2.2.2.2.1) (q.resolve_left (by decide)),
              fun q => (hJ.2.2.2.2.2.2.2.2.2.2.2.2.2.2.2.1) (q.resolve_left (by decide)),
              fun q => (hJ.2.2.2.2.2.2.2.2.2.2.2.2.2.2.2.2) (q.resolve_left (by decide))⟩
          refine StepsOk.cons (i := 4) rfl (fun L x G w1 K_ Q hn hp hJ hK => ?_) ?_
          · skip
            have p3 : L 3 := hp ⟨3, .data⟩ (by simp) rfl
            have e3 := (hJ.2.2.2.2.2.2.2.2.2.2.2.2.2.1) p3
            simp only [putAll, Act.put, List.setIfInBounds_toArray, List.set_cons_zero, List.set_cons_succ]
            go_simp
            refine hK _ (fun t => if t = 4 then w1.heap.size else G t) _ (by kernel_rfl) ?_
            exact ⟨bal (hJ.1) _,
              fun q n => Own.alloc ((hJ.2.1) (q.resolve_left (by decide)) (fun m_ => n (.inr m_))) _,
              fun q n => Own.alloc ((hJ.2.2.1) (q.resolve_left (by decide)) (fun m_ => n (.inr m_))) _,
              fun _ _ => Blk.new w1 _ _,
              fun q n _ => Nat.ne_of_lt (te_top ((hJ.2.1) (q.resolve_left (by decide)) (fun m_ => n (.inr m_))) rfl),
              fun q => Own.alloc ((hJ.2.2.2.2.2.1) (q.resolve_left (by decide))) _,
              fun q => .inr ((hJ.2.2.2.2.2.2.1) (q.resolve_left (by decide))),
              fun q => .inr ((hJ.2.2.2.2.2.2.2.1) (q.resolve_left (by decide))),
              fun q => ⟨.inr ((hJ.2.2.2.2.2.2.2.2.1) (q.resolve_left (by decide))).1, .inr ((hJ.2.2.2.2.2.2.2.2.1) (q.resolve_left (by decide))).2⟩,
              fun n => (hJ.2.2.2.2.2.2.2.2.2.1) (fun m_ => n (.inr m_)),
              fun q => (hJ.2.2.2.2.2.2.2.2.2.2.1) (q.resolve_left (by decide)),
              fun q => (hJ.2.2.2.2.2.2.2.2.2.2.2.1) (q.resolve_left (by decide)),
              fun q => (hJ.2.2.2.2.2.2.2.2.2.2.2.2.1) (q.resolve_left (by decide)),
              fun _ => by first | exact rfl | exact e3,
              fun _ => rfl,
              fun q => (hJ.2.2.2.2.2.2.2.2.2.2.2.2.2.2.2.1) (q.resolve_left (by decide)),
              fun q => (hJ.2.2.2.2.2.2.2.2.2.2.2.2.2.2.2.2) (q.resolve_left (by decide))⟩
          refine StepsOk.cons (i := 5) rfl (fun L x G w1 K_ Q hn hp hJ hK => ?_) ?_
          · skip
            have p2 : L 2 := hp ⟨2, .data⟩ (by simp) rfl
            have e2 := (hJ.2.2.2.2.2.2.2.2.2.2.2.2.1) p2
            have p4 : L 4 := hp ⟨4, .data⟩ (by simp) rfl
            have e4 := (hJ.2.2.2.2.2.2.2.2.2.2.2.2.2.2.1) p4
            simp only [putAll, Act.put, List.setIfInBounds_toArray, List.set_cons_zero, List.set_cons_succ]
            simp only [e2, e4]
            have own0 := (hJ.2.2.1) p2 hn
            have src0 := te_src ((hJ.2.2.2.1) p4 hn)
            have hBs := (hJ.1).size
            refine wp_append_Rd _ _ _ 28 rfl wS.heap.size 33 i0 _ 3 24 Try.underlying28 HI.out HZ0.out HZ1.out HZ2.out rfl (by decide) rfl own0 rfl src0 (one_iv _) (by omega) (by omega) hBs ?_
            intro A9 c9 w2 own9 hg hob
            refine Exists.elim (oa_form own9) fun u9 hu => ?_
            subst hu
            simp only [Act.put, List.setIfInBounds_toArray, List.set_cons_zero, List.set_cons_succ]
            refine hK _ (fun t => if t = 5 then u9 else if t = 15 then c9 else G t) _ (by kernel_rfl) ?_
            exact ⟨(hJ.1).trans (below_grown hg (fun g h => te_base own0 h) hBs),
              fun _ n => absurd (.inr p2) n,
              fun _ n => absurd (.inl rfl) n,
              fun _ n => absurd (.inl rfl) n,
              fun _ n _ => absurd (.inr p2) n,
              fun _ => own_push own9,
              fun _ => .inr p2,
              fun q => .inr ((hJ.2.2.2.2.2.2.2.1) (q.resolve_left (by decide))),
              fun q => ⟨.inr ((hJ.2.2.2.2.2.2.2.2.1) (q.resolve_left (by decide))).1, .inl rfl⟩,
              fun n => (hJ.2.2.2.2.2.2.2.2.2.1) (fun m_ => n (.inr m_)),
              fun q => (hJ.2.2.2.2.2.2.2.2.2.2.1) (q.resolve_left (by decide)),
              fun q => (hJ.2.2.2.2.2.2.2.2.2.2.2.1) (q.resolve_left (by decide)),
              fun _ => by first | exact rfl | exact e2,
              fun q => (hJ.2.2.2.2.2.2.2.2.2.2.2.2.2.1) (q.resolve_left (by decide)),
              fun _ => by first | exact rfl | exact e4,
              fun _ => rfl,
              fun q => absurd ((hJ.2.2.2.2.2.2.2.2.1) (q.resolve_left (by decide))).2 hn⟩
          refine StepsOk.cons (i := 6) rfl (fun L x G w1 K_ Q hn hp hJ hK => ?_) ?_
          · skip
            have p5 : L 5 := hp ⟨5, .data⟩ (by simp) rfl
            have e5 := (hJ.2.2.2.2.2.2.2.2.2.2.2.2.2.2.2.1) p5
            have p1 : L 1 := hp ⟨1, .phase⟩ (by simp) rfl
            simp only [putAll, Act.put, List.setIfInBounds_toArray, List.set_cons_zero, List.set_cons_succ]
            go_simp
            refine hK _ G _ (by kernel_rfl) ?_
            have z5 : (Value.slice (oa (G 5)) (m + 1) (G 15) : Value) = Value.slice (oa (G 5)) (0 + m + 1) (G 15) := by rw [Nat.zero_add]
            exact ⟨(hJ.1),
              fun q n => (hJ.2.1) (q.resolve_left (by decide)) (fun m_ => n (.inr m_)),
              fun q n => (hJ.2.2.1) (q.resolve_left (by decide)) (fun m_ => n (.inr m_)),
              fun q n => (hJ.2.2.2.1) (q.resolve_left (by decide)) (fun m_ => n (.inr m_)),
              fun q n r => (hJ.2.2.2.2.1) (q.resolve_left (by decide)) (fun m_ => n (.inr m_)) (r.resolve_left (by decide)),
              fun q => (hJ.2.2.2.2.2.1) (q.resolve_left (by decide)),
              fun q => .inr ((hJ.2.2.2.2.2.2.1) (q.resolve_left (by decide))),
              fun q => .inr ((hJ.2.2.2.2.2.2.2.1) (q.resolve_left (by decide))),
              fun _ => ⟨.inr p1, .inr p5⟩,
              fun n => absurd (.inl rfl) n,
              fun q => (hJ.2.2.2.2.2.2.2.2.2.2.1) (q.resolve_left (by decide)),
              fun q => (hJ.2.2.2.2.2.2.2.2.2.2.2.1) (q.resolve_left (by decide)),
              fun q => (hJ.2.2.2.2.2.2.2.2.2.2.2.2.1) (q.resolve_left (by decide)),
              fun q => (hJ.2.2.2.2.2.2.2.2.2.2.2.2.2.1) (q.resolve_left (by decide)),
              fun q => (hJ.2.2.2.2.2.2.2.2.2.2.2.2.2.2.1) (q.resolve_left (by decide)),
              fun _ => by first | exact z5 | exact rfl | exact e5,
              fun _ => by first | exact z5 | exact rfl | exact e5⟩
          exact StepsOk.nil
        case fin =>
          intro L x G wf hall hJ
          have hbf := hJ.1
          have of := hJ.2.2.2.2.2.1 (hall 5 (by decide))
          have y0 := hJ.2.2.2.2.2.2.2.2.2.2.1 (hall 0 (by decide))
          have y1 := hJ.2.2.2.2.2.2.2.2.2.2.2.1 (hall 1 (by decide))
          have y2 := hJ.2.2.2.2.2.2.2.2.2.2.2.2.1 (hall 2 (by decide))
          have y3 := hJ.2.2.2.2.2.2.2.2.2.2.2.2.2.1 (hall 3 (by decide))
          have y4 := hJ.2.2.2.2.2.2.2.2.2.2.2.2.2.2.1 (hall 4 (by decide))
          have y5 := hJ.2.2.2.2.2.2.2.2.2.2.2.2.2.2.2.1 (hall 5 (by decide))
          have y6 := hJ.2.2.2.2.2.2.2.2.2.2.2.2.2.2.2.2 (hall 6 (by decide))
          simp only [putAll, Act.put, List.setIfInBounds_toArray, List.set_cons_zero, List.set_cons_succ]
          simp only [y0, y1, y2, y3, y4, y5, y6]
          clear hall hJ y0 y1 y2 y3 y4 y5 y6
          rw [Nat.zero_add] at of ⊢
          generalize oa (G 5) = A9 at *
          generalize G 15 = c9 at *
          have R9 := of.rd
          have HN9 := Lib.hid (push_mem (HMK.out) MM.out)
          replace hW := bt hW hbf
          clear hbf of C RS
          go_wp2_with fail
          first
            | exact ⟨⟨j + 1, m + 1, c9, A9, _, by omega, by omega, by omega, by go_num, rfl, R9, HN9, bt hB hW⟩, by simp [intOf]; omega⟩
            | (rw [← HU.out]; go_roundw; case rel => exact ⟨j + 1, m + 1, c9, A9, _, by omega, by omega, by omega, by go_num, rfl, R9, HN9, bt hB hW⟩; case measure => simp [intOf]; omega)
    by_cases c3 : op ≤ 3
    · have d0 : (op == 0) = false := by simpa using c0
      have d3 : decide (op ≤ 3) = true := decide_eq_true c3
      have d1 : decide ((2 : Int) ≤ (n : Int)) = false := decide_eq_false (by omega)
      have d2 : ¬ (2 : Int) ≤ (n : Int) := by omega
      have d4 : decide ((4 : Int) ≤ op) = false := decide_eq_false (by omega)
      have d5 : ¬ (4 : Int) ≤ op := by omega
      go_wp2_with fail
      first
        | exact ⟨⟨j + 1, n, c, A, K, by omega, by omega, by omega, by go_num, rfl, R.keep hW, HK, bt hB hW⟩, by simp [intOf]; omega⟩
        | (rw [← HU.out]; go_roundw; case rel => exact ⟨j + 1, n, c, A, K, by omega, by omega, by omega, by go_num, rfl, R.keep hW, HK, bt hB hW⟩; case measure => simp [intOf]; omega)
    by_cases c6 : op ≤ 6
    rotate_left
    · have d0 : (op == 0) = false := by simpa using c0
      have d3 : decide (op ≤ 3) = false := decide_eq_false c3
      have d4 : decide ((4 : Int) ≤ op) = true := decide_eq_true (by omega)
      have d6 : decide (op ≤ 6) = false := decide_eq_false c6
      have d5 : (4 : Int) ≤ op := by omega
      go_wp2_with fail
      first
        | exact ⟨⟨j + 1, n, c, A, K, by omega, by omega, by omega, by go_num, rfl, R.keep hW, HK, bt hB hW⟩, by simp [intOf]; omega⟩
        | (rw [← HU.out]; go_roundw; case rel => exact ⟨j + 1, n, c, A, K, by omega, by omega, by omega, by go_num, rfl, R.keep hW, HK, bt hB hW⟩; case measure => simp [intOf]; omega)
    by_cases c1 : 1 ≤ n
    rotate_left
    · have d0 : (op == 0) = false := by simpa using c0
      have d3 : decide (op ≤ 3) = false := decide_eq_false c3
      have d4 : decide ((4 : Int) ≤ op) = true := decide_eq_true (by omega)
      have d5 : (4 : Int) ≤ op := by omega
      have d6 : decide (op ≤ 6) = true := decide_eq_true c6
      have d1 : decide ((1 : Int) ≤ (n : Int)) = false := decide_eq_false (by omega)
      have d2 : ¬ (1 : Int) ≤ (n : Int) := by omega
      go_wp2_with fail
      first
        | exact ⟨⟨j + 1, n, c, A, K, by omega, by omega, by omega, by go_num, rfl, R.keep hW, HK, bt hB hW⟩, by simp [intOf]; omega⟩
        | (rw [← HU.out]; go_roundw; case rel => exact ⟨j + 1, n, c, A, K, by omega, by omega, by omega, by go_num, rfl, R.keep hW, HK, bt hB hW⟩; case measure => simp [intOf]; omega)
    have d0 : (op == 0) = false := by simpa using c0
    have d3 : decide (op ≤ 3) = false := decide_eq_false c3
    have d4 : decide ((4 : Int) ≤ op) = true := decide_eq_true (by omega)
    have d5 : (4 : Int) ≤ op := by omega
    have d6 : decide (op ≤ 6) = true := decide_eq_true c6
    obtain ⟨m, rfl⟩ : ∃ m, n = m + 1 := ⟨n - 1, by omega⟩
    have d1 : (1 : Int) ≤ (m : Int) + 1 := by omega
    have m0 := HK.out m (by omega)
    obtain ⟨b1, f1, eA, hb1, x0, x1, x2⟩ := (R.keep hW).at3 (k := m) (by omega)
    have HA := Lib.hid eA
    rw [HA.out]
    clear eA
    have i1 : (m : Int) + 1 - 1 = (m : Int) := by omega
    have i3 : (m : Int) < (m : Int) + 1 := by omega
    have i5 : (0 : Int) ≤ (m : Int) := by omega
    have i7 : (m : Int) ≤ (c : Int) := by omega
    have i8 : IntKind.i64.wrap (m : Int) = (m : Int) := IntWalk.i64_in _ (by omega)
    have M0 := Lib.hid m0
    clear m0
    go_upto_region 19 with fail
    go_cut [10] (fun s10 wx => ∃ a' b' c' er : Int, s10 = .int .i64 er ∧ 0 ≤ er ∧ er ≤ 2 ∧ (er = 0 → Iv.Mem a' b' c') ∧ Below wr.heap.size wr wx ∧ Blk wx wr.heap.size 31 #[.int .u8 op, .int .i64 lo, .int .i64 hi, .int .u64 nn] ∧ Blk wx (wr.heap.size + 1) 33 #[.int .i64 a', .int .i64 b', .int .i64 c'])
    case first =>
      go_region_with (go_at_call 8; refine (unary_c _ _ _ op lo hi nn _ M0.out ⟨n1, n2⟩).mono ?_; rintro e wn ⟨a', b', c', er, rfl, e0, e1, e2, hbn⟩; have E3 := Lib.hid (And.intro e0 (And.intro e1 e2)); clear e0 e1 e2; have C2 := Blk.keep (by first | exact C | exact C.drew) hbn; have T2 := Blk.keep (by first | exact T | exact T.drew) hbn; obtain ⟨z0, z1, z2, z3, z4⟩ := C2.open3)
      all_goals
        have hW3 : Below wr.heap.size wr wn := by first | exact bt (bdr hW) hbn | exact bt hW hbn
        have hW4 := bst (bst (bst hW3 (p := ⟨wr.heap.size + 1, 0, none⟩) (Nat.le_succ _) (.int .i64 a')) (p := ⟨wr.heap.size + 1, 1, none⟩) (Nat.le_succ _) (.int .i64 b')) (p := ⟨wr.heap.size + 1, 2, none⟩) (Nat.le_succ _) (.int .i64 c')
        have T4 := ((T2.far (p := ⟨wr.heap.size + 1, 0, none⟩) (Nat.ne_of_lt (Nat.lt_succ_self _)) (.int .i64 a')).far (p := ⟨wr.heap.size + 1, 1, none⟩) (Nat.ne_of_lt (Nat.lt_succ_self _)) (.int .i64 b')).far (p := ⟨wr.heap.size + 1, 2, none⟩) (Nat.ne_of_lt (Nat.lt_succ_self _)) (.int .i64 c')
        have C4 := ((C2.set_ 0 (.int .i64 a')).set_ 1 (.int .i64 b')).set_ 2 (.int .i64 c')
        simp only [List.setIfInBounds_toArray, List.set_cons_zero, List.set_cons_succ] at C4
        go_wp2_with fail
        go_meet
        exact ⟨a', b', c', er, rfl, E3.out.1, E3.out.2.1, E3.out.2.2, hW4, T4, C4⟩
    case rest =>
      obtain ⟨a', b', c', er, rfl, e0, e1, hmem, hW2, T2, C2⟩ := hcut
      have MEM := Lib.hid hmem
      clear hmem hW T C
      have hW := hW2
      have C := C2
      have RS := (R.short (show m ≤ m + 1 by omega)).keep hW2
      rw [HA.out] at RS
      have HMK := Lib.hid (fun i (hi : i < m) => HK.out i (by omega))
      clear hW2 T2 C2 R
      have hc0 : ¬ c = 0 := by omega
      have hzz := C.lt
      obtain ⟨g0, g1, g2, g3, g4⟩ := C.open3
      by_cases her : er = 0
      rotate_left
      · have he1 : (er != 0) = true := by simpa using her
        have he2 : (er != 8) = true := by simp; omega
        clear her
        go_wp2_with fail
        go_returns
        first | exact ⟨rfl, bt hB hW⟩ | exact bt hB hW
      have MM := Lib.hid (MEM.out her)
      have hs1 := MM.out.hs
      subst her
      go_wp2_with fail
      refine (has_c (a') (b') (c') _).mono ?_
      rw [hs1]
      rintro e wS2 ⟨rfl, hb⟩
      clear g0 g1 g2 g3 g4 hs1 hzz
      replace C := C.keep hb
      replace RS := RS.keep hb
      replace hW := bt hW hb
      clear hb
      generalize wS2 = wS at *
      go_upto_region 25 with fail
      refine wp_region_inv (fun L x G wx => Below wS.heap.size wS wx
            ∧ (L 0 → ¬ L 2 → Own wx wS.heap.size 33 3 (some ⟨G 0, 0, none⟩) 0 0 (iv (fun _ _ => 0)))
            ∧ (L 2 → ¬ L 5 → Own wx wS.heap.size 33 3 (oa (G 2)) (0 + m) (G 12) (iv K))
            ∧ (L 4 → ¬ L 5 → Blk wx (G 4) 33 #[.int .i64 (a'), .int .i64 (b'), .int .i64 (c')])
            ∧ (L 0 → ¬ L 2 → L 4 → G 0 ≠ G 4)
            ∧ (L 5 → Own wx wS.heap.size 33 3 (oa (G 5)) (0 + m + 1) (G 15) (iv (push (0 + m) K (a') (b') (c'))))
            ∧ (L 5 → L 2)
            ∧ (L 2 → L 0)
            ∧ (L 6 → L 1 ∧ L 5)
            ∧ (¬ L 6 → x 5 = .slice (some ⟨b1, f1, none⟩) m c)
            ∧ (L 0 → x 132 = .slice (some ⟨G 0, 0, none⟩) 0 0)
            ∧ (L 1 → x 133 = .slice (some ⟨b1, f1, none⟩) m c)
            ∧ (L 2 → x 134 = .slice (oa (G 2)) (0 + m) (G 12))
            ∧ (L 3 → x 135 = .agg #[.int .i64 (a'), .int .i64 (b'), .int .i64 (c')])
            ∧ (L 4 → x 136 = .slice (some ⟨G 4, 0, none⟩) 1 1)
            ∧ (L 5 → x 137 = .slice (oa (G 5)) (0 + m + 1) (G 15))
            ∧ (L 6 → x 5 = .slice (oa (G 5)) (0 + m + 1) (G 15))) [132, 133, 134, 135, 136, 137, 5] 7 (by kernel_rfl) (by kernel_rfl) (by kernel_rfl) ?h0 ?st ?fin
      case h0 => exact ⟨bdr (Below.refl _ _), fun q => q.elim, fun q => q.elim, fun q => q.elim, fun q => q.elim, fun q => q.elim, fun q => q.elim, fun q => q.elim, fun q => q.elim, fun _ => rfl, fun q => q.elim, fun q => q.elim, fun q => q.elim, fun q => q.elim, fun q => q.elim, fun q => q.elim, fun q => q.elim⟩
      case st =>
        refine StepsOk.cons (i := 0) rfl (fun L x G w1 K_ Q hn hp hJ hK => ?_) ?_
        · skip
          simp only [putAll, Act.put, List.setIfInBounds_toArray, List.set_cons_zero, List.set_cons_succ]
          go_simp
          refine hK _ (fun t => if t = 0 then w1.heap.size else G t) _ (by kernel_rfl) ?_
          exact ⟨bal (hJ.1) _,
            fun _ _ => te_empty _ _ _ _ _ (hJ.1).size,
            fun q => absurd ((hJ.2.2.2.2.2.2.2.1) (q.resolve_left (by decide))) hn,
            fun q n => Blk.alloc ((hJ.2.2.2.1) (q.resolve_left (by decide)) (fun m_ => n (.inr m_))) _,
            fun _ n r => Nat.ne_of_gt (Blk.lt ((hJ.2.2.2.1) (r.resolve_left (by decide)) (fun z => n (.inr ((hJ.2.2.2.2.2.2.1) z))))),
            fun q => Own.alloc ((hJ.2.2.2.2.2.1) (q.resolve_left (by decide))) _,
            fun q => .inr ((hJ.2.2.2.2.2.2.1) (q.resolve_left (by decide))),
            fun _ => .inl rfl,
            fun q => ⟨.inr ((hJ.2.2.2.2.2.2.2.2.1) (q.resolve_left (by decide))).1, .inr ((hJ.2.2.2.2.2.2.2.2.1) (q.resolve_left (by decide))).2⟩,
            fun n => (hJ.2.2.2.2.2.2.2.2.2.1) (fun m_ => n (.inr m_)),
            fun _ => rfl,
            fun q => (hJ.2.2.2.2.2.2.2.2.2.2.2.1) (q.resolve_left (by decide)),
            fun q => absurd ((hJ.2.2.2.2.2.2.2.1) (q.resolve_left (by decide))) hn,
            fun q => (hJ.2.2.2.2.2.2.2.2.2.2.2.2.2.1) (q.resolve_left (by decide)),
            fun q => (hJ.2.2.2.2.2.2.2.2.2.2.2.2.2.2.1) (q.resolve_left (by decide)),
            fun q => absurd ((hJ.2.2.2.2.2.2.2.1) ((hJ.2.2.2.2.2.2.1) (q.resolve_left (by decide)))) hn,
            fun q => absurd ((hJ.2.2.2.2.2.2.2.1) ((hJ.2.2.2.2.2.2.1) ((hJ.2.2.2.2.2.2.2.2.1) (q.resolve_left (by decide))).2)) hn⟩
        refine StepsOk.cons (i := 1) rfl (fun L x G w1 K_ Q hn hp hJ hK => ?_) ?_
        · skip
          have e50 := (hJ.2.2.2.2.2.2.2.2.2.1) (fun z => hn ((hJ.2.2.2.2.2.2.2.2.1) z).1)
          simp only [putAll, Act.put, List.setIfInBounds_toArray, List.set_cons_zero, List.set_cons_succ]
          go_simp
          refine hK _ G _ (by kernel_rfl) ?_
          exact ⟨(hJ.1),
            fun q n => (hJ.2.1) (q.resolve_left (by decide)) (fun m_ => n (.inr m_)),
            fun q n => (hJ.2.2.1) (q.resolve_left (by decide)) (fun m_ => n (.inr m_)),
            fun q n => (hJ.2.2.2.1) (q.resolve_left (by decide)) (fun m_ => n (.inr m_)),
            fun q n r => (hJ.2.2.2.2.1) (q.resolve_left (by decide)) (fun m_ => n (.inr m_)) (r.resolve_left (by decide)),
            fun q => (hJ.2.2.2.2.2.1) (q.resolve_left (by decide)),
            fun q => .inr ((hJ.2.2.2.2.2.2.1) (q.resolve_left (by decide))),
            fun q => .inr ((hJ.2.2.2.2.2.2.2.1) (q.resolve_left (by decide))),
            fun q => ⟨.inl rfl, .inr ((hJ.2.2.2.2.2.2.2.2.1) (q.resolve_left (by decide))).2⟩,
            fun n => by first | exact rfl | exact e50,
            fun q => (hJ.2.2.2.2.2.2.2.2.2.2.1) (q.resolve_left (by decide)),
            fun _ => rfl,
            fun q => (hJ.2.2.2.2.2.2.2.2.2.2.2.2.1) (q.resolve_left (by decide)),
            fun q => (hJ.2.2.2.2.2.2.2.2.2.2.2.2.2.1) (q.resolve_left (by decide)),
            fun q => (hJ.2.2.2.2.2.2.2.2.2.2.2.2.2.2.1) (q.resolve_left (by decide)),
            fun q => (hJ.2.2.2.2.2.2.2.2.2.2.2.2.2.2.2.1) (q.resolve_left (by decide)),
            fun q => absurd ((hJ.2.2.2.2.2.2.2.2.1) (q.resolve_left (by decide))).1 hn⟩
        refine StepsOk.cons (i := 2) rfl (fun L x G w1 K_ Q hn hp hJ hK => ?_) ?_
        · skip
          have p0 : L 0 := hp ⟨0, .data⟩ (by simp) rfl
          have e0 := (hJ.2.2.2.2.2.2.2.2.2.2.1) p0
          have p1 : L 1 := hp ⟨1, .data⟩ (by simp) rfl
          have e1 := (hJ.2.2.2.2.2.2.2.2.2.2.2.1) p1
          clear p1
          simp only [putAll, Act.put, List.setIfInBounds_toArray, List.set_cons_zero, List.set_cons_succ]
          simp only [e0, e1]
          have own0 := (hJ.2.1) p0 hn
          have src0 := Rd.keep RS (hJ.1)
          have hBs := (hJ.1).size
          refine wp_append_Rd _ _ _ 28 rfl wS.heap.size 33 i0 _ 3 24 Try.underlying28 HI.out HZ0.out HZ1.out HZ2.out rfl (by decide) rfl own0 rfl src0 (one_iv _) (by omega) (by omega) hBs ?_
          intro A9 c9 w2 own9 hg hob
          refine Exists.elim (oa_form own9) fun u9 hu => ?_
          subst hu
          simp only [Act.put, List.setIfInBounds_toArray, List.set_cons_zero, List.set_cons_succ]
          refine hK _ (fun t => if t = 2 then u9 else if t = 12 then c9 else G t) _ (by kernel_rfl) ?_
          exact ⟨(hJ.1).trans (below_grown hg (fun g h => te_base own0 h) hBs),
            fun _ n => absurd (.inl rfl) n,
            fun _ _ => own_first2 own9,
            fun q n => te_grown ((hJ.2.2.2.1) (q.resolve_left (by decide)) (fun m_ => n (.inr m_))) hg (fun z => (hJ.2.2.2.2.1) p0 hn (q.resolve_left (by decide)) (Option.some.inj z)),
            fun _ n _ => absurd (.inl rfl) n,
            fun q => absurd ((hJ.2.2.2.2.2.2.1) (q.resolve_left (by decide))) hn,
            fun _ => .inl rfl,
            fun _ => .inr p0,
            fun q => ⟨.inr ((hJ.2.2.2.2.2.2.2.2.1) (q.resolve_left (by decide))).1, .inr ((hJ.2.2.2.2.2.2.2.2.1) (q.resolve_left (by decide))).2⟩,
            fun n => (hJ.2.2.2.2.2.2.2.2.2.1) (fun m_ => n (.inr m_)),
            fun _ => by first | exact rfl | exact e0,
            fun _ => by first | exact rfl | exact e1,
            fun _ => rfl,
            fun q => (hJ.2.2.2.2.2.2.2.2.2.2.2.2.2.1) (q.resolve_left (by decide)),
            fun q => (hJ.2.2.2.2.2.2.2.2.2.2.2.2.2.2.1) (q.resolve_left (by decide)),
            fun q => absurd ((hJ.2.2.2.2.2.2.1) (q.resolve_left (by decide))) hn,
            fun q => absurd ((hJ.2.2.2.2.2.2.1) ((hJ.2.2.2.2.2.2.2.2.1) (q.resolve_left (by decide))).2) hn⟩
        refine StepsOk.cons (i := 3) rfl (fun L x G w1 K_ Q hn hp hJ hK => ?_) ?_
        · skip
          have hc := Blk.open3 (Blk.keep C (hJ.1))
          have c0_ := hc.1
          have c1_ := hc.2.1
          have c2_ := hc.2.2.1
          have c3_ := hc.2.2.2.1
          have c4_ := hc.2.2.2.2
          clear hc
          simp only [putAll, Act.put, List.setIfInBounds_toArray, List.set_cons_zero, List.set_cons_succ]
          go_simp
          refine hK _ G _ (by kernel_rfl) ?_
          exact ⟨(hJ.1),
            fun q n => (hJ.2.1) (q.resolve_left (by decide)) (fun m_ => n (.inr m_)),
            fun q n => (hJ.2.2.1) (q.resolve_left (by decide)) (fun m_ => n (.inr m_)),
            fun q n => (hJ.2.2.2.1) (q.resolve_left (by decide)) (fun m_ => n (.inr m_)),
            fun q n r => (hJ.2.2.2.2.1) (q.resolve_left (by decide)) (fun m_ => n (.inr m_)) (r.resolve_left (by decide)),
            fun q => (hJ.2.2.2.2.2.1) (q.resolve_left (by decide)),
            fun q => .inr ((hJ.2.2.2.2.2.2.1) (q.resolve_left (by decide))),
            fun q => .inr ((hJ.2.2.2.2.2.2.2.1) (q.resolve_left (by decide))),
            fun q => ⟨.inr ((hJ.2.2.2.2.2.2.2.2.1) (q.resolve_left (by decide))).1, .inr ((hJ.2.2.2.2.2.2.2.2.1) (q.resolve_left (by decide))).2⟩,
            fun n => (hJ.2.2.2.2.2.2.2.2.2.1) (fun m_ => n (.inr m_)),
            fun q => (hJ.2.2.2.2.2.2.2.2.2.2.1) (q.resolve_left (by decide)),
            fun q => (hJ.2.2.2.2.2.2.2.2.2.2.2.1) (q.resolve_left (by decide)),
            fun q => (hJ.2.2.2.2.2.2.2.2.2.2.2.2.1) (q.resolve_left (by decide)),
            fun _ => rfl,
            fun q => (hJ.2.2.2.2.2.2.2.2.2.2.2.2.2.2.1) (q.resolve_left (by decide)),
            fun q => (hJ.2.2.2.2.2.2.2.2.2.2.2.2.2.2.2.1) (q.resolve_left (by decide)),
            fun q => (hJ.2.2.2.2.2.2.2.2.2.2.2.2.2.2.2.2) (q.resolve_left (by decide))⟩
        refine StepsOk.cons (i := 4) rfl (fun L x G w1 K_ Q hn hp hJ hK => ?_) ?_
        · skip
          have p3 : L 3 := hp ⟨3, .data⟩ (by simp) rfl
          have e3 := (hJ.2.2.2.2.2.2.2.2.2.2.2.2.2.1) p3
          simp only [putAll, Act.put, List.setIfInBounds_toArray, List.set_cons_zero, List.set_cons_succ]
          go_simp
          refine hK _ (fun t => if t = 4 then w1.heap.size else G t) _ (by kernel_rfl) ?_
          exact ⟨bal (hJ.1) _,
            fun q n => Own.alloc ((hJ.2.1) (q.resolve_left (by decide)) (fun m_ => n (.inr m_))) _,
            fun q n => Own.alloc ((hJ.2.2.1) (q.resolve_left (by decide)) (fun m_ => n (.inr m_))) _,
            fun _ _ => Blk.new w1 _ _,
            fun q n _ => Nat.ne_of_lt (te_top ((hJ.2.1) (q.resolve_left (by decide)) (fun m_ => n (.inr m_))) rfl),
            fun q => Own.alloc ((hJ.2.2.2.2.2.1) (q.resolve_left (by decide))) _,
            fun q => .inr ((hJ.2.2.2.2.2.2.1) (q.resolve_left (by decide))),
            fun q => .inr ((hJ.2.2.2.2.2.2.2.1) (q.resolve_left (by decide))),
            fun q => ⟨.inr ((hJ.2.2.2.2.2.2.2.2.1) (q.resolve_left (by decide))).1, .inr ((hJ.2.2.2.2.2.2.2.2.1) (q.resolve_left (by decide))).2⟩,
            fun n => (hJ.2.2.2.2.2.2.2.2.2.1) (fun m_ => n (.inr m_)),
            fun q => (hJ.2.2.2.2.2.2.2.2.2.2.1) (q.resolve_left (by decide)),
            fun q => (hJ.2.2.2.2.2.2.2.2.2.2.2.1) (q.resolve_left (by decide)),
            fun q => (hJ.2.2.2.2.2.2.2.2.2.2.2.2.1) (q.resolve_left (by decide)),
            fun _ => by first | exact rfl | exact e3,
            fun _ => rfl,
            fun q => (hJ.2.2.2.2.2.2.2.2.2.2.2.2.2.2.2.1) (q.resolve_left (by decide)),
            fun q => (hJ.2.2.2.2.2.2.2.2.2.2.2.2.2.2.2.2) (q.resolve_left (by decide))⟩
        refine StepsOk.cons (i := 5) rfl (fun L x G w1 K_ Q hn hp hJ hK => ?_) ?_
        · skip
          have p2 : L 2 := hp ⟨2, .data⟩ (by simp) rfl
          have e2 := (hJ.2.2.2.2.2.2.2.2.2.2.2.2.1) p2
          have p4 : L 4 := hp ⟨4, .data⟩ (by simp) rfl
          have e4 := (hJ.2.2.2.2.2.2.2.2.2.2.2.2.2.2.1) p4
          simp only [putAll, Act.put, List.setIfInBounds_toArray, List.set_cons_zero, List.set_cons_succ]
          simp only [e2, e4]
          have own0 := (hJ.2.2.1) p2 hn
          have src0 := te_src ((hJ.2.2.2.1) p4 hn)
          have hBs := (hJ.1).size
          refine wp_append_Rd _ _ _ 28 rfl wS.heap.size 33 i0 _ 3 24 Try.underlying28 HI.out HZ0.out HZ1.out HZ2.out rfl (by decide) rfl own0 rfl src0 (one_iv _) (by omega) (by omega) hBs ?_
          intro A9 c9 w2 own9 hg hob
          refine Exists.elim (oa_form own9) fun u9 hu => ?_
          subst hu
          simp only [Act.put, List.setIfInBounds_toArray, List.set_cons_zero, List.set_cons_succ]
          refine hK _ (fun t => if t = 5 then u9 else if t = 15 then c9 else G t) _ (by kernel_rfl) ?_
          exact ⟨(hJ.1).trans (below_grown hg (fun g h => te_base own0 h) hBs),
            fun _ n => absurd (.inr p2) n,
            fun _ n => absurd (.inl rfl) n,
            fun _ n => absurd (.inl rfl) n,
            fun _ n _ => absurd (.inr p2) n,
            fun _ => own_push own9,
            fun _ => .inr p2,
            fun q => .inr ((hJ.2.2.2.2.2.2.2.1) (q.resolve_left (by decide))),
            fun q => ⟨.inr ((hJ.2.2.2.2.2.2.2.2.1) (q.resolve_left (by decide))).1, .inl rfl⟩,
            fun n => (hJ.2.2.2.2.2.2.2.2.2.1) (fun m_ => n (.inr m_)),
            fun q => (hJ.2.2.2.2.2.2.2.2.2.2.1) (q.resolve_left (by decide)),
            fun q => (hJ.2.2.2.2.2.2.2.2.2.2.2.1) (q.resolve_left (by decide)),
            fun _ => by first | exact rfl | exact e2,
            fun q => (hJ.2.2.2.2.2.2.2.2.2.2.2.2.2.1) (q.resolve_left (by decide)),
            fun _ => by first | exact rfl | exact e4,
            fun _ => rfl,
            fun q => absurd ((hJ.2.2.2.2.2.2.2.2.1) (q.resolve_left (by decide))).2 hn⟩
        refine StepsOk.cons (i := 6) rfl (fun L x G w1 K_ Q hn hp hJ hK => ?_) ?_
        · skip
          have p5 : L 5 := hp ⟨5, .data⟩ (by simp) rfl
          have e5 := (hJ.2.2.2.2.2.2.2.2.2.2.2.2.2.2.2.1) p5
          have p1 : L 1 := hp ⟨1, .phase⟩ (by simp) rfl
          simp only [putAll, Act.put, List.setIfInBounds_toArray, List.set_cons_zero, List.set_cons_succ]
          go_simp
          refine hK _ G _ (by kernel_rfl) ?_
          have z5 : (Value.slice (oa (G 5)) (m + 1) (G 15) : Value) = Value.slice (oa (G 5)) (0 + m + 1) (G 15) := by rw [Nat.zero_add]
          exact ⟨(hJ.1),
            fun q n => (hJ.2.1) (q.resolve_left (by decide)) (fun m_ => n (.inr m_)),
            fun q n => (hJ.2.2.1) (q.resolve_left (by decide)) (fun m_ => n (.inr m_)),
            fun q n => (hJ.2.2.2.1) (q.resolve_left (by decide)) (fun m_ => n (.inr m_)),
            fun q n r => (hJ.2.2.2.2.1) (q.resolve_left (by decide)) (fun m_ => n (.inr m_)) (r.resolve_left (by decide)),
            fun q => (hJ.2.2.2.2.2.1) (q.resolve_left (by decide)),
            fun q => .inr ((hJ.2.2.2.2.2.2.1) (q.resolve_left (by decide))),
            fun q => .inr ((hJ.2.2.2.2.2.2.2.1) (q.resolve_left (by decide))),
            fun _ => ⟨.inr p1, .inr p5⟩,
            fun n => absurd (.inl rfl) n,
            fun q => (hJ.2.2.2.2.2.2.2.2.2.2.1) (q.resolve_left (by decide)),
            fun q => (hJ.2.2.2.2.2.2.2.2.2.2.2.1) (q.resolve_left (by decide)),
            fun q => (hJ.2.2.2.2.2.2.2.2.2.2.2.2.1) (q.resolve_left (by decide)),
            fun q => (hJ.2.2.2.2.2.2.2.2.2.2.2.2.2.1) (q.resolve_left (by decide)),
            fun q => (hJ.2.2.2.2.2.2.2.2.2.2.2.2.2.2.1) (q.resolve_left (by decide)),
            fun _ => by first | exact z5 | exact rfl | exact e5,
            fun _ => by first | exact z5 | exact rfl | exact e5⟩
        exact StepsOk.nil
      case fin =>
        intro L x G wf hall hJ
        have hbf := hJ.1
        have of := hJ.2.2.2.2.2.1 (hall 5 (by decide))
        have y0 := hJ.2.2.2.2.2.2.2.2.2.2.1 (hall 0 (by decide))
        have y1 := hJ.2.2.2.2.2.2.2.2.2.2.2.1 (hall 1 (by decide))
        have y2 := hJ.2.2.2.2.2.2.2.2.2.2.2.2.1 (hall 2 (by decide))
        have y3 := hJ.2.2.2.2.2.2.2.2.2.2.2.2.2.1 (hall 3 (by decide))
        have y4 := hJ.2.2.2.2.2.2.2.2.2.2.2.2.2.2.1 (hall 4 (by decide))
        have y5 := hJ.2.2.2.2.2.2.2.2.2.2.2.2.2.2.2.1 (hall 5 (by decide))
        have y6 := hJ.2.2.2.2.2.2.2.2.2.2.2.2.2.2.2.2 (hall 6 (by decide))
        simp only [putAll, Act.put, List.setIfInBounds_toArray, List.set_cons_zero, List.set_cons_succ]
        simp only [y0, y1, y2, y3, y4, y5, y6]
        clear hall hJ y0 y1 y2 y3 y4 y5 y6
        rw [Nat.zero_add] at of ⊢
        generalize oa (G 5) = A9 at *
        generalize G 15 = c9 at *
        have R9 := of.rd
        have HN9 := Lib.hid (push_mem (HMK.out) MM.out)
        replace hW := bt hW hbf
        clear hbf of C RS
        go_wp2_with fail
        first
          | exact ⟨⟨j + 1, m + 1, c9, A9, _, by omega, by omega, by omega, by go_num, rfl, R9, HN9, bt hB hW⟩, by simp [intOf]; omega⟩
          | (rw [← HU.out]; go_roundw; case rel => exact ⟨j + 1, m + 1, c9, A9, _, by omega, by omega, by omega, by go_num, rfl, R9, HN9, bt hB hW⟩; case measure => simp [intOf]; omega)
end Go.Proofs.Ytgkbjkgafiojjaa
