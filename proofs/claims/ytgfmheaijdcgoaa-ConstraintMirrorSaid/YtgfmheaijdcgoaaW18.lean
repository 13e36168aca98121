/-
  The walk of ConstraintSmallest.
-/
import Derived.Test.YtgfmheaijdcgoaaW17
namespace Go.Proofs.Ytgfmheaijdcgoaa
set_option linter.unusedVariables false
set_option linter.unusedSimpArgs false
open Go.RowKit

theorem mk_wins (n : Nat) (hn : n ≤ 8796093022207) : ∀ W : World, (Instr.makeSlice 22 (.int .i64 (n : Int)) (.int .i64 (n : Int))).run Try.prog W = .ok (.slice (some ⟨W.heap.size, 0, none⟩) n n) (W.alloc (.cells (madeCells #[.int .i64 0, .int .i64 0] (n * 2)) 44)) := by
  obtain ⟨i0, hi, hz0, hz1, hz2⟩ := info_parts infoW
  exact fun W => run_make_n (P := Try.prog) Try.underlying22 hi hz0 hz1 hz2 n (by omega) (by omega) W
theorem own_wins (w : World) (base n : Nat) (hn : n ≤ 8796093022207) (hb : base ≤ w.heap.size) : Own (w.alloc (.cells (madeCells #[.int .i64 0, .int .i64 0] (n * 2)) 44)) base 44 2 (some ⟨w.heap.size, 0, none⟩) n n (iv fun _ _ => 0) :=
  Own.made (z := #[.int .i64 0, .int .i64 0]) (q := 2) (V := iv fun _ _ => 0) w 44 n rfl (by omega) (by omega) hb fun i j hi hj => by
    match j, hj with
    | 0, _ => rfl
    | 1, _ => rfl
/-- Free windows as far as they are laid. -/
def frK (k : Nat) : Nat → Nat → Int := fun a f => if a < k then Co.frN a f else 0

set_option maxRecDepth 100000 in
set_option maxHeartbeats 4000000 in
theorem law_smallest (A B : Option Addr) (n c m d : Nat) (N S : Nat → Nat → Int) (w : World) (R : Rd w 2 A n c (iv N)) (T : Rd w 2 B m d (iv S)) :
    Calls Try.prog 8 #[.slice A n c, .slice B m d] w fun e w' => e = .returned (.bool true) ∧ Below w.heap.size w w' := by
  by_cases hgo : Co.ck n N m S = 0 ∧ Co.cB n N S = true
  rotate_left
  · have hno : (Co.ck n N m S ≠ 0) ∨ (Co.ck n N m S = 0 ∧ Co.cB n N S = false) := by
      by_cases h : Co.ck n N m S = 0
      · right; refine ⟨h, ?_⟩
        cases q : Co.cB n N S
        · rfl
        · exact absurd ⟨h, q⟩ hgo
      · exact .inl h
    obtain ⟨f1, f2, f3⟩ := Co.f_no hno
    clear hgo
    rcases hno with h | ⟨h, _⟩
    · have h3 : (Co.ck n N m S != 0) = true := by simpa using h
      clear h
      go_enter Try.func8, Try.ntmps8
      go_wp2_with fail
      refine (awake_c _).mono ?_
      rintro e w1 ⟨rfl, h1⟩
      go_wp2_with fail
      refine (conflicts_c _ _ _ _ _ _ _ _ _ (R.keep h1) (T.keep h1)).mono ?_
      rw [f1, f2, f3]
      rintro e w2 ⟨rfl, h2⟩
      go_wp2_with fail
      go_returns
      exact ⟨rfl, bal (bt h1 h2) _⟩
    · have H0 := Lib.hid h
      clear h
      go_enter Try.func8, Try.ntmps8
      go_wp2_with fail
      refine (awake_c _).mono ?_
      rintro e w1 ⟨rfl, h1⟩
      go_wp2_with fail
      refine (conflicts_c _ _ _ _ _ _ _ _ _ (R.keep h1) (T.keep h1)).mono ?_
      rw [f1, f2, f3, H0.out]
      rintro e w2 ⟨rfl, h2⟩
      go_wp2_with fail
      go_returns
      exact ⟨rfl, bal (bt h1 h2) _⟩
  obtain ⟨hck, hcb⟩ := hgo
  have O := Co.ck_ok.1 hck
  have hn := O.hn
  obtain ⟨f1, f2, f3⟩ := Co.f_yes hck hcb
  obtain ⟨i, j, hij, hj, hx, hI, hJ⟩ := Co.cB_true hcb
  rw [hI] at f2
  rw [hJ] at f3
  have H0 := Lib.hid hck
  have F1 := Lib.hid f1
  have F2 := Lib.hid f2
  have F3 := Lib.hid f3
  obtain ⟨t1, t2, t3, t4⟩ := Co.two_free O hij hj hx
  have K0 := Lib.hid t1
  have K1 := Lib.hid (Co.f_yes t1 t2).1
  have K2 := Lib.hid ((Co.f_yes t1 t2).2.1.trans t3)
  have K3 := Lib.hid ((Co.f_yes t1 t2).2.2.trans t4)
  obtain ⟨i0, hi, hz0, hz1, hz2⟩ := info_parts infoW
  have HI := Lib.hid hi
  have HZ0 := Lib.hid hz0
  have HZ1 := Lib.hid hz1
  have HZ2 := Lib.hid hz2
  have hmk := mk_wins n (by omega)
  clear hi hz0 hz1 hz2 hck hcb f1 f2 f3 hI hJ t1 t2 t3 t4
  have hin : i < n := by omega
  go_enter Try.func8, Try.ntmps8
  go_wp2_with fail
  refine (awake_c _).mono ?_
  rintro e w1 ⟨rfl, h1⟩
  go_wp2_with fail
  refine (conflicts_c _ _ _ _ _ _ _ _ _ (R.keep h1) (T.keep h1)).mono ?_
  rw [F1.out, F2.out, F3.out, H0.out]
  rintro e w2 ⟨rfl, h2⟩
  replace h2 := bt h1 h2
  have C := Blk.new w2 30 #[.int .i64 i, .int .i64 j]
  replace h2 := bal h2 (.cells #[.int .i64 i, .int .i64 j] 30)
  go_upto_region 7 with fail
  have hz2 := h2.size
  have own := own_wins (w2.alloc (.cells #[.int .i64 i, .int .i64 j] 30)) w.heap.size n (by omega) h2.size
  replace C := C.alloc (.cells (madeCells #[.int .i64 0, .int .i64 0] (n * 2)) 44)
  replace h2 := bal h2 (.cells (madeCells #[.int .i64 0, .int .i64 0] (n * 2)) 44)
  have hgs : (w2.alloc (.cells #[.int .i64 i, .int .i64 j] 30)).heap.size = w2.heap.size + 1 := by simp
  rw [hgs] at own
  generalize World.alloc (World.alloc w2 _) _ = w3 at own C h2 ⊢
  generalize hg : w2.heap.size + 1 = g at own ⊢
  generalize hcg : w2.heap.size = cg at C ⊢
  have hne : cg ≠ g := by omega
  have hgw : w.heap.size ≤ g := by simp at hz2; omega
  clear hmk hg hcg hgs hz2
  go_wp2
  go_loopw [40] (fun q wr => ∃ k : Nat, k ≤ n ∧ q = .int .i64 k ∧ Own wr w.heap.size 44 2 (some ⟨g, 0, none⟩) n n (iv (frK k)) ∧ Blk wr cg 30 #[.int .i64 i, .int .i64 j] ∧ Below w.heap.size w wr) (fun q _ => n - (intOf q).toNat)
  case atStart => exact ⟨0, Nat.zero_le _, rfl, own.congr (fun a f _ _ => by simp [iv, frK]), C, h2⟩
  case round =>
    clear own C h2
    obtain ⟨k, hk, rfl, own, C, hB⟩ := hrel
    by_cases hlt : k < n
    · obtain ⟨y0, y1, y2⟩ := own.two hlt
      go_wp2
      have own2 := (own.set2 hlt (-1099511627776) 1099511627776).congr (V' := iv (frK (k + 1))) (fun a f ha hf => by
        unfold iv Co.setW frK
        congr 1
        by_cases e : a = k
        · subst e
          match f, hf with
          | 0, _ => simp [Co.frN]
          | 1, _ => simp [Co.frN]
        · simp only [if_neg e, show (a < k + 1) = (a < k) from propext (by omega)])
      go_roundw
      case rel => exact ⟨k + 1, by omega, by go_num, own2, (C.far (p := ⟨g, k * 2, none⟩) hne _).far (p := ⟨g, k * 2 + 1, none⟩) hne _, bst (bst hB hgw _) hgw _⟩
      case measure => simp [intOf]; omega
    · have ek : (k : Int) = (n : Int) := by omega
      rw [ek]
      obtain rfl : k = n := by omega
      clear ek
      replace own := own.congr (V' := iv Co.frN) (fun a f ha _ => by unfold iv frK; rw [if_pos ha])
      obtain ⟨c0, c1, c2, c3⟩ := C.open2
      go_wp2_with (at_builtin; refine wpList_append_Rd _ rfl _ _ 22 rfl w.heap.size 44 i0 _ 2 16 Try.underlying22 HI.out HZ0.out HZ1.out HZ2.out rfl (by decide) rfl (own_empty _ _ _ _ (iv N) (by simp) hB.size) rfl (own.alloc _).rd (one_iv _) (by omega) (by omega) (bal hB _).size ?_; intro A' c' w4 own' hgr hob)
      obtain ⟨g2, rfl, k1, k2⟩ := (app0 own').pos (by omega)
      have own1 := app0 own'
      have hcl := C.lt
      have hgl : g < wr.heap.size := by obtain ⟨g', e, _, hl⟩ := own.pos (by omega); simp at e; omega
      have hg2 : wr.heap.size ≤ g2 := by rcases hob with h | h <;> (simp [ob] at h; omega)
      have C4 : Blk w4 cg 30 #[.int .i64 i, .int .i64 j] := (hgr.block _ (C.alloc (.cells #[] 44)).lt (by simp [ob]; omega)).trans (C.alloc (.cells #[] 44))
      have own4 := (own.alloc (.cells #[] 44)).kept hgr (.inr (by simp [ob]; omega))
      have hB4 : Below w.heap.size w w4 := (bal hB (.cells #[] 44)).trans (below_grown hgr (fun g hg => by simp [ob] at hg; have := hB.size; omega) (bal hB _).size)
      have hgw2 : w.heap.size ≤ g2 := by have := hB.size; omega
      clear own' hgr hob own C hB c0 c1 c2 c3
      obtain ⟨b, off, eA, hbl, v0w, v1w⟩ := R.at2 hin
      obtain ⟨b2, off2, eA2, _, v2w, v3w⟩ := R.at2 hj
      rw [eA] at eA2
      injection eA2 with eA2
      injection eA2 with eb eo
      subst eb eo
      have HA := Lib.hid eA
      rw [HA.out]
      clear eA
      have V0 := Lib.hid v0w
      have V1 := Lib.hid v1w
      have V2 := Lib.hid v2w
      have V3 := Lib.hid v3w
      clear v0w v1w v2w v3w
      have i1 : (0 : Int) ≤ (i : Int) := by omega
      have i2 : (i : Int) < (k : Int) := by omega
      have i3 : (0 : Int) ≤ (j : Int) := by omega
      have i4 : (j : Int) < (k : Int) := by omega
      go_cut [] from 68 to 85 (fun wx => Own wx w.heap.size 44 2 (some ⟨g2, 0, none⟩) k c' (iv (Co.setW (Co.setW Co.frN i (N i 0) (N i 1)) j (N j 0) (N j 1))) ∧ Own wx w.heap.size 44 2 (some ⟨g, 0, none⟩) k k (iv Co.frN) ∧ Blk wx cg 30 #[.int .i64 i, .int .i64 j] ∧ Below w.heap.size w wx)
      case first =>
        have v0 := ((bcell hB4).1 _ _ hbl).trans V0.out
        have v1 := ((bcell hB4).1 _ _ hbl).trans V1.out
        have v2 := ((bcell hB4).1 _ _ hbl).trans V2.out
        have v3 := ((bcell hB4).1 _ _ hbl).trans V3.out
        obtain ⟨y0, y1, y2⟩ := own1.two hin
        obtain ⟨y3, y4, y5⟩ := own1.two hj
        obtain ⟨c0, c1, c2, c3⟩ := C4.open2
        have hn2 : g2 ≠ b := by have := hB4.size; omega
        have hn3 : g2 ≠ cg := by omega
        have O1 := (own1.set2 hin (N i 0) (N i 1)).set2 hj (N j 0) (N j 1)
        have O2 := (((own4.far (p := ⟨g2, i * 2, none⟩) (.inr (by simp [ob]; omega)) (.int .i64 (N i 0))).far (p := ⟨g2, i * 2 + 1, none⟩) (.inr (by simp [ob]; omega)) (.int .i64 (N i 1))).far (p := ⟨g2, j * 2, none⟩) (.inr (by simp [ob]; omega)) (.int .i64 (N j 0))).far (p := ⟨g2, j * 2 + 1, none⟩) (.inr (by simp [ob]; omega)) (.int .i64 (N j 1))
        have O3 := (((C4.far (p := ⟨g2, i * 2, none⟩) hn3.symm (.int .i64 (N i 0))).far (p := ⟨g2, i * 2 + 1, none⟩) hn3.symm (.int .i64 (N i 1))).far (p := ⟨g2, j * 2, none⟩) hn3.symm (.int .i64 (N j 0))).far (p := ⟨g2, j * 2 + 1, none⟩) hn3.symm (.int .i64 (N j 1))
        have O4 := bst (bst (bst (bst hB4 (p := ⟨g2, i * 2, none⟩) hgw2 (.int .i64 (N i 0))) (p := ⟨g2, i * 2 + 1, none⟩) hgw2 (.int .i64 (N i 1))) (p := ⟨g2, j * 2, none⟩) hgw2 (.int .i64 (N j 0))) (p := ⟨g2, j * 2 + 1, none⟩) hgw2 (.int .i64 (N j 1))
        have H1 := Lib.hid O1
        have H2 := Lib.hid O2
        have H3 := Lib.hid O3
        have H4 := Lib.hid O4
        clear O1 O2 O3 O4
        have p1 : i * 2 + 1 ≠ j * 2 := by omega
        have p2 : j * 2 ≠ i * 2 + 1 := by omega
        have p3 : j * 2 + 1 ≠ i * 2 := by omega
        have p4 : i * 2 ≠ j * 2 + 1 := by omega
        by_cases hijq : i = j
        · subst hijq
          go_region
          all_goals
            go_wp2
            go_meet
            exact ⟨H1.out.drew, H2.out.drew, H3.out.drew, bdr H4.out⟩
        · have p5 : j ≠ i := by omega
          go_region
          all_goals
            go_wp2
            go_meet
            exact ⟨H1.out.drew, H2.out.drew, H3.out.drew, bdr H4.out⟩
      case rest =>
        clear own4 C4 hB4 own1
        obtain ⟨q1, q2, C, hB⟩ := hcut
        obtain ⟨c0, c1, c2, c3⟩ := C.open2
        go_wp2_with fail
        refine (conflicts_c _ _ _ _ _ _ _ _ _ q1.rd (T.keep hB)).mono ?_
        rw [K1.out, K2.out, K3.out, K0.out]
        rintro e w5 ⟨rfl, h5⟩
        clear c0 c1 c2 c3 q1
        replace C := (C.keep h5).alloc (.cells #[.int .i64 i, .int .i64 j] 30)
        replace q2 := (q2.keep h5).alloc (.cells #[.int .i64 i, .int .i64 j] 30)
        have D := Blk.new w5 30 #[.int .i64 i, .int .i64 j]
        replace hB := bal (bt hB h5) (.cells #[.int .i64 i, .int .i64 j] 30)
        clear h5
        obtain ⟨c0, c1, c2, c3⟩ := C.open2
        obtain ⟨d0, d1, d2, d3⟩ := D.open2
        by_cases hijq : i = j
        · subst hijq
          rw [Co.ex_self] at hx
          have g1 : decide (N i 1 < N i 0) = true := decide_eq_true (by omega)
          have v0 := ((bcell hB).1 _ _ hbl).trans V0.out
          have v1 := ((bcell hB).1 _ _ hbl).trans V1.out
          clear hx
          go_wp2
          go_quiet (fail)
          go_wp2
          go_returns
          exact ⟨rfl, bdnl hB _⟩
        · have hlt2 : i < j := by omega
          have g1 : ((i : Int) == (j : Int)) = false := by simp; omega
          obtain ⟨p1, p2⟩ := Co.ex_pos hlt2 hx
          have Z1 := Lib.hid (Co.one_free O hin p1)
          have Z2 := Lib.hid (Co.one_free O hj p2)
          clear p1 p2 hijq hx
          go_wp2
          have U := Blk.new (w5.alloc (.cells #[.int .i64 i, .int .i64 j] 30)) 3 #[.int .i64 i, .int .i64 j]
          replace q2 := q2.alloc (.cells #[.int .i64 i, .int .i64 j] 3)
          replace hB := bal hB (.cells #[.int .i64 i, .int .i64 j] 3)
          have hgs : (w5.alloc (.cells #[.int .i64 i, .int .i64 j] 30)).heap.size = w5.heap.size + 1 := by simp
          rw [hgs] at U
          clear hgs C D c0 c1 c2 c3 d0 d1 d2 d3
          generalize World.alloc (World.alloc w5 _) _ = w6 at U q2 hB ⊢
          generalize w5.heap.size + 1 = gu at U ⊢
          go_loopw [128] (fun q wr => ∃ e : Nat, e ≤ 2 ∧ q = .int .i64 e ∧ Below w6.heap.size w6 wr) (fun q _ => 2 - (intOf q).toNat)
          case atStart => exact ⟨0, by omega, rfl, Below.refl _ _⟩
          case round =>
            obtain ⟨e, he, rfl, hb⟩ := hrel
            obtain ⟨u0, u1, u2, u3⟩ := (U.keep hb).open2
            rcases (show e = 0 ∨ e = 1 ∨ e = 2 from by omega) with rfl | rfl | rfl
            · skip
              obtain ⟨f1, f2, f3⟩ := Co.f_no (.inr Z1.out)
              have Fa := Lib.hid f1
              have Fb := Lib.hid f2
              have Fc := Lib.hid f3
              clear f1 f2 f3
              have hz := hb.size
              have hwz := hB.size
              go_wp2_with (at_builtin; refine wpList_append_Rd _ rfl _ _ 22 rfl w6.heap.size 44 i0 _ 2 16 Try.underlying22 HI.out HZ0.out HZ1.out HZ2.out rfl (by decide) rfl (own_empty _ _ _ _ (iv N) (by simp) (by omega)) rfl ((q2.keep hb).alloc _).rd (one_iv _) (by omega) (by omega) (by simp; omega) ?_; intro A' c3 w7 own' hgr hob; have hb7 : Below w6.heap.size w6 w7 := (bal hb (.cells #[] 44)).trans (below_grown hgr (fun g hg => by simp [ob] at hg; omega) (by simp; omega)); have v0 := ((bcell (bt hB hb7)).1 _ _ hbl).trans V0.out; have v1 := ((bcell (bt hB hb7)).1 _ _ hbl).trans V1.out; have own1 := app0 own'; obtain ⟨g3, rfl, k3, k4⟩ := own1.pos (by omega); obtain ⟨y0, y1, y2⟩ := own1.two hin; have hgb : g3 ≠ b := by omega)
              have own2 := own1.set2 hin (N i 0) (N i 1)
              have hb8 := bst (bst hb7 (p := ⟨g3, i * 2, none⟩) k3 (.int .i64 (N i 0))) (p := ⟨g3, i * 2 + 1, none⟩) k3 (.int .i64 (N i 1))
              clear y0 y1 y2 v0 v1 own1 own' hgr hob hb7 u0 u1 u2 u3
              refine (conflicts_c _ _ _ _ _ _ _ _ _ own2.rd (T.keep (bt hB hb8))).mono ?_
              rw [Fa.out, Fb.out, Fc.out, Z1.out.1]
              rintro er w8 ⟨rfl, h8⟩
              go_wp2
              go_roundw
              case rel => exact ⟨1, by omega, by go_num, bt hb8 h8⟩
              case measure => simp [intOf]
            · skip
              obtain ⟨f1, f2, f3⟩ := Co.f_no (.inr Z2.out)
              have Fa := Lib.hid f1
              have Fb := Lib.hid f2
              have Fc := Lib.hid f3
              clear f1 f2 f3
              have hz := hb.size
              have hwz := hB.size
              go_wp2_with (at_builtin; refine wpList_append_Rd _ rfl _ _ 22 rfl w6.heap.size 44 i0 _ 2 16 Try.underlying22 HI.out HZ0.out HZ1.out HZ2.out rfl (by decide) rfl (own_empty _ _ _ _ (iv N) (by simp) (by omega)) rfl ((q2.keep hb).alloc _).rd (one_iv _) (by omega) (by omega) (by simp; omega) ?_; intro A' c3 w7 own' hgr hob; have hb7 : Below w6.heap.size w6 w7 := (bal hb (.cells #[] 44)).trans (below_grown hgr (fun g hg => by simp [ob] at hg; omega) (by simp; omega)); have v0 := ((bcell (bt hB hb7)).1 _ _ hbl).trans V2.out; have v1 := ((bcell (bt hB hb7)).1 _ _ hbl).trans V3.out; have own1 := app0 own'; obtain ⟨g3, rfl, k3, k4⟩ := own1.pos (by omega); obtain ⟨y0, y1, y2⟩ := own1.two hj; have hgb : g3 ≠ b := by omega)
              have own2 := own1.set2 hj (N j 0) (N j 1)
              have hb8 := bst (bst hb7 (p := ⟨g3, j * 2, none⟩) k3 (.int .i64 (N j 0))) (p := ⟨g3, j * 2 + 1, none⟩) k3 (.int .i64 (N j 1))
              clear y0 y1 y2 v0 v1 own1 own' hgr hob hb7 u0 u1 u2 u3
              refine (conflicts_c _ _ _ _ _ _ _ _ _ own2.rd (T.keep (bt hB hb8))).mono ?_
              rw [Fa.out, Fb.out, Fc.out, Z2.out.1]
              rintro er w8 ⟨rfl, h8⟩
              go_wp2
              go_roundw
              case rel => exact ⟨2, by omega, by go_num, bt hb8 h8⟩
              case measure => simp [intOf]
            · go_wp2
              go_returns
              exact ⟨rfl, bt hB hb⟩
end Go.Proofs.Ytgfmheaijdcgoaa
