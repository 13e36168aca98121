/-
  Words and contracts, put together: OH, OI.
-/
import Derived.Test.YtoeklllahpegfaaM02
import Derived.Test.YtoeklllahpegfaaM04
import Derived.Test.YtoeklllahpegfaaM08
import Derived.Test.YtoeklllahpegfaaM10
import Derived.Deep.DeepCutAuto
/-
  Contract: optimize.build.
-/
namespace Go.Proofs.Ytoeklllahpegfaa
set_option linter.unusedVariables false
set_option linter.unusedSimpArgs false
open Go.RowKit
attribute [local irreducible] World.setCell World.cell?

set_option maxHeartbeats 1000000 in
theorem none_c (w : World) : Calls Try.prog 48 #[] w fun e w' => e = .returned (.agg #[.int .i64 (-1), .int .i64 (-1)]) ∧ Below w.heap.size w w' := by
  go_enter Try.func48, Try.ntmps48
  go_wp2_with fail
  go_returns
  exact ⟨rfl, ba _ _⟩
abbrev JP1V (w W0 : World) (Z : ZD) (g c : Nat) (A : Option Addr) (L : List Oz.Ed) (k i j : Nat) (f px d : Int) : List (Nat × Nat × Value) := [(0, 87, .pointer (some ⟨g, 1, none⟩)), (1, 88, .slice A (L).length c), (2, 89, .int .i64 f), (3, 90, .int .i64 (k : Int)), (4, 91, .int .i64 (Z.nl : Int)), (5, 92, .int .i64 ((k : Int) * (Z.nl : Int))), (6, 93, .int .i64 (1 + (k : Int) * (Z.nl : Int))), (7, 94, .int .i64 (j : Int)), (8, 95, .int .i64 (1 + (k : Int) * (Z.nl : Int) + (j : Int))), (9, 96, .int .i64 px), (10, 97, .pointer (some ⟨w.heap.size, 21, none⟩)), (11, 98, .int .i64 Z.cc), (12, 99, .int .i64 (i : Int)), (13, 100, .int .i64 (j : Int)), (14, 101, .int .i64 d), (15, 102, .int .i64 (Z.cc * d)), (16, 103, .int .i64 (px + Z.cc * d)), (17, 104, .agg #[.int .i64 f, .int .i64 (1 + (k : Int) * (Z.nl : Int) + (j : Int)), .int .i64 (px + Z.cc * d)]), (18, 105, .slice (some ⟨W0.heap.size, 0, none⟩) 1 1), (20, 107, .pointer (some ⟨g, 1, none⟩))]
abbrev JP1 (w W0 : World) (Z : ZD) (g c : Nat) (A : Option Addr) (L : List Oz.Ed) (k i j : Nat) (f px d : Int) : (Nat → Prop) → (Nat → Value) → (Nat → Nat) → World → Prop := fun L_ x G wx =>
  Apd (L_ 18) (L_ 19) (L_ 21) W0 #[.int .i64 (f), .int .i64 (1 + (k : Int) * (Z.nl : Int) + (j : Int)), .int .i64 (px + Z.cc * d)] g A (L).length c (iv (Oz.eN (L))) (iv (Oz.row3 (f) (1 + (k : Int) * (Z.nl : Int) + (j : Int)) (px + Z.cc * d))) (oa (G 0)) (G 1) wx ∧ (L_ 19 → L_ 1) ∧ Vs L_ x (JP1V w W0 Z g c A L k i j f px d) ∧ (L_ 19 → x 106 = .slice (oa (G 0)) ((L).length + 1) (G 1))
theorem JP1_congr (w W0 : World) (Z : ZD) (g c : Nat) (A : Option Addr) (L : List Oz.Ed) (k i j : Nat) (f px d : Int) : ∀ (L_ : Nat → Prop) (x y : Nat → Value) (G : Nat → Nat) (wx : World), (∀ t ∈ [87, 88, 89, 90, 91, 92, 93, 94, 95, 96, 97, 98, 99, 100, 101, 102, 103, 104, 105, 106, 107], x t = y t) → JP1 w W0 Z g c A L k i j f px d L_ x G wx → JP1 w W0 Z g c A L k i j f px d L_ y G wx :=
  fun L_ x y G wx hxy h => ⟨h.1, h.2.1, h.2.2.1.congr (ds := [87, 88, 89, 90, 91, 92, 93, 94, 95, 96, 97, 98, 99, 100, 101, 102, 103, 104, 105, 106, 107]) rfl hxy, fun q => (hxy 106 (by simp)).symm.trans (h.2.2.2 q)⟩
abbrev JP2V (w W0 : World) (Z : ZD) (g c : Nat) (A : Option Addr) (L : List Oz.Ed) (i : Nat) (d : Int) : List (Nat × Nat × Value) := [(0, 128, .pointer (some ⟨g, 1, none⟩)), (1, 129, .slice A (L).length c), (2, 130, .int .i64 (Z.nd : Int)), (3, 131, .int .i64 ((Z.nd : Int) - 1)), (4, 132, .int .i64 (Z.nl : Int)), (5, 133, .int .i64 (((Z.nd : Int) - 1) * (Z.nl : Int))), (6, 134, .int .i64 (1 + (((Z.nd : Int) - 1) * (Z.nl : Int)))), (7, 135, .int .i64 (i : Int)), (8, 136, .int .i64 (1 + (((Z.nd : Int) - 1) * (Z.nl : Int)) + (i : Int))), (9, 137, .int .i64 (Z.nd : Int)), (10, 138, .int .i64 (Z.nl : Int)), (11, 139, .int .i64 ((Z.nd : Int) * (Z.nl : Int))), (12, 140, .int .i64 (1 + (Z.nd : Int) * (Z.nl : Int))), (13, 141, .pointer (some ⟨w.heap.size, 21, none⟩)), (14, 142, .int .i64 Z.cc), (15, 143, .int .i64 (i : Int)), (16, 144, .pointer (some ⟨w.heap.size, 23, none⟩)), (17, 145, .int .i64 Z.la), (18, 146, .int .i64 d), (19, 147, .int .i64 (Z.cc * d)), (20, 148, .agg #[.int .i64 (1 + (((Z.nd : Int) - 1) * (Z.nl : Int)) + (i : Int)), .int .i64 (1 + (Z.nd : Int) * (Z.nl : Int)), .int .i64 (Z.cc * d)]), (21, 149, .slice (some ⟨W0.heap.size, 0, none⟩) 1 1), (23, 151, .pointer (some ⟨g, 1, none⟩))]
abbrev JP2 (w W0 : World) (Z : ZD) (g c : Nat) (A : Option Addr) (L : List Oz.Ed) (i : Nat) (d : Int) : (Nat → Prop) → (Nat → Value) → (Nat → Nat) → World → Prop := fun L_ x G wx =>
  Apd (L_ 21) (L_ 22) (L_ 24) W0 #[.int .i64 (1 + ((Z.nd : Int) - 1) * (Z.nl : Int) + (i : Int)), .int .i64 (1 + (Z.nd : Int) * (Z.nl : Int)), .int .i64 (Z.cc * d)] g A (L).length c (iv (Oz.eN (L))) (iv (Oz.row3 (1 + ((Z.nd : Int) - 1) * (Z.nl : Int) + (i : Int)) (1 + (Z.nd : Int) * (Z.nl : Int)) (Z.cc * d))) (oa (G 0)) (G 1) wx ∧ (L_ 22 → L_ 1) ∧ Vs L_ x (JP2V w W0 Z g c A L i d) ∧ (L_ 22 → x 150 = .slice (oa (G 0)) ((L).length + 1) (G 1))
theorem JP2_congr (w W0 : World) (Z : ZD) (g c : Nat) (A : Option Addr) (L : List Oz.Ed) (i : Nat) (d : Int) : ∀ (L_ : Nat → Prop) (x y : Nat → Value) (G : Nat → Nat) (wx : World), (∀ t ∈ [128, 129, 130, 131, 132, 133, 134, 135, 136, 137, 138, 139, 140, 141, 142, 143, 144, 145, 146, 147, 148, 149, 150, 151], x t = y t) → JP2 w W0 Z g c A L i d L_ x G wx → JP2 w W0 Z g c A L i d L_ y G wx :=
  fun L_ x y G wx hxy h => ⟨h.1, h.2.1, h.2.2.1.congr (ds := [128, 129, 130, 131, 132, 133, 134, 135, 136, 137, 138, 139, 140, 141, 142, 143, 144, 145, 146, 147, 148, 149, 150, 151]) rfl hxy, fun q => (hxy 150 (by simp)).symm.trans (h.2.2.2 q)⟩
set_option maxRecDepth 100000 in
set_option maxHeartbeats 16000000 in
theorem build_c (Z : ZD) (Y : ZA) (w : World) (H : ZIn w Z Y) (hz : Oz.zck Z = 0) : Calls Try.prog 46 #[.agg #[.slice Y.ds Z.nd Y.dsc, .slice Y.lv Z.nl Y.lvc, .slice Y.sp Z.ns Y.spc, .slice Y.tl Z.nt Y.tlc, .slice Y.ms Z.nm Y.msc, .string Z.P.nm, .int .i64 Z.P.em, .int .i64 Z.P.fu, .slice Y.Q.al Z.P.na Y.Q.alc, .slice Y.Q.ma Z.P.nM Y.Q.mac, .slice Y.Q.tC Z.P.nC Y.Q.tCc, .slice Y.Q.tF Z.P.nF Y.Q.tFc, .slice Y.Q.tR Z.P.nR Y.Q.tRc, .slice Y.Q.dD Z.P.nD Y.Q.dDc, .slice Y.Q.dI Z.P.nI Y.Q.dIc, .slice Y.Q.dX Z.P.nX Y.Q.dXc, .slice Y.Q.dN Z.P.nN Y.Q.dNc, .int .i64 Z.P.rf, .int .i64 Z.P.xt, .int .i64 Z.P.ce, .int .i64 Z.ix, .int .i64 Z.cc, .int .i64 Z.fi, .int .i64 Z.la]] w fun e w' => ∃ (A AC : Option Addr) (c cC : Nat), e = .returned (.tuple #[.agg #[.int .i64 (Oz.gN Z : Int), .slice A (Oz.gL Z).length c], .slice AC (Oz.gL Z).length cC]) ∧ Own w' w.heap.size 75 3 A (Oz.gL Z).length c (iv (Oz.gE Z)) ∧ Own w' w.heap.size 35 2 AC (Oz.gL Z).length cC (iv (Oz.cN (Oz.gL Z))) ∧ Below w.heap.size w w' := by
  have O := Oz.zck_ok hz
  have n1 := O.nd1
  have n2 := O.nd2
  have n3 := O.nl1
  have n4 := O.nl2
  have n5 := O.ns1
  have n6 := O.ns2
  have n7 := O.fi
  have n8 := O.la
  have gnl := Oz.g_nl O
  have hnn := Oz.nl_bd O (Nat.le_refl Z.nd)
  have hmm := Oz.nl_bd O (k := Z.nd - 1) (by omega)
  rw [show ((Z.nd - 1 : Nat) : Int) = (Z.nd : Int) - 1 by omega] at hmm
  obtain ⟨nn1, nn2⟩ := hnn
  obtain ⟨mm1, mm2⟩ := hmm
  have hgN : (2 : Int) + (Z.nd : Int) * (Z.nl : Int) = (Oz.gN Z : Int) := by unfold Oz.gN; push_cast; rfl
  obtain ⟨i0, hi0, hz0, hz1, hz2⟩ := info_parts infoE
  have HI := Lib.hid hi0
  have HZ0 := Lib.hid hz0
  have HZ1 := Lib.hid hz1
  have HZ2 := Lib.hid hz2
  clear hi0 hz0 hz1 hz2
  obtain ⟨i2, hi0, hz0, hz1, hz2⟩ := info_parts infoC
  have KI := Lib.hid hi0
  have KZ0 := Lib.hid hz0
  have KZ1 := Lib.hid hz1
  have KZ2 := Lib.hid hz2
  clear hi0 hz0 hz1 hz2
  go_enter Try.func46, Try.ntmps46
  try simp only [List.append_eq, List.cons_append, List.nil_append]
  have PB := (Blk.new w 27 #[.slice Y.ds Z.nd Y.dsc, .slice Y.lv Z.nl Y.lvc, .slice Y.sp Z.ns Y.spc, .slice Y.tl Z.nt Y.tlc, .slice Y.ms Z.nm Y.msc, .string Z.P.nm, .int .i64 Z.P.em, .int .i64 Z.P.fu, .slice Y.Q.al Z.P.na Y.Q.alc, .slice Y.Q.ma Z.P.nM Y.Q.mac, .slice Y.Q.tC Z.P.nC Y.Q.tCc, .slice Y.Q.tF Z.P.nF Y.Q.tFc, .slice Y.Q.tR Z.P.nR Y.Q.tRc, .slice Y.Q.dD Z.P.nD Y.Q.dDc, .slice Y.Q.dI Z.P.nI Y.Q.dIc, .slice Y.Q.dX Z.P.nX Y.Q.dXc, .slice Y.Q.dN Z.P.nN Y.Q.dNc, .int .i64 Z.P.rf, .int .i64 Z.P.xt, .int .i64 Z.P.ce, .int .i64 Z.ix, .int .i64 Z.cc, .int .i64 Z.fi, .int .i64 Z.la]).alloc (.cells #[.int .i64 0, .slice none 0 0] 41)
  have RB := Blk.new1 w (.cells #[.slice Y.ds Z.nd Y.dsc, .slice Y.lv Z.nl Y.lvc, .slice Y.sp Z.ns Y.spc, .slice Y.tl Z.nt Y.tlc, .slice Y.ms Z.nm Y.msc, .string Z.P.nm, .int .i64 Z.P.em, .int .i64 Z.P.fu, .slice Y.Q.al Z.P.na Y.Q.alc, .slice Y.Q.ma Z.P.nM Y.Q.mac, .slice Y.Q.tC Z.P.nC Y.Q.tCc, .slice Y.Q.tF Z.P.nF Y.Q.tFc, .slice Y.Q.tR Z.P.nR Y.Q.tRc, .slice Y.Q.dD Z.P.nD Y.Q.dDc, .slice Y.Q.dI Z.P.nI Y.Q.dIc, .slice Y.Q.dX Z.P.nX Y.Q.dXc, .slice Y.Q.dN Z.P.nN Y.Q.dNc, .int .i64 Z.P.rf, .int .i64 Z.P.xt, .int .i64 Z.P.ce, .int .i64 Z.ix, .int .i64 Z.cc, .int .i64 Z.fi, .int .i64 Z.la] 27) 41 #[.int .i64 0, .slice none 0 0]
  have hB := bal (ba w (.cells #[.slice Y.ds Z.nd Y.dsc, .slice Y.lv Z.nl Y.lvc, .slice Y.sp Z.ns Y.spc, .slice Y.tl Z.nt Y.tlc, .slice Y.ms Z.nm Y.msc, .string Z.P.nm, .int .i64 Z.P.em, .int .i64 Z.P.fu, .slice Y.Q.al Z.P.na Y.Q.alc, .slice Y.Q.ma Z.P.nM Y.Q.mac, .slice Y.Q.tC Z.P.nC Y.Q.tCc, .slice Y.Q.tF Z.P.nF Y.Q.tFc, .slice Y.Q.tR Z.P.nR Y.Q.tRc, .slice Y.Q.dD Z.P.nD Y.Q.dDc, .slice Y.Q.dI Z.P.nI Y.Q.dIc, .slice Y.Q.dX Z.P.nX Y.Q.dXc, .slice Y.Q.dN Z.P.nN Y.Q.dNc, .int .i64 Z.P.rf, .int .i64 Z.P.xt, .int .i64 Z.P.ce, .int .i64 Z.ix, .int .i64 Z.cc, .int .i64 Z.fi, .int .i64 Z.la] 27)) (.cells #[.int .i64 0, .slice none 0 0] 41)
  have hs1 : w.heap.size + 1 < (World.alloc (World.alloc w (.cells #[.slice Y.ds Z.nd Y.dsc, .slice Y.lv Z.nl Y.lvc, .slice Y.sp Z.ns Y.spc, .slice Y.tl Z.nt Y.tlc, .slice Y.ms Z.nm Y.msc, .string Z.P.nm, .int .i64 Z.P.em, .int .i64 Z.P.fu, .slice Y.Q.al Z.P.na Y.Q.alc, .slice Y.Q.ma Z.P.nM Y.Q.mac, .slice Y.Q.tC Z.P.nC Y.Q.tCc, .slice Y.Q.tF Z.P.nF Y.Q.tFc, .slice Y.Q.tR Z.P.nR Y.Q.tRc, .slice Y.Q.dD Z.P.nD Y.Q.dDc, .slice Y.Q.dI Z.P.nI Y.Q.dIc, .slice Y.Q.dX Z.P.nX Y.Q.dXc, .slice Y.Q.dN Z.P.nN Y.Q.dNc, .int .i64 Z.P.rf, .int .i64 Z.P.xt, .int .i64 Z.P.ce, .int .i64 Z.ix, .int .i64 Z.cc, .int .i64 Z.fi, .int .i64 Z.la] 27)) (.cells #[.int .i64 0, .slice none 0 0] 41)).heap.size := by simp
  go_upto_region 1 with fail
  generalize World.alloc (World.alloc w _) _ = w1 at PB RB hB hs1 ⊢
  obtain ⟨d0, d1, d2, d20, d21, d22, d23, d24, d25⟩ := PB.ow24
  have x1 := H.ds.le
  have x2 := H.ds.mx
  have x3 := H.lv.le
  have x4 := H.lv.mx
  go_quiet (fail)
  clear d0 d1 d2 d20 d21 d22 d23 d24 d25
  replace PB := PB.drewN ‹Nat›
  replace RB := RB.drewN ‹Nat›
  replace hB := bdnl hB ‹Nat›
  replace hs1 : w.heap.size + 1 < (w1.drewN ‹Nat›).heap.size := hs1
  go_upto_region 2 with fail
  generalize w1.drewN _ = w2 at PB RB hB hs1 ⊢
  have hG : GS w (w2.alloc (.cells #[.int .i64 (Oz.gN Z : Int), .slice none 0 0] 41)) Z Y w2.heap.size none none 0 0 (Oz.eK Z 0) Oz.cN := ⟨Own.nil _ _ _ _ _, Own.nil _ _ _ _ _, .inl rfl, Blk.new w2 _ _, RB.alloc _, PB.alloc _, bal hB _, hs1⟩
  clear PB RB hB hs1
  go_upto_region 4 with fail
  generalize World.alloc w2 _ = w3 at hG ⊢
  generalize w2.heap.size = g at *
  go_wp2_with fail

  go_loopw [7, 31] (fun s7 i_ wr => ∃ (k c cC : Nat) (A AC : Option Addr), k ≤ Z.nd ∧ i_ = .int .i64 (k : Int) ∧ s7 = .slice AC (Oz.eK Z k).length cC ∧ GS w wr Z Y g A AC c cC (Oz.eK Z k) Oz.cN) (fun _ i_ _ => Z.nd - (intOf i_).toNat)
  case atStart => exact ⟨0, 0, 0, none, none, Nat.zero_le _, rfl, rfl, hG⟩
  case round =>
    clear hG
    obtain ⟨k, c, cC, A, AC, hk, rfl, rfl, hG⟩ := hrel
    generalize hLL : Oz.eK Z k = La at hG ⊢
    have HLa := Lib.hid hLL
    clear hLL
    by_cases hlt : k < Z.nd
    · have hkn := Oz.nl_bd O (k := k) (by omega)
      obtain ⟨kn1, kn2⟩ := hkn
      have hk1 := Oz.nl_bd O (k := k - 1) (by omega)
      go_upto_if 37 with fail
      go_cut [9, 10] (fun s9 s10 wx => ∃ lo hi : Nat, s9 = .int .i64 (lo : Int) ∧ s10 = .int .i64 (hi : Int) ∧ Hid ((k = 0 ∧ (lo : Int) = Z.fi ∧ hi = lo ∧ lo < Z.nl) ∨ (k ≠ 0 ∧ lo = 0 ∧ hi = Z.nl - 1)) ∧ GS w wx Z Y g A AC c cC La Oz.cN)
      case first =>
        by_cases k0 : k = 0
        · have k1 : ((k : Int) == 0) = true := by simp; omega
          obtain ⟨d0, d1, d2, d20, d21, d22, d23, d24, d25⟩ := hG.p.ow24
          go_wp2_with fail
          go_quiet (fail)
          go_wp2_with fail
          go_meet
          exact ⟨Z.fi.toNat, Z.fi.toNat, by congr 1; omega, by congr 1; omega, Lib.hid (.inl ⟨k0, by omega, rfl, by omega⟩), hG.drewN _⟩
        · have k1 : ((k : Int) == 0) = false := by simp; omega
          go_wp2_with fail
          go_meet
          exact ⟨0, Z.nl - 1, rfl, by congr 1; omega, Lib.hid (.inr ⟨k0, rfl, rfl⟩), hG⟩
      case rest =>
        obtain ⟨lo, hi, rfl, rfl, hlh, hG'⟩ := hcut
        clear hG
        have hG := hG'
        clear hG'
        obtain ⟨a1, a2, a3, a4, a5⟩ := Oz.eI_mid (Z := Z) n3 hlh.out
        have A3 := Lib.hid a3
        have A4 := Lib.hid a4
        have A5 := Lib.hid a5
        clear a3 a4 a5 hlh
        go_wp2_with fail
        go_loopw [7, 11] (fun s7 i_ wr => ∃ (i c cC : Nat) (A AC : Option Addr), (lo ≤ i ∧ i ≤ hi + 1) ∧ i_ = .int .i64 (i : Int) ∧ s7 = .slice AC (Oz.eK Z k ++ Oz.eI Z k i).length cC ∧ GS w wr Z Y g A AC c cC (Oz.eK Z k ++ Oz.eI Z k i) Oz.cN) (fun _ i_ _ => hi + 1 - (intOf i_).toNat)
        case atStart => exact ⟨lo, c, cC, A, AC, ⟨Nat.le_refl _, by omega⟩, rfl, by rw [A3.out, List.append_nil, HLa.out], hG.cast (by rw [A3.out, List.append_nil, HLa.out])⟩
        case round =>
          clear hG
          obtain ⟨i, c, cC, A, AC, hi_, rfl, rfl, hG⟩ := hrel
          generalize hLL : Oz.eK Z k ++ Oz.eI Z k i = Lb at hG ⊢
          have HLb := Lib.hid hLL
          clear hLL
          obtain ⟨hi1, hi2⟩ := hi_
          by_cases hli : i ≤ hi
          · have hnl : i < Z.nl := by omega
            have hno := Lib.hid (A5.out i hi1 hli)
            have hli2 : (i : Int) ≤ (hi : Int) := by omega
            go_upto_if 49 with fail
            go_cut [12] (fun s12 wx => s12 = .int .i64 ((Oz.nod Z k i : Nat) : Int) ∧ wx = wr)
            case first =>
              by_cases kz : k = 0
              · have k3 : decide ((0 : Int) < (k : Int)) = false := decide_eq_false (by omega)
                have E0 : Hid (((Oz.nod Z k i : Nat) : Int) = 0) := Lib.hid (by subst kz; rfl)
                go_wp2_with fail
                go_meet
                exact ⟨by rw [E0.out] <;> rfl, rfl⟩
              · have k3 : (0 : Int) < (k : Int) := by omega
                rw [show ((k - 1 : Nat) : Int) = (k : Int) - 1 by omega] at hk1
                obtain ⟨km1, km2⟩ := hk1
                have EN := Lib.hid (Oz.nod_pos Z (i := i) kz)
                go_wp2_with fail
                go_meet
                exact ⟨by congr 1; rw [EN.out]; push_cast; rw [show ((k - 1 : Nat) : Int) = (k : Int) - 1 by omega], rfl⟩
            case rest =>
              obtain ⟨rfl, rfl⟩ := hcut
              go_wp2_with fail
              go_loopw [7, 13] (fun s7 i_ wr => ∃ (j c cC : Nat) (A AC : Option Addr), (i - 1 ≤ j ∧ j ≤ i + 2 ∧ j ≤ Z.nl) ∧ i_ = .int .i64 (j : Int) ∧ s7 = .slice AC (Oz.eK Z k ++ Oz.eI Z k i ++ Oz.eJ Z k i j).length cC ∧ GS w wr Z Y g A AC c cC (Oz.eK Z k ++ Oz.eI Z k i ++ Oz.eJ Z k i j) Oz.cN) (fun _ i_ _ => i + 2 - (intOf i_).toNat)
              case atStart => exact ⟨i - 1, c, cC, A, AC, ⟨Nat.le_refl _, by omega, by omega⟩, by congr 1; omega, by rw [Oz.eJ_low (Nat.le_refl _), List.append_nil, HLb.out], hG.cast (by rw [Oz.eJ_low (Nat.le_refl _), List.append_nil, HLb.out])⟩
              case round =>
                clear hG
                obtain ⟨j, c, cC, A, AC, ⟨hj1, hj2, hj3⟩, rfl, rfl, hG⟩ := hrel
                generalize hLL : Oz.eK Z k ++ Oz.eI Z k i ++ Oz.eJ Z k i j = Lc at hG ⊢
                have HLc := Lib.hid hLL
                clear hLL
                by_cases hj : j ≤ i + 1 ∧ j < Z.nl
                rotate_left
                · have EJ := Lib.hid (Oz.eJ_out (Z := Z) (k := k) hj3 hnl hj hj2)
                  have EI := Lib.hid (Oz.eI_t hno.out)
                  have hj4 : ¬ (j : Int) ≤ min ((i : Int) + 1) ((Z.nl : Int) - 1) := by omega
                  have E2 : Hid (Oz.eK Z k ++ Oz.eI Z k (i + 1) = Lc) := Lib.hid (by rw [← HLc.out, EI.out, EJ.out, ← List.append_assoc])
                  go_wp2_with fail
                  go_roundw
                  case rel => exact ⟨i + 1, c, cC, A, AC, ⟨by omega, by omega⟩, by go_num, by rw [E2.out], hG.cast E2.out⟩
                  case measure => simp [intOf]; omega
                obtain ⟨hj5, hj6⟩ := hj
                have hj4 : (j : Int) ≤ min ((i : Int) + 1) ((Z.nl : Int) - 1) := by omega
                have y1 := H.sp.le
                have y2 := H.sp.mx
                obtain ⟨d0, d1, d2, d20, d21, d22, d23, d24, d25⟩ := hG.p.ow24
                go_wp2_with fail
                go_loopw [7, 72] (fun s7 i_ wr => ∃ (s c cC : Nat) (A AC : Option Addr), s ≤ Z.ns ∧ i_ = .int .i64 (s : Int) ∧ s7 = .slice AC (Oz.eK Z k ++ Oz.eI Z k i ++ Oz.eJ Z k i j ++ Oz.eS Z k i j s).length cC ∧ GS w wr Z Y g A AC c cC (Oz.eK Z k ++ Oz.eI Z k i ++ Oz.eJ Z k i j ++ Oz.eS Z k i j s) Oz.cN) (fun _ i_ _ => Z.ns - (intOf i_).toNat)
                case atStart => exact ⟨0, c, cC, A, AC, Nat.zero_le _, rfl, by show _ = Value.slice AC (Oz.eK Z k ++ Oz.eI Z k i ++ Oz.eJ Z k i j ++ []).length cC; rw [List.append_nil, HLc.out], hG.cast (by show Oz.eK Z k ++ Oz.eI Z k i ++ Oz.eJ Z k i j ++ [] = _; rw [List.append_nil, HLc.out])⟩
                case round =>
                  clear d0 d1 d2 d20 d21 d22 d23 d24 d25
                  clear hG
                  obtain ⟨s, c, cC, A, AC, hs_, rfl, rfl, hG⟩ := hrel
                  have hlen := Oz.pre_len O (k := k) (i := i) (j := j) (s := s) (by omega) (by omega) hs_
                  generalize hLL : Oz.eK Z k ++ Oz.eI Z k i ++ Oz.eJ Z k i j ++ Oz.eS Z k i j s = L at hG hlen ⊢
                  have HL := Lib.hid hLL
                  clear hLL
                  by_cases hs : s < Z.ns
                  rotate_left
                  · obtain rfl : s = Z.ns := by omega
                    have EJ := Lib.hid (Oz.eJ_t (Z := Z) (k := k) hj1 hj5)
                    have E2 : Hid (Oz.eK Z k ++ Oz.eI Z k i ++ Oz.eJ Z k i (j + 1) = L) := Lib.hid (by rw [← HL.out, EJ.out, ← List.append_assoc])
                    go_wp2_with fail
                    go_roundw
                    case rel => exact ⟨j + 1, c, cC, A, AC, ⟨by omega, by omega, by omega⟩, by go_num, by rw [E2.out], hG.cast E2.out⟩
                    case measure => simp [intOf]; omega
                  have GA := hG.p.alloc (.cells #[.int .i64 (j : Int), .int .i64 (s : Int)] 35)
                  have C := Blk.new wr 35 #[.int .i64 (j : Int), .int .i64 (s : Int)]
                  have KK := Lib.hid (fun (wx : World) (h : ZIn wx Z Y) => cost_o Z Y k j s wx h hz hlt hj6 hs)
                  have KB := Lib.hid (fun h => Oz.cs_bd (j := j) (s := s) O hlt hs h)
                  go_wp2_with (with_reducible show wpList _ _ _ _ _ _; refine wpList_B _ rfl rfl rfl (by with_reducible assumption) ?_)
                  refine (KK.out _ (H.keep (bal hG.b _))).mono ?_
                  rintro e w4 ⟨rfl, hb⟩
                  have hcl : wr.heap.size < w4.heap.size := by have := hb.size; simp at this; omega
                  have hAC : ob A ≠ some wr.heap.size := fun q => by have := hG.e.top q; omega
                  have hgC : wr.heap.size ≠ g := by have := hG.lt; omega
                  replace hG := (hG.alloc _).keep hb
                  replace C := C.keep hb
                  clear GA hb KK
                  cases qo : Oz.okc Z k j s
                  · have E1 := Lib.hid (Oz.coE_f qo).1
                    have E3 := Lib.hid (Oz.eS_f (i := i) qo)
                    rw [E1.out]
                    go_wp2_with fail
                    go_roundw
                    case rel => exact ⟨s + 1, c, cC, A, AC, by omega, by go_num, by rw [E3.out, HL.out], hG.cast (by rw [E3.out, HL.out])⟩
                    case measure => simp [intOf]; omega
                  have E1 := Lib.hid (Oz.coE_t qo).1
                  have E2 := Lib.hid (Oz.coE_t qo).2
                  have E3 := Lib.hid (Oz.eS_t (i := i) qo)
                  rw [E1.out, E2.out]
                  have kb := KB.out qo
                  have KD := Oz.dfW_nn (i : Int) (j : Int)
                  have KD1 := Oz.dfW_le (i := (i : Int)) (j := (j : Int)) (by omega) (by omega)
                  have pb := Oz.cc_le O KD KD1
                  have KQ := Lib.hid (fun W => change_c (i : Int) (j : Int) W (by omega) (by omega))
                  have HX : Hid ((Oz.ed Z k i j s).c = Oz.cs Z k j s + Z.cc * Oz.dfW (i : Int) (j : Int)) := Lib.hid rfl
                  have HF : Hid (((Oz.ed Z k i j s).f : Int) = ((Oz.nod Z k i : Nat) : Int)) := Lib.hid rfl
                  have HT : Hid (((Oz.ed Z k i j s).t : Int) = 1 + (k : Int) * (Z.nl : Int) + (j : Int)) := Lib.hid (by unfold Oz.ed; push_cast; rfl)
                  have HXL : Hid ((Oz.ed Z k i j s).l = (j : Int)) := Lib.hid rfl
                  have HXS : Hid ((Oz.ed Z k i j s).s = (s : Int)) := Lib.hid rfl
                  have E4 : Hid (Oz.eK Z k ++ Oz.eI Z k i ++ Oz.eJ Z k i j ++ Oz.eS Z k i j (s + 1) = L ++ [Oz.ed Z k i j s]) := Lib.hid (by rw [← HL.out, E3.out, ← List.append_assoc])
                  clear KB E3 qo
                  generalize Oz.cs Z k j s = px at *
                  generalize Oz.dfW (i : Int) (j : Int) = d at *
                  generalize hff : ((Oz.nod Z k i : Nat) : Int) = f at *
                  have HFF := Lib.hid hff
                  clear hff
                  generalize Oz.ed Z k i j s = xe at *
                  obtain ⟨x0, x1_⟩ := kb
                  obtain ⟨p0, p1⟩ := pb
                  go_upto_region 25 with fail
                  obtain ⟨W0, hW0⟩ : ∃ W0, W0 = World.drew w4 := ⟨_, rfl⟩
                  have hS : GS w W0 Z Y g A AC c cC L Oz.cN := by rw [hW0]; exact hG.drew
                  have CB : Blk W0 wr.heap.size 35 #[.int .i64 (j : Int), .int .i64 (s : Int)] := by rw [hW0]; exact C.drew
                  have hcl2 : wr.heap.size < W0.heap.size := by rw [hW0]; exact hcl
                  have GB := hS.gb
                  have PB := hS.p
                  have hA1 : ob A ≠ some g := hS.na (Nat.le_refl _)
                  have hA0 : ob A ≠ some w.heap.size := hS.na (by have := hS.l; omega)
                  have hne : w.heap.size ≠ g := by have := hS.l; omega
                  clear hG C
                  
                  refine wp_region_inv (JP1 w W0 Z g c A L k i j f px d) [87, 88, 89, 90, 91, 92, 93, 94, 95, 96, 97, 98, 99, 100, 101, 102, 103, 104, 105, 106, 107] 22 (by kernel_rfl) (by kernel_rfl) (by kernel_rfl) ?h0 ?st ?fin
                  case h0 => rw [← hW0]; exact ⟨Apd.start _ _ _ _ _ _ _ _ _ _, fun q => q.elim, Vs.start _ _, fun q => q.elim⟩
                  case st =>
                    refine StepsOk.consV (i := 0) rfl rfl rfl (JP1_congr _ _ _ _ _ _ _ _ _ _ _ _ _) (fun L_ x G w1 a K Q hx h0 hn hp hJ hK => ?_) ?_
                    · skip
                      have q6 : a.tmps.getD 6 undef = .pointer (some ⟨g, 0, none⟩) := (h0 6 (by simp)).trans rfl
                      have hM := hJ.1
                      clear hx h0
                      go_simp
                      refine hK (.pointer (some ⟨g, 1, none⟩)) G _ ?_
                      exact ⟨hM.iff (orI (by decide)) (orI (by decide)) (orI (by decide)), fun q => .inr (hJ.2.1 (q.resolve_left (by decide))), hJ.2.2.1.put (d := 87) rfl (vs_one (k := 0) rfl ⟨rfl, rfl⟩), fun q => (upx_ne rfl).trans (hJ.2.2.2 (q.resolve_left (by decide)))⟩
                    refine StepsOk.consV (i := 1) rfl rfl rfl (JP1_congr _ _ _ _ _ _ _ _ _ _ _ _ _) (fun L_ x G w1 a K Q hx h0 hn hp hJ hK => ?_) ?_
                    · skip
                      have p0 : L_ 0 := hp ⟨0, .data⟩ (by simp) rfl
                      have q87 : a.tmps.getD 87 undef = .pointer (some ⟨g, 1, none⟩) := (hx 87 (by simp)).trans (hJ.2.2.1.get 0 rfl p0)
                      have hM := hJ.1
                      clear hx h0
                      have hc := (hM.var GB hA1 (fun q => hn (hJ.2.1 (hM.k3 q)))).open2
                      have c0_ := hc.1
                      have c1_ := hc.2.1
                      clear hc
                      go_simp
                      refine hK (.slice A (L).length c) G _ ?_
                      exact ⟨hM.iff (orI (by decide)) (orI (by decide)) (orI (by decide)), fun _ => .inl rfl, hJ.2.2.1.put (d := 88) rfl (vs_one (k := 1) rfl ⟨rfl, rfl⟩), fun q => (upx_ne rfl).trans (hJ.2.2.2 (q.resolve_left (by decide)))⟩
                    refine StepsOk.consV (i := 2) rfl rfl rfl (JP1_congr _ _ _ _ _ _ _ _ _ _ _ _ _) (fun L_ x G w1 a K Q hx h0 hn hp hJ hK => ?_) ?_
                    · skip
                      have q12 : a.tmps.getD 12 undef = .int .i64 f := (h0 12 (by simp)).trans rfl
                      have hM := hJ.1
                      clear hx h0
                      go_simp
                      refine hK (.int .i64 f) G _ ?_
                      exact ⟨hM.iff (orI (by decide)) (orI (by decide)) (orI (by decide)), fun q => .inr (hJ.2.1 (q.resolve_left (by decide))), hJ.2.2.1.put (d := 89) rfl (vs_one (k := 2) rfl ⟨rfl, rfl⟩), fun q => (upx_ne rfl).trans (hJ.2.2.2 (q.resolve_left (by decide)))⟩
                    refine StepsOk.consV (i := 3) rfl rfl rfl (JP1_congr _ _ _ _ _ _ _ _ _ _ _ _ _) (fun L_ x G w1 a K Q hx h0 hn hp hJ hK => ?_) ?_
                    · skip
                      have q8 : a.tmps.getD 8 undef = .int .i64 (k : Int) := (h0 8 (by simp)).trans rfl
                      have hM := hJ.1
                      clear hx h0
                      go_simp
                      refine hK (.int .i64 (k : Int)) G _ ?_
                      exact ⟨hM.iff (orI (by decide)) (orI (by decide)) (orI (by decide)), fun q => .inr (hJ.2.1 (q.resolve_left (by decide))), hJ.2.2.1.put (d := 90) rfl (vs_one (k := 3) rfl ⟨rfl, rfl⟩), fun q => (upx_ne rfl).trans (hJ.2.2.2 (q.resolve_left (by decide)))⟩
                    refine StepsOk.consV (i := 4) rfl rfl rfl (JP1_congr _ _ _ _ _ _ _ _ _ _ _ _ _) (fun L_ x G w1 a K Q hx h0 hn hp hJ hK => ?_) ?_
                    · skip
                      have q5 : a.tmps.getD 5 undef = .int .i64 (Z.nl : Int) := (h0 5 (by simp)).trans rfl
                      have hM := hJ.1
                      clear hx h0
                      go_simp
                      refine hK (.int .i64 (Z.nl : Int)) G _ ?_
                      exact ⟨hM.iff (orI (by decide)) (orI (by decide)) (orI (by decide)), fun q => .inr (hJ.2.1 (q.resolve_left (by decide))), hJ.2.2.1.put (d := 91) rfl (vs_one (k := 4) rfl ⟨rfl, rfl⟩), fun q => (upx_ne rfl).trans (hJ.2.2.2 (q.resolve_left (by decide)))⟩
                    refine StepsOk.consV (i := 5) rfl rfl rfl (JP1_congr _ _ _ _ _ _ _ _ _ _ _ _ _) (fun L_ x G w1 a K Q hx h0 hn hp hJ hK => ?_) ?_
                    · skip
                      have p3 : L_ 3 := hp ⟨3, .data⟩ (by simp) rfl
                      have q90 : a.tmps.getD 90 undef = .int .i64 (k : Int) := (hx 90 (by simp)).trans (hJ.2.2.1.get 3 rfl p3)
                      have p4 : L_ 4 := hp ⟨4, .data⟩ (by simp) rfl
                      have q91 : a.tmps.getD 91 undef = .int .i64 (Z.nl : Int) := (hx 91 (by simp)).trans (hJ.2.2.1.get 4 rfl p4)
                      have hM := hJ.1
                      clear hx h0
                      go_simp
                      rw [IntWalk.i64_in ((k : Int) * (Z.nl : Int)) (by omega)]
                      refine hK (.int .i64 ((k : Int) * (Z.nl : Int))) G _ ?_
                      exact ⟨hM.iff (orI (by decide)) (orI (by decide)) (orI (by decide)), fun q => .inr (hJ.2.1 (q.resolve_left (by decide))), hJ.2.2.1.put (d := 92) rfl (vs_one (k := 5) rfl ⟨rfl, rfl⟩), fun q => (upx_ne rfl).trans (hJ.2.2.2 (q.resolve_left (by decide)))⟩
                    refine StepsOk.consV (i := 6) rfl rfl rfl (JP1_congr _ _ _ _ _ _ _ _ _ _ _ _ _) (fun L_ x G w1 a K Q hx h0 hn hp hJ hK => ?_) ?_
                    · skip
                      have p5 : L_ 5 := hp ⟨5, .data⟩ (by simp) rfl
                      have q92 : a.tmps.getD 92 undef = .int .i64 ((k : Int) * (Z.nl : Int)) := (hx 92 (by simp)).trans (hJ.2.2.1.get 5 rfl p5)
                      have hM := hJ.1
                      clear hx h0
                      go_simp
                      rw [IntWalk.i64_in (1 + (k : Int) * (Z.nl : Int)) (by omega)]
                      refine hK (.int .i64 (1 + (k : Int) * (Z.nl : Int))) G _ ?_
                      exact ⟨hM.iff (orI (by decide)) (orI (by decide)) (orI (by decide)), fun q => .inr (hJ.2.1 (q.resolve_left (by decide))), hJ.2.2.1.put (d := 93) rfl (vs_one (k := 6) rfl ⟨rfl, rfl⟩), fun q => (upx_ne rfl).trans (hJ.2.2.2 (q.resolve_left (by decide)))⟩
                    refine StepsOk.consV (i := 7) rfl rfl rfl (JP1_congr _ _ _ _ _ _ _ _ _ _ _ _ _) (fun L_ x G w1 a K Q hx h0 hn hp hJ hK => ?_) ?_
                    · skip
                      have q13 : a.tmps.getD 13 undef = .int .i64 (j : Int) := (h0 13 (by simp)).trans rfl
                      have hM := hJ.1
                      clear hx h0
                      go_simp
                      refine hK (.int .i64 (j : Int)) G _ ?_
                      exact ⟨hM.iff (orI (by decide)) (orI (by decide)) (orI (by decide)), fun q => .inr (hJ.2.1 (q.resolve_left (by decide))), hJ.2.2.1.put (d := 94) rfl (vs_one (k := 7) rfl ⟨rfl, rfl⟩), fun q => (upx_ne rfl).trans (hJ.2.2.2 (q.resolve_left (by decide)))⟩
                    refine StepsOk.consV (i := 8) rfl rfl rfl (JP1_congr _ _ _ _ _ _ _ _ _ _ _ _ _) (fun L_ x G w1 a K Q hx h0 hn hp hJ hK => ?_) ?_
                    · skip
                      have p6 : L_ 6 := hp ⟨6, .data⟩ (by simp) rfl
                      have q93 : a.tmps.getD 93 undef = .int .i64 (1 + (k : Int) * (Z.nl : Int)) := (hx 93 (by simp)).trans (hJ.2.2.1.get 6 rfl p6)
                      have p7 : L_ 7 := hp ⟨7, .data⟩ (by simp) rfl
                      have q94 : a.tmps.getD 94 undef = .int .i64 (j : Int) := (hx 94 (by simp)).trans (hJ.2.2.1.get 7 rfl p7)
                      have hM := hJ.1
                      clear hx h0
                      go_simp
                      rw [IntWalk.i64_in (1 + (k : Int) * (Z.nl : Int) + (j : Int)) (by omega)]
                      refine hK (.int .i64 (1 + (k : Int) * (Z.nl : Int) + (j : Int))) G _ ?_
                      exact ⟨hM.iff (orI (by decide)) (orI (by decide)) (orI (by decide)), fun q => .inr (hJ.2.1 (q.resolve_left (by decide))), hJ.2.2.1.put (d := 95) rfl (vs_one (k := 8) rfl ⟨rfl, rfl⟩), fun q => (upx_ne rfl).trans (hJ.2.2.2 (q.resolve_left (by decide)))⟩
                    refine StepsOk.consV (i := 9) rfl rfl rfl (JP1_congr _ _ _ _ _ _ _ _ _ _ _ _ _) (fun L_ x G w1 a K Q hx h0 hn hp hJ hK => ?_) ?_
                    · skip
                      have q16 : a.tmps.getD 16 undef = .int .i64 px := (h0 16 (by simp)).trans rfl
                      have hM := hJ.1
                      clear hx h0
                      go_simp
                      refine hK (.int .i64 px) G _ ?_
                      exact ⟨hM.iff (orI (by decide)) (orI (by decide)) (orI (by decide)), fun q => .inr (hJ.2.1 (q.resolve_left (by decide))), hJ.2.2.1.put (d := 96) rfl (vs_one (k := 9) rfl ⟨rfl, rfl⟩), fun q => (upx_ne rfl).trans (hJ.2.2.2 (q.resolve_left (by decide)))⟩
                    refine StepsOk.consV (i := 10) rfl rfl rfl (JP1_congr _ _ _ _ _ _ _ _ _ _ _ _ _) (fun L_ x G w1 a K Q hx h0 hn hp hJ hK => ?_) ?_
                    · skip
                      have q1 : a.tmps.getD 1 undef = .pointer (some ⟨w.heap.size, 0, none⟩) := (h0 1 (by simp)).trans rfl
                      have hM := hJ.1
                      clear hx h0
                      go_simp
                      refine hK (.pointer (some ⟨w.heap.size, 21, none⟩)) G _ ?_
                      exact ⟨hM.iff (orI (by decide)) (orI (by decide)) (orI (by decide)), fun q => .inr (hJ.2.1 (q.resolve_left (by decide))), hJ.2.2.1.put (d := 97) rfl (vs_one (k := 10) rfl ⟨rfl, rfl⟩), fun q => (upx_ne rfl).trans (hJ.2.2.2 (q.resolve_left (by decide)))⟩
                    refine StepsOk.consV (i := 11) rfl rfl rfl (JP1_congr _ _ _ _ _ _ _ _ _ _ _ _ _) (fun L_ x G w1 a K Q hx h0 hn hp hJ hK => ?_) ?_
                    · skip
                      have p10 : L_ 10 := hp ⟨10, .data⟩ (by simp) rfl
                      have q97 : a.tmps.getD 97 undef = .pointer (some ⟨w.heap.size, 21, none⟩) := (hx 97 (by simp)).trans (hJ.2.2.1.get 10 rfl p10)
                      have hM := hJ.1
                      clear hx h0
                      have hc := (hM.blk PB hA0 hne).ow24
                      have c21_ := hc.2.2.2.2.1
                      have c22_ := hc.2.2.2.2.2.1
                      have c23_ := hc.2.2.2.2.2.2.1
                      clear hc
                      go_simp
                      refine hK (.int .i64 Z.cc) G _ ?_
                      exact ⟨hM.iff (orI (by decide)) (orI (by decide)) (orI (by decide)), fun q => .inr (hJ.2.1 (q.resolve_left (by decide))), hJ.2.2.1.put (d := 98) rfl (vs_one (k := 11) rfl ⟨rfl, rfl⟩), fun q => (upx_ne rfl).trans (hJ.2.2.2 (q.resolve_left (by decide)))⟩
                    refine StepsOk.consV (i := 12) rfl rfl rfl (JP1_congr _ _ _ _ _ _ _ _ _ _ _ _ _) (fun L_ x G w1 a K Q hx h0 hn hp hJ hK => ?_) ?_
                    · skip
                      have q11 : a.tmps.getD 11 undef = .int .i64 (i : Int) := (h0 11 (by simp)).trans rfl
                      have hM := hJ.1
                      clear hx h0
                      go_simp
                      refine hK (.int .i64 (i : Int)) G _ ?_
                      exact ⟨hM.iff (orI (by decide)) (orI (by decide)) (orI (by decide)), fun q => .inr (hJ.2.1 (q.resolve_left (by decide))), hJ.2.2.1.put (d := 99) rfl (vs_one (k := 12) rfl ⟨rfl, rfl⟩), fun q => (upx_ne rfl).trans (hJ.2.2.2 (q.resolve_left (by decide)))⟩
                    refine StepsOk.consV (i := 13) rfl rfl rfl (JP1_congr _ _ _ _ _ _ _ _ _ _ _ _ _) (fun L_ x G w1 a K Q hx h0 hn hp hJ hK => ?_) ?_
                    · skip
                      have q13 : a.tmps.getD 13 undef = .int .i64 (j : Int) := (h0 13 (by simp)).trans rfl
                      have hM := hJ.1
                      clear hx h0
                      go_simp
                      refine hK (.int .i64 (j : Int)) G _ ?_
                      exact ⟨hM.iff (orI (by decide)) (orI (by decide)) (orI (by decide)), fun q => .inr (hJ.2.1 (q.resolve_left (by decide))), hJ.2.2.1.put (d := 100) rfl (vs_one (k := 13) rfl ⟨rfl, rfl⟩), fun q => (upx_ne rfl).trans (hJ.2.2.2 (q.resolve_left (by decide)))⟩
                    refine StepsOk.consV (i := 14) rfl rfl rfl (JP1_congr _ _ _ _ _ _ _ _ _ _ _ _ _) (fun L_ x G w1 a K Q hx h0 hn hp hJ hK => ?_) ?_
                    · skip
                      have p12 : L_ 12 := hp ⟨12, .data⟩ (by simp) rfl
                      have q99 : a.tmps.getD 99 undef = .int .i64 (i : Int) := (hx 99 (by simp)).trans (hJ.2.2.1.get 12 rfl p12)
                      have p13 : L_ 13 := hp ⟨13, .data⟩ (by simp) rfl
                      have q100 : a.tmps.getD 100 undef = .int .i64 (j : Int) := (hx 100 (by simp)).trans (hJ.2.2.1.get 13 rfl p13)
                      have hM := hJ.1
                      clear hx h0
                      go_simp
                      refine (KQ.out _).mono ?_
                      rintro e w2 ⟨rfl, rfl⟩
                      try go_simp
                      refine hK (.int .i64 d) G _ ?_
                      exact ⟨hM.iff (orI (by decide)) (orI (by decide)) (orI (by decide)), fun q => .inr (hJ.2.1 (q.resolve_left (by decide))), hJ.2.2.1.put (d := 101) rfl (vs_one (k := 14) rfl ⟨rfl, rfl⟩), fun q => (upx_ne rfl).trans (hJ.2.2.2 (q.resolve_left (by decide)))⟩
                    refine StepsOk.consV (i := 15) rfl rfl rfl (JP1_congr _ _ _ _ _ _ _ _ _ _ _ _ _) (fun L_ x G w1 a K Q hx h0 hn hp hJ hK => ?_) ?_
                    · skip
                      have p11 : L_ 11 := hp ⟨11, .data⟩ (by simp) rfl
                      have q98 : a.tmps.getD 98 undef = .int .i64 Z.cc := (hx 98 (by simp)).trans (hJ.2.2.1.get 11 rfl p11)
                      have p14 : L_ 14 := hp ⟨14, .data⟩ (by simp) rfl
                      have q101 : a.tmps.getD 101 undef = .int .i64 d := (hx 101 (by simp)).trans (hJ.2.2.1.get 14 rfl p14)
                      have hM := hJ.1
                      clear hx h0
                      go_simp
                      rw [IntWalk.i64_in (Z.cc * d) (by omega)]
                      refine hK (.int .i64 (Z.cc * d)) G _ ?_
                      exact ⟨hM.iff (orI (by decide)) (orI (by decide)) (orI (by decide)), fun q => .inr (hJ.2.1 (q.resolve_left (by decide))), hJ.2.2.1.put (d := 102) rfl (vs_one (k := 15) rfl ⟨rfl, rfl⟩), fun q => (upx_ne rfl).trans (hJ.2.2.2 (q.resolve_left (by decide)))⟩
                    refine StepsOk.consV (i := 16) rfl rfl rfl (JP1_congr _ _ _ _ _ _ _ _ _ _ _ _ _) (fun L_ x G w1 a K Q hx h0 hn hp hJ hK => ?_) ?_
                    · skip
                      have p9 : L_ 9 := hp ⟨9, .data⟩ (by simp) rfl
                      have q96 : a.tmps.getD 96 undef = .int .i64 px := (hx 96 (by simp)).trans (hJ.2.2.1.get 9 rfl p9)
                      have p15 : L_ 15 := hp ⟨15, .data⟩ (by simp) rfl
                      have q102 : a.tmps.getD 102 undef = .int .i64 (Z.cc * d) := (hx 102 (by simp)).trans (hJ.2.2.1.get 15 rfl p15)
                      have hM := hJ.1
                      clear hx h0
                      go_simp
                      rw [IntWalk.i64_in (px + Z.cc * d) (by omega)]
                      refine hK (.int .i64 (px + Z.cc * d)) G _ ?_
                      exact ⟨hM.iff (orI (by decide)) (orI (by decide)) (orI (by decide)), fun q => .inr (hJ.2.1 (q.resolve_left (by decide))), hJ.2.2.1.put (d := 103) rfl (vs_one (k := 16) rfl ⟨rfl, rfl⟩), fun q => (upx_ne rfl).trans (hJ.2.2.2 (q.resolve_left (by decide)))⟩
                    refine StepsOk.consV (i := 17) rfl rfl rfl (JP1_congr _ _ _ _ _ _ _ _ _ _ _ _ _) (fun L_ x G w1 a K Q hx h0 hn hp hJ hK => ?_) ?_
                    · skip
                      have p2 : L_ 2 := hp ⟨2, .data⟩ (by simp) rfl
                      have q89 : a.tmps.getD 89 undef = .int .i64 f := (hx 89 (by simp)).trans (hJ.2.2.1.get 2 rfl p2)
                      have p8 : L_ 8 := hp ⟨8, .data⟩ (by simp) rfl
                      have q95 : a.tmps.getD 95 undef = .int .i64 (1 + (k : Int) * (Z.nl : Int) + (j : Int)) := (hx 95 (by simp)).trans (hJ.2.2.1.get 8 rfl p8)
                      have p16 : L_ 16 := hp ⟨16, .data⟩ (by simp) rfl
                      have q103 : a.tmps.getD 103 undef = .int .i64 (px + Z.cc * d) := (hx 103 (by simp)).trans (hJ.2.2.1.get 16 rfl p16)
                      have hM := hJ.1
                      clear hx h0
                      have r89 := q89
                      rw [Array.getD_eq_getD_getElem?] at r89
                      have r95 := q95
                      rw [Array.getD_eq_getD_getElem?] at r95
                      have r103 := q103
                      rw [Array.getD_eq_getD_getElem?] at r103
                      go_simp
                      try simp only [r89, r95, r103]
                      try go_simp
                      refine hK (.agg #[.int .i64 f, .int .i64 (1 + (k : Int) * (Z.nl : Int) + (j : Int)), .int .i64 (px + Z.cc * d)]) G _ ?_
                      exact ⟨hM.iff (orI (by decide)) (orI (by decide)) (orI (by decide)), fun q => .inr (hJ.2.1 (q.resolve_left (by decide))), hJ.2.2.1.put (d := 104) rfl (vs_one (k := 17) rfl ⟨rfl, rfl⟩), fun q => (upx_ne rfl).trans (hJ.2.2.2 (q.resolve_left (by decide)))⟩
                    refine StepsOk.consV (i := 18) rfl rfl rfl (JP1_congr _ _ _ _ _ _ _ _ _ _ _ _ _) (fun L_ x G w1 a K Q hx h0 hn hp hJ hK => ?_) ?_
                    · skip
                      have p17 : L_ 17 := hp ⟨17, .data⟩ (by simp) rfl
                      have q104 : a.tmps.getD 104 undef = .agg #[.int .i64 f, .int .i64 (1 + (k : Int) * (Z.nl : Int) + (j : Int)), .int .i64 (px + Z.cc * d)] := (hx 104 (by simp)).trans (hJ.2.2.1.get 17 rfl p17)
                      have hM := hJ.1
                      clear hx h0
                      have r104 := q104
                      rw [Array.getD_eq_getD_getElem?] at r104
                      go_simp
                      try simp only [r104]
                      try go_simp
                      refine hK (_) G _ ?_
                      have hw_ := hM.s0 hn
                      subst hw_
                      exact ⟨Apd.made hM hn (.inl rfl) (fun q => hn (hM.k2 (q.resolve_left (by decide)))) (fun q => hn (hM.k2 (hM.k3 (q.resolve_left (by decide))))), fun q => .inr (hJ.2.1 (q.resolve_left (by decide))), hJ.2.2.1.put (d := 105) rfl (vs_one (k := 18) rfl ⟨rfl, rfl⟩), fun q => (upx_ne rfl).trans (hJ.2.2.2 (q.resolve_left (by decide)))⟩
                    refine StepsOk.consV (i := 19) rfl rfl rfl (JP1_congr _ _ _ _ _ _ _ _ _ _ _ _ _) (fun L_ x G w1 a K Q hx h0 hn hp hJ hK => ?_) ?_
                    · skip
                      have p1 : L_ 1 := hp ⟨1, .data⟩ (by simp) rfl
                      have q88 : a.tmps.getD 88 undef = .slice A (L).length c := (hx 88 (by simp)).trans (hJ.2.2.1.get 1 rfl p1)
                      have p18 : L_ 18 := hp ⟨18, .data⟩ (by simp) rfl
                      have q105 : a.tmps.getD 105 undef = .slice (some ⟨W0.heap.size, 0, none⟩) 1 1 := (hx 105 (by simp)).trans (hJ.2.2.1.get 18 rfl p18)
                      have hM := hJ.1
                      clear hx h0
                      have hw := hM.s1 p18 hn
                      subst hw
                      have own0 := hS.e.alloc (.cells #[.int .i64 (f), .int .i64 (1 + (k : Int) * (Z.nl : Int) + (j : Int)), .int .i64 (px + Z.cc * d)] 75)
                      have src0 := rd_row3 W0 75 (f) (1 + (k : Int) * (Z.nl : Int) + (j : Int)) (px + Z.cc * d)
                      have hBs : g + 1 ≤ (World.alloc W0 (.cells #[.int .i64 (f), .int .i64 (1 + (k : Int) * (Z.nl : Int) + (j : Int)), .int .i64 (px + Z.cc * d)] 75)).heap.size := by have := hS.lt; simp; omega
                      refine wp_append_Rd _ _ _ 39 rfl (g + 1) 75 i0 _ 3 24 Try.underlying39 HI.out HZ0.out HZ1.out HZ2.out rfl (by decide) q88 own0 q105 src0 (one_iv _) (by omega) (by omega) hBs ?_
                      intro A9 c9 w2 own9 hgr_ hob
                      refine Exists.elim (oa_form own9) fun u9 hu => ?_
                      subst hu
                      refine hK (_) (fun t => if t = 0 then u9 else if t = 1 then c9 else G t) _ ?_
                      exact ⟨Apd.ap ⟨own9, hgr_, by simpa using hob⟩ (.inr p18) (.inl rfl) (fun q => hn (hM.k3 (q.resolve_left (by decide)))), fun _ => .inr p1, hJ.2.2.1.skip rfl, fun _ => upx_at _ _ _⟩
                    refine StepsOk.consV (i := 20) rfl rfl rfl (JP1_congr _ _ _ _ _ _ _ _ _ _ _ _ _) (fun L_ x G w1 a K Q hx h0 hn hp hJ hK => ?_) ?_
                    · skip
                      have q6 : a.tmps.getD 6 undef = .pointer (some ⟨g, 0, none⟩) := (h0 6 (by simp)).trans rfl
                      have hM := hJ.1
                      clear hx h0
                      go_simp
                      refine hK (.pointer (some ⟨g, 1, none⟩)) G _ ?_
                      exact ⟨hM.iff (orI (by decide)) (orI (by decide)) (orI (by decide)), fun q => .inr (hJ.2.1 (q.resolve_left (by decide))), hJ.2.2.1.put (d := 107) rfl (vs_one (k := 19) rfl ⟨rfl, rfl⟩), fun q => (upx_ne rfl).trans (hJ.2.2.2 (q.resolve_left (by decide)))⟩
                    refine StepsOk.consV (i := 21) rfl rfl rfl (JP1_congr _ _ _ _ _ _ _ _ _ _ _ _ _) (fun L_ x G w1 a K Q hx h0 hn hp hJ hK => ?_) ?_
                    · skip
                      have p19 : L_ 19 := hp ⟨19, .data⟩ (by simp) rfl
                      have q106 : a.tmps.getD 106 undef = .slice (oa (G 0)) ((L).length + 1) (G 1) := (hx 106 (by simp)).trans (hJ.2.2.2 p19)
                      have p20 : L_ 20 := hp ⟨20, .data⟩ (by simp) rfl
                      have q107 : a.tmps.getD 107 undef = .pointer (some ⟨g, 1, none⟩) := (hx 107 (by simp)).trans (hJ.2.2.1.get 19 rfl p20)
                      have hM := hJ.1
                      clear hx h0
                      have hc := (hM.var GB hA1 hn).open2
                      have c0_ := hc.1
                      have c1_ := hc.2.1
                      have c2_ := hc.2.2.1
                      clear hc
                      go_simp
                      refine hK undef G (w1.setCell ⟨g, 1, none⟩ (.slice (oa (G 0)) ((L).length + 1) (G 1))) ?_
                      exact ⟨Apd.st hM p19 hn (.inr (hM.k2 p19)) (.inr p19) (.inl rfl), fun q => .inr (hJ.2.1 (q.resolve_left (by decide))), hJ.2.2.1.put0 rfl, fun q => (upx_ne rfl).trans (hJ.2.2.2 (q.resolve_left (by decide)))⟩
                    exact StepsOk.nil
                  case fin =>
                    intro L_ x G wf hall hJ
                    have hM := hJ.1
                    have p_ := hall 21 (by decide)
                    have y0 := hJ.2.2.1.get 0 rfl (hall 0 (by decide))
                    have y1 := hJ.2.2.1.get 1 rfl (hall 1 (by decide))
                    have y2 := hJ.2.2.1.get 2 rfl (hall 2 (by decide))
                    have y3 := hJ.2.2.1.get 3 rfl (hall 3 (by decide))
                    have y4 := hJ.2.2.1.get 4 rfl (hall 4 (by decide))
                    have y5 := hJ.2.2.1.get 5 rfl (hall 5 (by decide))
                    have y6 := hJ.2.2.1.get 6 rfl (hall 6 (by decide))
                    have y7 := hJ.2.2.1.get 7 rfl (hall 7 (by decide))
                    have y8 := hJ.2.2.1.get 8 rfl (hall 8 (by decide))
                    have y9 := hJ.2.2.1.get 9 rfl (hall 9 (by decide))
                    have y10 := hJ.2.2.1.get 10 rfl (hall 10 (by decide))
                    have y11 := hJ.2.2.1.get 11 rfl (hall 11 (by decide))
                    have y12 := hJ.2.2.1.get 12 rfl (hall 12 (by decide))
                    have y13 := hJ.2.2.1.get 13 rfl (hall 13 (by decide))
                    have y14 := hJ.2.2.1.get 14 rfl (hall 14 (by decide))
                    have y15 := hJ.2.2.1.get 15 rfl (hall 15 (by decide))
                    have y16 := hJ.2.2.1.get 16 rfl (hall 16 (by decide))
                    have y17 := hJ.2.2.1.get 17 rfl (hall 17 (by decide))
                    have y18 := hJ.2.2.1.get 18 rfl (hall 18 (by decide))
                    have y20 := hJ.2.2.1.get 19 rfl (hall 20 (by decide))
                    have y19 := hJ.2.2.2 (hall 19 (by decide))
                    simp only [putAll, Act.put, List.setIfInBounds_toArray, List.set_cons_zero, List.set_cons_succ]
                    simp only [y0, y1, y2, y3, y4, y5, y6, y7, y8, y9, y10, y11, y12, y13, y14, y15, y16, y17, y18, y19, y20]
                    clear hall hJ y0 y1 y2 y3 y4 y5 y6 y7 y8 y9 y10 y11 y12 y13 y14 y15 y16 y17 y18 y20 y19
                    generalize oa (G 0) = A9 at *
                    generalize G 1 = c9 at *
                    obtain ⟨oe, oq, dj, gb, rb, pb_, bb, far⟩ := Apd.done hS hM p_ (x := xe) HF.out.symm HT.out.symm (by rw [HX.out])
                    replace CB := far _ _ _ hcl2 CB hAC hgC
                    have hl_ := hS.l
                    obtain ⟨c0, c1, c2, c3⟩ := CB.open2
                    clear far hM hS GB PB p_ hA1 hA0 hne hgC hAC
                    have z1 : L.length + 1 ≤ 9223372036854775807 := Nat.le_trans (Nat.succ_le_succ hlen) (by decide)
                    have z2 : (L.length + 1) * 16 ≤ 140737488355328 := Nat.le_trans (Nat.mul_le_mul_right 16 (Nat.succ_le_succ hlen)) (by decide)
                    have z3 := fun o => Nat.le_trans (Blk.lt gb) (ba _ o).size
                    go_wp2_with (at_builtin; refine wpList_append_Rd _ rfl _ _ 28 rfl (g + 1) 35 i2 _ 2 16 Try.underlying28 KI.out KZ0.out KZ1.out KZ2.out rfl (by decide) rfl (oq.alloc _) rfl (rd_row2 _ _ _ _ rfl) (one_iv _) z1 z2 (z3 _) ?_; intro A7_ c7_ w7 o7_ hgr7 hob7; have o7n := own_c (x := xe) (by rw [HXL.out, HXS.out]; exact o7_); have hN := GS.next oe oq dj gb rb pb_ bb hl_ o7n hgr7 hob7; clear oe oq dj gb rb pb_ bb CB c0 c1 c2 c3 o7_ o7n hgr7 hob7)
                    have hff := HFF.out
                    subst hff
                    go_roundw
                    case rel => exact ⟨s + 1, c9, c7_, A9, A7_, by omega, by go_num, by rw [E4.out, List.length_append, List.length_singleton], hN.cast E4.out⟩
                    case measure => simp [intOf]; omega
          · obtain rfl : i = hi + 1 := by omega
            have hli2 : ¬ ((hi + 1 : Nat) : Int) ≤ (hi : Int) := by omega
            have E2 : Hid (Oz.eK Z (k + 1) = Oz.eK Z k ++ Oz.eI Z k (hi + 1)) := Lib.hid (by rw [Oz.eK, A4.out])
            replace E2 := Lib.hid (E2.out.trans HLb.out)
            go_wp2_with fail
            go_roundw
            case rel => exact ⟨k + 1, c, cC, A, AC, by omega, by go_num, by rw [E2.out], hG.cast E2.out⟩
            case measure => simp [intOf]; omega
    · obtain rfl : k = Z.nd := by omega
      obtain ⟨d0, d1, d2, d20, d21, d22, d23, d24, d25⟩ := hG.p.ow24
      obtain ⟨l0, hl0⟩ : ∃ l0 : Nat, l0 = (Z.la - 1).toNat := ⟨_, rfl⟩
      have l1 := Lib.hid (show l0 ≤ Z.nl by omega)
      have l2 := Lib.hid (show (l0 : Int) ≤ Z.la + 2 by omega)
      have l3 := Lib.hid (show max (Z.la - 1) 0 = (l0 : Int) by omega)
      have l5 := Lib.hid (show Z.la - 1 ≤ (l0 : Int) by omega)
      have l4 := Lib.hid (show (l0 : Int) ≤ Z.la - 1 ∨ l0 = 0 by omega)
      clear hl0
      go_wp2_with fail
      go_loopw [7, 18] (fun s7 i_ wr => ∃ (i c cC : Nat) (A AC : Option Addr), (l0 ≤ i ∧ i ≤ Z.nl ∧ (i : Int) ≤ Z.la + 2) ∧ i_ = .int .i64 (i : Int) ∧ s7 = .slice AC (Oz.eK Z Z.nd ++ Oz.eF Z i).length cC ∧ GS w wr Z Y g A AC c cC (Oz.eK Z Z.nd ++ Oz.eF Z i) Oz.cN) (fun _ i_ _ => Z.nl - (intOf i_).toNat)
      case atStart => exact ⟨l0, c, cC, A, AC, ⟨Nat.le_refl _, l1.out, l2.out⟩, by rw [l3.out], by rw [Oz.eF_low0 l4.out, List.append_nil, HLa.out], hG.cast (by rw [Oz.eF_low0 l4.out, List.append_nil, HLa.out])⟩
      case round =>
        clear d0 d1 d2 d20 d21 d22 d23 d24 d25
        clear hG
        obtain ⟨i, c, cC, A, AC, ⟨hi1, hi2, hi3⟩, rfl, rfl, hG⟩ := hrel
        have hlen := Oz.fin_len O (i := i) (by omega)
        generalize hLL : Oz.eK Z Z.nd ++ Oz.eF Z i = L at hG hlen ⊢
        have HL := Lib.hid hLL
        clear hLL
        obtain ⟨d0, d1, d2, d20, d21, d22, d23, d24, d25⟩ := hG.p.ow24
        by_cases hi : (i : Int) ≤ Z.la + 1 ∧ i < Z.nl
        rotate_left
        · have E1 := Lib.hid (Oz.eF_out (Z := Z) hi2 hi)
          have hj4 : ¬ (i : Int) ≤ min (Z.la + 1) ((Z.nl : Int) - 1) := by omega
          have E2 : Hid (Oz.gL Z = L) := Lib.hid (by unfold Oz.gL; rw [E1.out]; exact HL.out)
          replace hG := hG.cast E2.out
          rw [← E2.out]
          obtain ⟨e0, e1, e2, e3⟩ := hG.gb.open2
          obtain ⟨f0, f1, f2, f3⟩ := hG.r.open2
          have hB2 := bst (bst hG.b (p := ⟨w.heap.size + 1, 0, none⟩) (by show _ ≤ w.heap.size + 1; omega) (.int .i64 (Oz.gN Z : Int))) (p := ⟨w.heap.size + 1, 1, none⟩) (by show _ ≤ w.heap.size + 1; omega) (.slice A (Oz.gL Z).length c)
          have o1 := (hG.e.far (p := ⟨w.heap.size + 1, 0, none⟩) (.inr (hG.na (by have := hG.l; show w.heap.size + 1 ≤ g; omega))) (.int .i64 (Oz.gN Z : Int))).far (p := ⟨w.heap.size + 1, 1, none⟩) (.inr (hG.na (by have := hG.l; show w.heap.size + 1 ≤ g; omega))) (.slice A (Oz.gL Z).length c)
          have hq : ob AC ≠ some (w.heap.size + 1) := fun q => by have := hG.q.base q; have := hG.l; omega
          have o2 := (hG.q.far (p := ⟨w.heap.size + 1, 0, none⟩) (.inr hq) (.int .i64 (Oz.gN Z : Int))).far (p := ⟨w.heap.size + 1, 1, none⟩) (.inr hq) (.slice A (Oz.gL Z).length c)
          have hgw : w.heap.size ≤ g + 1 := by have := hG.l; omega
          have RB := (hG.r.set_ 0 (.int .i64 (Oz.gN Z : Int))).set_ 1 (.slice A (Oz.gL Z).length c)
          simp only [List.setIfInBounds_toArray, List.set_cons_zero, List.set_cons_succ] at RB
          obtain ⟨r0, r1, r2, r3⟩ := RB.open2
          go_wp2_with fail
          refine bodyPost_ret (by simp [results, Try.results46, go_sem, r0, r1]; try rfl) rfl ?_
          exact ⟨A, AC, c, cC, rfl, o1.more hgw, o2.more hgw, hB2⟩
        obtain ⟨hi5, hi6⟩ := hi
        have hj4 : (i : Int) ≤ min (Z.la + 1) ((Z.nl : Int) - 1) := by omega
        have KD := Oz.dfW_nn (i : Int) Z.la
        have KD1 := Oz.dfW_le (i := (i : Int)) (j := Z.la) (by omega) (by have := l5.out; omega)
        have pb := Oz.cc_le O KD KD1
        have KQ := Lib.hid (fun W => change_c (i : Int) Z.la W (by omega) (by omega))
        have HX : Hid ((Oz.fed Z i).c = Z.cc * Oz.dfW (i : Int) Z.la) := Lib.hid rfl
        have HF : Hid (((Oz.fed Z i).f : Int) = 1 + ((Z.nd : Int) - 1) * (Z.nl : Int) + (i : Int)) := Lib.hid (by unfold Oz.fed; push_cast; rw [show ((Z.nd - 1 : Nat) : Int) = (Z.nd : Int) - 1 by omega])
        have HT : Hid (((Oz.fed Z i).t : Int) = 1 + (Z.nd : Int) * (Z.nl : Int)) := Lib.hid (by unfold Oz.fed; push_cast; rfl)
        have HXL : Hid ((Oz.fed Z i).l = -1) := Lib.hid rfl
        have HXS : Hid ((Oz.fed Z i).s = -1) := Lib.hid rfl
        have E3 := Lib.hid (Oz.eF_t (Z := Z) (i := i) (by have := l5.out; omega) (by omega))
        have E4 : Hid (Oz.eK Z Z.nd ++ Oz.eF Z (i + 1) = L ++ [Oz.fed Z i]) := Lib.hid (by rw [← HL.out, E3.out, ← List.append_assoc])
        clear E3
        generalize Oz.dfW (i : Int) Z.la = d at *
        generalize Oz.fed Z i = xe at *
        obtain ⟨p0, p1⟩ := pb
        go_upto_region 32 with fail
        clear d0 d1 d2 d20 d21 d22 d23 d24 d25
        obtain ⟨W0, hW0⟩ : ∃ W0, W0 = World.drew wr := ⟨_, rfl⟩
        have hS : GS w W0 Z Y g A AC c cC L Oz.cN := by rw [hW0]; exact hG.drew
        have GB := hS.gb
        have PB := hS.p
        have hA1 : ob A ≠ some g := hS.na (Nat.le_refl _)
        have hA0 : ob A ≠ some w.heap.size := hS.na (by have := hS.l; omega)
        have hne : w.heap.size ≠ g := by have := hS.l; omega
        clear hG
        
        refine wp_region_inv (JP2 w W0 Z g c A L i d) [128, 129, 130, 131, 132, 133, 134, 135, 136, 137, 138, 139, 140, 141, 142, 143, 144, 145, 146, 147, 148, 149, 150, 151] 25 (by kernel_rfl) (by kernel_rfl) (by kernel_rfl) ?h0 ?st ?fin
        case h0 => rw [← hW0]; exact ⟨Apd.start _ _ _ _ _ _ _ _ _ _, fun q => q.elim, Vs.start _ _, fun q => q.elim⟩
        case st =>
          refine StepsOk.consV (i := 0) rfl rfl rfl (JP2_congr _ _ _ _ _ _ _ _ _) (fun L_ x G w1 a K Q hx h0 hn hp hJ hK => ?_) ?_
          · skip
            have q6 : a.tmps.getD 6 undef = .pointer (some ⟨g, 0, none⟩) := (h0 6 (by simp)).trans rfl
            have hM := hJ.1
            clear hx h0
            go_simp
            refine hK (.pointer (some ⟨g, 1, none⟩)) G _ ?_
            exact ⟨hM.iff (orI (by decide)) (orI (by decide)) (orI (by decide)), fun q => .inr (hJ.2.1 (q.resolve_left (by decide))), hJ.2.2.1.put (d := 128) rfl (vs_one (k := 0) rfl ⟨rfl, rfl⟩), fun q => (upx_ne rfl).trans (hJ.2.2.2 (q.resolve_left (by decide)))⟩
          refine StepsOk.consV (i := 1) rfl rfl rfl (JP2_congr _ _ _ _ _ _ _ _ _) (fun L_ x G w1 a K Q hx h0 hn hp hJ hK => ?_) ?_
          · skip
            have p0 : L_ 0 := hp ⟨0, .data⟩ (by simp) rfl
            have q128 : a.tmps.getD 128 undef = .pointer (some ⟨g, 1, none⟩) := (hx 128 (by simp)).trans (hJ.2.2.1.get 0 rfl p0)
            have hM := hJ.1
            clear hx h0
            have hc := (hM.var GB hA1 (fun q => hn (hJ.2.1 (hM.k3 q)))).open2
            have c0_ := hc.1
            have c1_ := hc.2.1
            clear hc
            go_simp
            refine hK (.slice A (L).length c) G _ ?_
            exact ⟨hM.iff (orI (by decide)) (orI (by decide)) (orI (by decide)), fun _ => .inl rfl, hJ.2.2.1.put (d := 129) rfl (vs_one (k := 1) rfl ⟨rfl, rfl⟩), fun q => (upx_ne rfl).trans (hJ.2.2.2 (q.resolve_left (by decide)))⟩
          refine StepsOk.consV (i := 2) rfl rfl rfl (JP2_congr _ _ _ _ _ _ _ _ _) (fun L_ x G w1 a K Q hx h0 hn hp hJ hK => ?_) ?_
          · skip
            have q4 : a.tmps.getD 4 undef = .int .i64 (Z.nd : Int) := (h0 4 (by simp)).trans rfl
            have hM := hJ.1
            clear hx h0
            go_simp
            refine hK (.int .i64 (Z.nd : Int)) G _ ?_
            exact ⟨hM.iff (orI (by decide)) (orI (by decide)) (orI (by decide)), fun q => .inr (hJ.2.1 (q.resolve_left (by decide))), hJ.2.2.1.put (d := 130) rfl (vs_one (k := 2) rfl ⟨rfl, rfl⟩), fun q => (upx_ne rfl).trans (hJ.2.2.2 (q.resolve_left (by decide)))⟩
          refine StepsOk.consV (i := 3) rfl rfl rfl (JP2_congr _ _ _ _ _ _ _ _ _) (fun L_ x G w1 a K Q hx h0 hn hp hJ hK => ?_) ?_
          · skip
            have p2 : L_ 2 := hp ⟨2, .data⟩ (by simp) rfl
            have q130 : a.tmps.getD 130 undef = .int .i64 (Z.nd : Int) := (hx 130 (by simp)).trans (hJ.2.2.1.get 2 rfl p2)
            have hM := hJ.1
            clear hx h0
            go_simp
            rw [IntWalk.i64_in ((Z.nd : Int) - 1) (by omega)]
            refine hK (.int .i64 ((Z.nd : Int) - 1)) G _ ?_
            exact ⟨hM.iff (orI (by decide)) (orI (by decide)) (orI (by decide)), fun q => .inr (hJ.2.1 (q.resolve_left (by decide))), hJ.2.2.1.put (d := 131) rfl (vs_one (k := 3) rfl ⟨rfl, rfl⟩), fun q => (upx_ne rfl).trans (hJ.2.2.2 (q.resolve_left (by decide)))⟩
          refine StepsOk.consV (i := 4) rfl rfl rfl (JP2_congr _ _ _ _ _ _ _ _ _) (fun L_ x G w1 a K Q hx h0 hn hp hJ hK => ?_) ?_
          · skip
            have q5 : a.tmps.getD 5 undef = .int .i64 (Z.nl : Int) := (h0 5 (by simp)).trans rfl
            have hM := hJ.1
            clear hx h0
            go_simp
            refine hK (.int .i64 (Z.nl : Int)) G _ ?_
            exact ⟨hM.iff (orI (by decide)) (orI (by decide)) (orI (by decide)), fun q => .inr (hJ.2.1 (q.resolve_left (by decide))), hJ.2.2.1.put (d := 132) rfl (vs_one (k := 4) rfl ⟨rfl, rfl⟩), fun q => (upx_ne rfl).trans (hJ.2.2.2 (q.resolve_left (by decide)))⟩
          refine StepsOk.consV (i := 5) rfl rfl rfl (JP2_congr _ _ _ _ _ _ _ _ _) (fun L_ x G w1 a K Q hx h0 hn hp hJ hK => ?_) ?_
          · skip
            have p3 : L_ 3 := hp ⟨3, .data⟩ (by simp) rfl
            have q131 : a.tmps.getD 131 undef = .int .i64 ((Z.nd : Int) - 1) := (hx 131 (by simp)).trans (hJ.2.2.1.get 3 rfl p3)
            have p4 : L_ 4 := hp ⟨4, .data⟩ (by simp) rfl
            have q132 : a.tmps.getD 132 undef = .int .i64 (Z.nl : Int) := (hx 132 (by simp)).trans (hJ.2.2.1.get 4 rfl p4)
            have hM := hJ.1
            clear hx h0
            go_simp
            rw [IntWalk.i64_in (((Z.nd : Int) - 1) * (Z.nl : Int)) (by omega)]
            refine hK (.int .i64 (((Z.nd : Int) - 1) * (Z.nl : Int))) G _ ?_
            exact ⟨hM.iff (orI (by decide)) (orI (by decide)) (orI (by decide)), fun q => .inr (hJ.2.1 (q.resolve_left (by decide))), hJ.2.2.1.put (d := 133) rfl (vs_one (k := 5) rfl ⟨rfl, rfl⟩), fun q => (upx_ne rfl).trans (hJ.2.2.2 (q.resolve_left (by decide)))⟩
          refine StepsOk.consV (i := 6) rfl rfl rfl (JP2_congr _ _ _ _ _ _ _ _ _) (fun L_ x G w1 a K Q hx h0 hn hp hJ hK => ?_) ?_
          · skip
            have p5 : L_ 5 := hp ⟨5, .data⟩ (by simp) rfl
            have q133 : a.tmps.getD 133 undef = .int .i64 (((Z.nd : Int) - 1) * (Z.nl : Int)) := (hx 133 (by simp)).trans (hJ.2.2.1.get 5 rfl p5)
            have hM := hJ.1
            clear hx h0
            go_simp
            rw [IntWalk.i64_in (1 + (((Z.nd : Int) - 1) * (Z.nl : Int))) (by omega)]
            refine hK (.int .i64 (1 + (((Z.nd : Int) - 1) * (Z.nl : Int)))) G _ ?_
            exact ⟨hM.iff (orI (by decide)) (orI (by decide)) (orI (by decide)), fun q => .inr (hJ.2.1 (q.resolve_left (by decide))), hJ.2.2.1.put (d := 134) rfl (vs_one (k := 6) rfl ⟨rfl, rfl⟩), fun q => (upx_ne rfl).trans (hJ.2.2.2 (q.resolve_left (by decide)))⟩
          refine StepsOk.consV (i := 7) rfl rfl rfl (JP2_congr _ _ _ _ _ _ _ _ _) (fun L_ x G w1 a K Q hx h0 hn hp hJ hK => ?_) ?_
          · skip
            have q18 : a.tmps.getD 18 undef = .int .i64 (i : Int) := (h0 18 (by simp)).trans rfl
            have hM := hJ.1
            clear hx h0
            go_simp
            refine hK (.int .i64 (i : Int)) G _ ?_
            exact ⟨hM.iff (orI (by decide)) (orI (by decide)) (orI (by decide)), fun q => .inr (hJ.2.1 (q.resolve_left (by decide))), hJ.2.2.1.put (d := 135) rfl (vs_one (k := 7) rfl ⟨rfl, rfl⟩), fun q => (upx_ne rfl).trans (hJ.2.2.2 (q.resolve_left (by decide)))⟩
          refine StepsOk.consV (i := 8) rfl rfl rfl (JP2_congr _ _ _ _ _ _ _ _ _) (fun L_ x G w1 a K Q hx h0 hn hp hJ hK => ?_) ?_
          · skip
            have p6 : L_ 6 := hp ⟨6, .data⟩ (by simp) rfl
            have q134 : a.tmps.getD 134 undef = .int .i64 (1 + (((Z.nd : Int) - 1) * (Z.nl : Int))) := (hx 134 (by simp)).trans (hJ.2.2.1.get 6 rfl p6)
            have p7 : L_ 7 := hp ⟨7, .data⟩ (by simp) rfl
            have q135 : a.tmps.getD 135 undef = .int .i64 (i : Int) := (hx 135 (by simp)).trans (hJ.2.2.1.get 7 rfl p7)
            have hM := hJ.1
            clear hx h0
            go_simp
            rw [IntWalk.i64_in (1 + (((Z.nd : Int) - 1) * (Z.nl : Int)) + (i : Int)) (by omega)]
            refine hK (.int .i64 (1 + (((Z.nd : Int) - 1) * (Z.nl : Int)) + (i : Int))) G _ ?_
            exact ⟨hM.iff (orI (by decide)) (orI (by decide)) (orI (by decide)), fun q => .inr (hJ.2.1 (q.resolve_left (by decide))), hJ.2.2.1.put (d := 136) rfl (vs_one (k := 8) rfl ⟨rfl, rfl⟩), fun q => (upx_ne rfl).trans (hJ.2.2.2 (q.resolve_left (by decide)))⟩
          refine StepsOk.consV (i := 9) rfl rfl rfl (JP2_congr _ _ _ _ _ _ _ _ _) (fun L_ x G w1 a K Q hx h0 hn hp hJ hK => ?_) ?_
          · skip
            have q4 : a.tmps.getD 4 undef = .int .i64 (Z.nd : Int) := (h0 4 (by simp)).trans rfl
            have hM := hJ.1
            clear hx h0
            go_simp
            refine hK (.int .i64 (Z.nd : Int)) G _ ?_
            exact ⟨hM.iff (orI (by decide)) (orI (by decide)) (orI (by decide)), fun q => .inr (hJ.2.1 (q.resolve_left (by decide))), hJ.2.2.1.put (d := 137) rfl (vs_one (k := 9) rfl ⟨rfl, rfl⟩), fun q => (upx_ne rfl).trans (hJ.2.2.2 (q.resolve_left (by decide)))⟩
          refine StepsOk.consV (i := 10) rfl rfl rfl (JP2_congr _ _ _ _ _ _ _ _ _) (fun L_ x G w1 a K Q hx h0 hn hp hJ hK => ?_) ?_
          · skip
            have q5 : a.tmps.getD 5 undef = .int .i64 (Z.nl : Int) := (h0 5 (by simp)).trans rfl
            have hM := hJ.1
            clear hx h0
            go_simp
            refine hK (.int .i64 (Z.nl : Int)) G _ ?_
            exact ⟨hM.iff (orI (by decide)) (orI (by decide)) (orI (by decide)), fun q => .inr (hJ.2.1 (q.resolve_left (by decide))), hJ.2.2.1.put (d := 138) rfl (vs_one (k := 10) rfl ⟨rfl, rfl⟩), fun q => (upx_ne rfl).trans (hJ.2.2.2 (q.resolve_left (by decide)))⟩
          refine StepsOk.consV (i := 11) rfl rfl rfl (JP2_congr _ _ _ _ _ _ _ _ _) (fun L_ x G w1 a K Q hx h0 hn hp hJ hK => ?_) ?_
          · skip
            have p9 : L_ 9 := hp ⟨9, .data⟩ (by simp) rfl
            have q137 : a.tmps.getD 137 undef = .int .i64 (Z.nd : Int) := (hx 137 (by simp)).trans (hJ.2.2.1.get 9 rfl p9)
            have p10 : L_ 10 := hp ⟨10, .data⟩ (by simp) rfl
            have q138 : a.tmps.getD 138 undef = .int .i64 (Z.nl : Int) := (hx 138 (by simp)).trans (hJ.2.2.1.get 10 rfl p10)
            have hM := hJ.1
            clear hx h0
            go_simp
            rw [IntWalk.i64_in ((Z.nd : Int) * (Z.nl : Int)) (by omega)]
            refine hK (.int .i64 ((Z.nd : Int) * (Z.nl : Int))) G _ ?_
            exact ⟨hM.iff (orI (by decide)) (orI (by decide)) (orI (by decide)), fun q => .inr (hJ.2.1 (q.resolve_left (by decide))), hJ.2.2.1.put (d := 139) rfl (vs_one (k := 11) rfl ⟨rfl, rfl⟩), fun q => (upx_ne rfl).trans (hJ.2.2.2 (q.resolve_left (by decide)))⟩
          refine StepsOk.consV (i := 12) rfl rfl rfl (JP2_congr _ _ _ _ _ _ _ _ _) (fun L_ x G w1 a K Q hx h0 hn hp hJ hK => ?_) ?_
          · skip
            have p11 : L_ 11 := hp ⟨11, .data⟩ (by simp) rfl
            have q139 : a.tmps.getD 139 undef = .int .i64 ((Z.nd : Int) * (Z.nl : Int)) := (hx 139 (by simp)).trans (hJ.2.2.1.get 11 rfl p11)
            have hM := hJ.1
            clear hx h0
            go_simp
            rw [IntWalk.i64_in (1 + (Z.nd : Int) * (Z.nl : Int)) (by omega)]
            refine hK (.int .i64 (1 + (Z.nd : Int) * (Z.nl : Int))) G _ ?_
            exact ⟨hM.iff (orI (by decide)) (orI (by decide)) (orI (by decide)), fun q => .inr (hJ.2.1 (q.resolve_left (by decide))), hJ.2.2.1.put (d := 140) rfl (vs_one (k := 12) rfl ⟨rfl, rfl⟩), fun q => (upx_ne rfl).trans (hJ.2.2.2 (q.resolve_left (by decide)))⟩
          refine StepsOk.consV (i := 13) rfl rfl rfl (JP2_congr _ _ _ _ _ _ _ _ _) (fun L_ x G w1 a K Q hx h0 hn hp hJ hK => ?_) ?_
          · skip
            have q1 : a.tmps.getD 1 undef = .pointer (some ⟨w.heap.size, 0, none⟩) := (h0 1 (by simp)).trans rfl
            have hM := hJ.1
            clear hx h0
            go_simp
            refine hK (.pointer (some ⟨w.heap.size, 21, none⟩)) G _ ?_
            exact ⟨hM.iff (orI (by decide)) (orI (by decide)) (orI (by decide)), fun q => .inr (hJ.2.1 (q.resolve_left (by decide))), hJ.2.2.1.put (d := 141) rfl (vs_one (k := 13) rfl ⟨rfl, rfl⟩), fun q => (upx_ne rfl).trans (hJ.2.2.2 (q.resolve_left (by decide)))⟩
          refine StepsOk.consV (i := 14) rfl rfl rfl (JP2_congr _ _ _ _ _ _ _ _ _) (fun L_ x G w1 a K Q hx h0 hn hp hJ hK => ?_) ?_
          · skip
            have p13 : L_ 13 := hp ⟨13, .data⟩ (by simp) rfl
            have q141 : a.tmps.getD 141 undef = .pointer (some ⟨w.heap.size, 21, none⟩) := (hx 141 (by simp)).trans (hJ.2.2.1.get 13 rfl p13)
            have hM := hJ.1
            clear hx h0
            have hc := (hM.blk PB hA0 hne).ow24
            have c21_ := hc.2.2.2.2.1
            have c22_ := hc.2.2.2.2.2.1
            have c23_ := hc.2.2.2.2.2.2.1
            clear hc
            go_simp
            refine hK (.int .i64 Z.cc) G _ ?_
            exact ⟨hM.iff (orI (by decide)) (orI (by decide)) (orI (by decide)), fun q => .inr (hJ.2.1 (q.resolve_left (by decide))), hJ.2.2.1.put (d := 142) rfl (vs_one (k := 14) rfl ⟨rfl, rfl⟩), fun q => (upx_ne rfl).trans (hJ.2.2.2 (q.resolve_left (by decide)))⟩
          refine StepsOk.consV (i := 15) rfl rfl rfl (JP2_congr _ _ _ _ _ _ _ _ _) (fun L_ x G w1 a K Q hx h0 hn hp hJ hK => ?_) ?_
          · skip
            have q18 : a.tmps.getD 18 undef = .int .i64 (i : Int) := (h0 18 (by simp)).trans rfl
            have hM := hJ.1
            clear hx h0
            go_simp
            refine hK (.int .i64 (i : Int)) G _ ?_
            exact ⟨hM.iff (orI (by decide)) (orI (by decide)) (orI (by decide)), fun q => .inr (hJ.2.1 (q.resolve_left (by decide))), hJ.2.2.1.put (d := 143) rfl (vs_one (k := 15) rfl ⟨rfl, rfl⟩), fun q => (upx_ne rfl).trans (hJ.2.2.2 (q.resolve_left (by decide)))⟩
          refine StepsOk.consV (i := 16) rfl rfl rfl (JP2_congr _ _ _ _ _ _ _ _ _) (fun L_ x G w1 a K Q hx h0 hn hp hJ hK => ?_) ?_
          · skip
            have q1 : a.tmps.getD 1 undef = .pointer (some ⟨w.heap.size, 0, none⟩) := (h0 1 (by simp)).trans rfl
            have hM := hJ.1
            clear hx h0
            go_simp
            refine hK (.pointer (some ⟨w.heap.size, 23, none⟩)) G _ ?_
            exact ⟨hM.iff (orI (by decide)) (orI (by decide)) (orI (by decide)), fun q => .inr (hJ.2.1 (q.resolve_left (by decide))), hJ.2.2.1.put (d := 144) rfl (vs_one (k := 16) rfl ⟨rfl, rfl⟩), fun q => (upx_ne rfl).trans (hJ.2.2.2 (q.resolve_left (by decide)))⟩
          refine StepsOk.consV (i := 17) rfl rfl rfl (JP2_congr _ _ _ _ _ _ _ _ _) (fun L_ x G w1 a K Q hx h0 hn hp hJ hK => ?_) ?_
          · skip
            have p16 : L_ 16 := hp ⟨16, .data⟩ (by simp) rfl
            have q144 : a.tmps.getD 144 undef = .pointer (some ⟨w.heap.size, 23, none⟩) := (hx 144 (by simp)).trans (hJ.2.2.1.get 16 rfl p16)
            have hM := hJ.1
            clear hx h0
            have hc := (hM.blk PB hA0 hne).ow24
            have c21_ := hc.2.2.2.2.1
            have c22_ := hc.2.2.2.2.2.1
            have c23_ := hc.2.2.2.2.2.2.1
            clear hc
            go_simp
            refine hK (.int .i64 Z.la) G _ ?_
            exact ⟨hM.iff (orI (by decide)) (orI (by decide)) (orI (by decide)), fun q => .inr (hJ.2.1 (q.resolve_left (by decide))), hJ.2.2.1.put (d := 145) rfl (vs_one (k := 17) rfl ⟨rfl, rfl⟩), fun q => (upx_ne rfl).trans (hJ.2.2.2 (q.resolve_left (by decide)))⟩
          refine StepsOk.consV (i := 18) rfl rfl rfl (JP2_congr _ _ _ _ _ _ _ _ _) (fun L_ x G w1 a K Q hx h0 hn hp hJ hK => ?_) ?_
          · skip
            have p15 : L_ 15 := hp ⟨15, .data⟩ (by simp) rfl
            have q143 : a.tmps.getD 143 undef = .int .i64 (i : Int) := (hx 143 (by simp)).trans (hJ.2.2.1.get 15 rfl p15)
            have p17 : L_ 17 := hp ⟨17, .data⟩ (by simp) rfl
            have q145 : a.tmps.getD 145 undef = .int .i64 Z.la := (hx 145 (by simp)).trans (hJ.2.2.1.get 17 rfl p17)
            have hM := hJ.1
            clear hx h0
            go_simp
            refine (KQ.out _).mono ?_
            rintro e w2 ⟨rfl, rfl⟩
            try go_simp
            refine hK (.int .i64 d) G _ ?_
            exact ⟨hM.iff (orI (by decide)) (orI (by decide)) (orI (by decide)), fun q => .inr (hJ.2.1 (q.resolve_left (by decide))), hJ.2.2.1.put (d := 146) rfl (vs_one (k := 18) rfl ⟨rfl, rfl⟩), fun q => (upx_ne rfl).trans (hJ.2.2.2 (q.resolve_left (by decide)))⟩
          refine StepsOk.consV (i := 19) rfl rfl rfl (JP2_congr _ _ _ _ _ _ _ _ _) (fun L_ x G w1 a K Q hx h0 hn hp hJ hK => ?_) ?_
          · skip
            have p14 : L_ 14 := hp ⟨14, .data⟩ (by simp) rfl
            have q142 : a.tmps.getD 142 undef = .int .i64 Z.cc := (hx 142 (by simp)).trans (hJ.2.2.1.get 14 rfl p14)
            have p18 : L_ 18 := hp ⟨18, .data⟩ (by simp) rfl
            have q146 : a.tmps.getD 146 undef = .int .i64 d := (hx 146 (by simp)).trans (hJ.2.2.1.get 18 rfl p18)
            have hM := hJ.1
            clear hx h0
            go_simp
            rw [IntWalk.i64_in (Z.cc * d) (by omega)]
            refine hK (.int .i64 (Z.cc * d)) G _ ?_
            exact ⟨hM.iff (orI (by decide)) (orI (by decide)) (orI (by decide)), fun q => .inr (hJ.2.1 (q.resolve_left (by decide))), hJ.2.2.1.put (d := 147) rfl (vs_one (k := 19) rfl ⟨rfl, rfl⟩), fun q => (upx_ne rfl).trans (hJ.2.2.2 (q.resolve_left (by decide)))⟩
          refine StepsOk.consV (i := 20) rfl rfl rfl (JP2_congr _ _ _ _ _ _ _ _ _) (fun L_ x G w1 a K Q hx h0 hn hp hJ hK => ?_) ?_
          · skip
            have p8 : L_ 8 := hp ⟨8, .data⟩ (by simp) rfl
            have q136 : a.tmps.getD 136 undef = .int .i64 (1 + (((Z.nd : Int) - 1) * (Z.nl : Int)) + (i : Int)) := (hx 136 (by simp)).trans (hJ.2.2.1.get 8 rfl p8)
            have p12 : L_ 12 := hp ⟨12, .data⟩ (by simp) rfl
            have q140 : a.tmps.getD 140 undef = .int .i64 (1 + (Z.nd : Int) * (Z.nl : Int)) := (hx 140 (by simp)).trans (hJ.2.2.1.get 12 rfl p12)
            have p19 : L_ 19 := hp ⟨19, .data⟩ (by simp) rfl
            have q147 : a.tmps.getD 147 undef = .int .i64 (Z.cc * d) := (hx 147 (by simp)).trans (hJ.2.2.1.get 19 rfl p19)
            have hM := hJ.1
            clear hx h0
            have r136 := q136
            rw [Array.getD_eq_getD_getElem?] at r136
            have r140 := q140
            rw [Array.getD_eq_getD_getElem?] at r140
            have r147 := q147
            rw [Array.getD_eq_getD_getElem?] at r147
            go_simp
            try simp only [r136, r140, r147]
            try go_simp
            refine hK (.agg #[.int .i64 (1 + (((Z.nd : Int) - 1) * (Z.nl : Int)) + (i : Int)), .int .i64 (1 + (Z.nd : Int) * (Z.nl : Int)), .int .i64 (Z.cc * d)]) G _ ?_
            exact ⟨hM.iff (orI (by decide)) (orI (by decide)) (orI (by decide)), fun q => .inr (hJ.2.1 (q.resolve_left (by decide))), hJ.2.2.1.put (d := 148) rfl (vs_one (k := 20) rfl ⟨rfl, rfl⟩), fun q => (upx_ne rfl).trans (hJ.2.2.2 (q.resolve_left (by decide)))⟩
          refine StepsOk.consV (i := 21) rfl rfl rfl (JP2_congr _ _ _ _ _ _ _ _ _) (fun L_ x G w1 a K Q hx h0 hn hp hJ hK => ?_) ?_
          · skip
            have p20 : L_ 20 := hp ⟨20, .data⟩ (by simp) rfl
            have q148 : a.tmps.getD 148 undef = .agg #[.int .i64 (1 + (((Z.nd : Int) - 1) * (Z.nl : Int)) + (i : Int)), .int .i64 (1 + (Z.nd : Int) * (Z.nl : Int)), .int .i64 (Z.cc * d)] := (hx 148 (by simp)).trans (hJ.2.2.1.get 20 rfl p20)
            have hM := hJ.1
            clear hx h0
            have r148 := q148
            rw [Array.getD_eq_getD_getElem?] at r148
            go_simp
            try simp only [r148]
            try go_simp
            refine hK (_) G _ ?_
            have hw_ := hM.s0 hn
            subst hw_
            exact ⟨Apd.made hM hn (.inl rfl) (fun q => hn (hM.k2 (q.resolve_left (by decide)))) (fun q => hn (hM.k2 (hM.k3 (q.resolve_left (by decide))))), fun q => .inr (hJ.2.1 (q.resolve_left (by decide))), hJ.2.2.1.put (d := 149) rfl (vs_one (k := 21) rfl ⟨rfl, rfl⟩), fun q => (upx_ne rfl).trans (hJ.2.2.2 (q.resolve_left (by decide)))⟩
          refine StepsOk.consV (i := 22) rfl rfl rfl (JP2_congr _ _ _ _ _ _ _ _ _) (fun L_ x G w1 a K Q hx h0 hn hp hJ hK => ?_) ?_
          · skip
            have p1 : L_ 1 := hp ⟨1, .data⟩ (by simp) rfl
            have q129 : a.tmps.getD 129 undef = .slice A (L).length c := (hx 129 (by simp)).trans (hJ.2.2.1.get 1 rfl p1)
            have p21 : L_ 21 := hp ⟨21, .data⟩ (by simp) rfl
            have q149 : a.tmps.getD 149 undef = .slice (some ⟨W0.heap.size, 0, none⟩) 1 1 := (hx 149 (by simp)).trans (hJ.2.2.1.get 21 rfl p21)
            have hM := hJ.1
            clear hx h0
            have hw := hM.s1 p21 hn
            subst hw
            have own0 := hS.e.alloc (.cells #[.int .i64 (1 + ((Z.nd : Int) - 1) * (Z.nl : Int) + (i : Int)), .int .i64 (1 + (Z.nd : Int) * (Z.nl : Int)), .int .i64 (Z.cc * d)] 75)
            have src0 := rd_row3 W0 75 (1 + ((Z.nd : Int) - 1) * (Z.nl : Int) + (i : Int)) (1 + (Z.nd : Int) * (Z.nl : Int)) (Z.cc * d)
            have hBs : g + 1 ≤ (World.alloc W0 (.cells #[.int .i64 (1 + ((Z.nd : Int) - 1) * (Z.nl : Int) + (i : Int)), .int .i64 (1 + (Z.nd : Int) * (Z.nl : Int)), .int .i64 (Z.cc * d)] 75)).heap.size := by have := hS.lt; simp; omega
            refine wp_append_Rd _ _ _ 39 rfl (g + 1) 75 i0 _ 3 24 Try.underlying39 HI.out HZ0.out HZ1.out HZ2.out rfl (by decide) q129 own0 q149 src0 (one_iv _) (by omega) (by omega) hBs ?_
            intro A9 c9 w2 own9 hgr_ hob
            refine Exists.elim (oa_form own9) fun u9 hu => ?_
            subst hu
            refine hK (_) (fun t => if t = 0 then u9 else if t = 1 then c9 else G t) _ ?_
            exact ⟨Apd.ap ⟨own9, hgr_, by simpa using hob⟩ (.inr p21) (.inl rfl) (fun q => hn (hM.k3 (q.resolve_left (by decide)))), fun _ => .inr p1, hJ.2.2.1.skip rfl, fun _ => upx_at _ _ _⟩
          refine StepsOk.consV (i := 23) rfl rfl rfl (JP2_congr _ _ _ _ _ _ _ _ _) (fun L_ x G w1 a K Q hx h0 hn hp hJ hK => ?_) ?_
          · skip
            have q6 : a.tmps.getD 6 undef = .pointer (some ⟨g, 0, none⟩) := (h0 6 (by simp)).trans rfl
            have hM := hJ.1
            clear hx h0
            go_simp
            refine hK (.pointer (some ⟨g, 1, none⟩)) G _ ?_
            exact ⟨hM.iff (orI (by decide)) (orI (by decide)) (orI (by decide)), fun q => .inr (hJ.2.1 (q.resolve_left (by decide))), hJ.2.2.1.put (d := 151) rfl (vs_one (k := 22) rfl ⟨rfl, rfl⟩), fun q => (upx_ne rfl).trans (hJ.2.2.2 (q.resolve_left (by decide)))⟩
          refine StepsOk.consV (i := 24) rfl rfl rfl (JP2_congr _ _ _ _ _ _ _ _ _) (fun L_ x G w1 a K Q hx h0 hn hp hJ hK => ?_) ?_
          · skip
            have p22 : L_ 22 := hp ⟨22, .data⟩ (by simp) rfl
            have q150 : a.tmps.getD 150 undef = .slice (oa (G 0)) ((L).length + 1) (G 1) := (hx 150 (by simp)).trans (hJ.2.2.2 p22)
            have p23 : L_ 23 := hp ⟨23, .data⟩ (by simp) rfl
            have q151 : a.tmps.getD 151 undef = .pointer (some ⟨g, 1, none⟩) := (hx 151 (by simp)).trans (hJ.2.2.1.get 22 rfl p23)
            have hM := hJ.1
            clear hx h0
            have hc := (hM.var GB hA1 hn).open2
            have c0_ := hc.1
            have c1_ := hc.2.1
            have c2_ := hc.2.2.1
            clear hc
            go_simp
            refine hK undef G (w1.setCell ⟨g, 1, none⟩ (.slice (oa (G 0)) ((L).length + 1) (G 1))) ?_
            exact ⟨Apd.st hM p22 hn (.inr (hM.k2 p22)) (.inr p22) (.inl rfl), fun q => .inr (hJ.2.1 (q.resolve_left (by decide))), hJ.2.2.1.put0 rfl, fun q => (upx_ne rfl).trans (hJ.2.2.2 (q.resolve_left (by decide)))⟩
          exact StepsOk.nil
        case fin =>
          intro L_ x G wf hall hJ
          have hM := hJ.1
          have p_ := hall 24 (by decide)
          have y0 := hJ.2.2.1.get 0 rfl (hall 0 (by decide))
          have y1 := hJ.2.2.1.get 1 rfl (hall 1 (by decide))
          have y2 := hJ.2.2.1.get 2 rfl (hall 2 (by decide))
          have y3 := hJ.2.2.1.get 3 rfl (hall 3 (by decide))
          have y4 := hJ.2.2.1.get 4 rfl (hall 4 (by decide))
          have y5 := hJ.2.2.1.get 5 rfl (hall 5 (by decide))
          have y6 := hJ.2.2.1.get 6 rfl (hall 6 (by decide))
          have y7 := hJ.2.2.1.get 7 rfl (hall 7 (by decide))
          have y8 := hJ.2.2.1.get 8 rfl (hall 8 (by decide))
          have y9 := hJ.2.2.1.get 9 rfl (hall 9 (by decide))
          have y10 := hJ.2.2.1.get 10 rfl (hall 10 (by decide))
          have y11 := hJ.2.2.1.get 11 rfl (hall 11 (by decide))
          have y12 := hJ.2.2.1.get 12 rfl (hall 12 (by decide))
          have y13 := hJ.2.2.1.get 13 rfl (hall 13 (by decide))
          have y14 := hJ.2.2.1.get 14 rfl (hall 14 (by decide))
          have y15 := hJ.2.2.1.get 15 rfl (hall 15 (by decide))
          have y16 := hJ.2.2.1.get 16 rfl (hall 16 (by decide))
          have y17 := hJ.2.2.1.get 17 rfl (hall 17 (by decide))
          have y18 := hJ.2.2.1.get 18 rfl (hall 18 (by decide))
          have y19 := hJ.2.2.1.get 19 rfl (hall 19 (by decide))
          have y20 := hJ.2.2.1.get 20 rfl (hall 20 (by decide))
          have y21 := hJ.2.2.1.get 21 rfl (hall 21 (by decide))
          have y23 := hJ.2.2.1.get 22 rfl (hall 23 (by decide))
          have y22 := hJ.2.2.2 (hall 22 (by decide))
          simp only [putAll, Act.put, List.setIfInBounds_toArray, List.set_cons_zero, List.set_cons_succ]
          simp only [y0, y1, y2, y3, y4, y5, y6, y7, y8, y9, y10, y11, y12, y13, y14, y15, y16, y17, y18, y19, y20, y21, y22, y23]
          clear hall hJ y0 y1 y2 y3 y4 y5 y6 y7 y8 y9 y10 y11 y12 y13 y14 y15 y16 y17 y18 y19 y20 y21 y23 y22
          generalize oa (G 0) = A9 at *
          generalize G 1 = c9 at *
          obtain ⟨oe, oq, dj, gb, rb, pb_, bb, far⟩ := Apd.done hS hM p_ (x := xe) HF.out.symm HT.out.symm (by rw [HX.out])
          have hl_ := hS.l
          clear far hM hS GB PB p_ hA1 hA0 hne
          go_wp2_with fail
          refine (none_c _).mono ?_
          rintro e w8 ⟨rfl, hb8⟩
          replace oe := oe.keep hb8
          replace oq := oq.keep hb8
          replace gb := gb.keep hb8
          replace rb := rb.keep hb8
          replace pb_ := pb_.keep hb8
          replace bb := bt bb hb8
          clear hb8
          have z1 : L.length + 1 ≤ 9223372036854775807 := Nat.le_trans (Nat.succ_le_succ hlen) (by decide)
          have z2 : (L.length + 1) * 16 ≤ 140737488355328 := Nat.le_trans (Nat.mul_le_mul_right 16 (Nat.succ_le_succ hlen)) (by decide)
          have z3 := fun o => Nat.le_trans (Blk.lt gb) (ba _ o).size
          go_wp2_with (at_builtin; refine wpList_append_Rd _ rfl _ _ 28 rfl (g + 1) 35 i2 _ 2 16 Try.underlying28 KI.out KZ0.out KZ1.out KZ2.out rfl (by decide) rfl (oq.alloc _) rfl (rd_row2 _ _ _ _ rfl) (one_iv _) z1 z2 (z3 _) ?_; intro A7_ c7_ w7 o7_ hgr7 hob7; have o7n := own_c (x := xe) (by rw [HXL.out, HXS.out]; exact o7_); have hN := GS.next oe oq dj gb rb pb_ bb hl_ o7n hgr7 hob7; clear oe oq dj gb rb pb_ bb o7_ o7n hgr7 hob7)
          go_roundw
          case rel => exact ⟨i + 1, c9, c7_, A9, A7_, ⟨by omega, by omega, by omega⟩, by go_num, by rw [E4.out, List.length_append, List.length_singleton], hN.cast E4.out⟩
          case measure => simp [intOf]; omega
end Go.Proofs.Ytoeklllahpegfaa
/-
  Contract: optimize.Graph.
-/
namespace Go.Proofs.Ytoeklllahpegfaa
set_option linter.unusedVariables false
set_option linter.unusedSimpArgs false
open Go.RowKit
attribute [local irreducible] World.setCell World.cell?

set_option maxRecDepth 100000 in
set_option maxHeartbeats 4000000 in
theorem graph_no (Z : ZD) (Y : ZA) (w : World) (H : ZIn w Z Y) (h : Oz.zck Z ≠ 0) : Calls Try.prog 18 #[.agg #[.slice Y.ds Z.nd Y.dsc, .slice Y.lv Z.nl Y.lvc, .slice Y.sp Z.ns Y.spc, .slice Y.tl Z.nt Y.tlc, .slice Y.ms Z.nm Y.msc, .string Z.P.nm, .int .i64 Z.P.em, .int .i64 Z.P.fu, .slice Y.Q.al Z.P.na Y.Q.alc, .slice Y.Q.ma Z.P.nM Y.Q.mac, .slice Y.Q.tC Z.P.nC Y.Q.tCc, .slice Y.Q.tF Z.P.nF Y.Q.tFc, .slice Y.Q.tR Z.P.nR Y.Q.tRc, .slice Y.Q.dD Z.P.nD Y.Q.dDc, .slice Y.Q.dI Z.P.nI Y.Q.dIc, .slice Y.Q.dX Z.P.nX Y.Q.dXc, .slice Y.Q.dN Z.P.nN Y.Q.dNc, .int .i64 Z.P.rf, .int .i64 Z.P.xt, .int .i64 Z.P.ce, .int .i64 Z.ix, .int .i64 Z.cc, .int .i64 Z.fi, .int .i64 Z.la]] w fun e w' => e = .returned (.tuple #[.agg #[.int .i64 0, .slice none 0 0], .int .i64 0, .int .i64 0, .int .i64 (Oz.zck Z)]) ∧ Below w.heap.size w w' := by
  obtain ⟨z, ez⟩ : ∃ z, Hid (Oz.zck Z = z) := ⟨_, rfl⟩
  have Kocheck_c := Lib.hid (fun wx (h : ZIn wx Z Y) => ocheck_c Z Y wx h)
  rw [ez.out] at Kocheck_c h ⊢
  have hz1 : (z != 0) = true := by simpa using h
  clear h
  go_enter Try.func18, Try.ntmps18
  try simp only [List.append_eq, List.cons_append, List.nil_append]
  have PB := (Blk.new w 27 #[.slice Y.ds Z.nd Y.dsc, .slice Y.lv Z.nl Y.lvc, .slice Y.sp Z.ns Y.spc, .slice Y.tl Z.nt Y.tlc, .slice Y.ms Z.nm Y.msc, .string Z.P.nm, .int .i64 Z.P.em, .int .i64 Z.P.fu, .slice Y.Q.al Z.P.na Y.Q.alc, .slice Y.Q.ma Z.P.nM Y.Q.mac, .slice Y.Q.tC Z.P.nC Y.Q.tCc, .slice Y.Q.tF Z.P.nF Y.Q.tFc, .slice Y.Q.tR Z.P.nR Y.Q.tRc, .slice Y.Q.dD Z.P.nD Y.Q.dDc, .slice Y.Q.dI Z.P.nI Y.Q.dIc, .slice Y.Q.dX Z.P.nX Y.Q.dXc, .slice Y.Q.dN Z.P.nN Y.Q.dNc, .int .i64 Z.P.rf, .int .i64 Z.P.xt, .int .i64 Z.P.ce, .int .i64 Z.ix, .int .i64 Z.cc, .int .i64 Z.fi, .int .i64 Z.la]).alloc (.cells #[.int .i64 0, .slice none 0 0] 41)
  have RB := Blk.new1 w (.cells #[.slice Y.ds Z.nd Y.dsc, .slice Y.lv Z.nl Y.lvc, .slice Y.sp Z.ns Y.spc, .slice Y.tl Z.nt Y.tlc, .slice Y.ms Z.nm Y.msc, .string Z.P.nm, .int .i64 Z.P.em, .int .i64 Z.P.fu, .slice Y.Q.al Z.P.na Y.Q.alc, .slice Y.Q.ma Z.P.nM Y.Q.mac, .slice Y.Q.tC Z.P.nC Y.Q.tCc, .slice Y.Q.tF Z.P.nF Y.Q.tFc, .slice Y.Q.tR Z.P.nR Y.Q.tRc, .slice Y.Q.dD Z.P.nD Y.Q.dDc, .slice Y.Q.dI Z.P.nI Y.Q.dIc, .slice Y.Q.dX Z.P.nX Y.Q.dXc, .slice Y.Q.dN Z.P.nN Y.Q.dNc, .int .i64 Z.P.rf, .int .i64 Z.P.xt, .int .i64 Z.P.ce, .int .i64 Z.ix, .int .i64 Z.cc, .int .i64 Z.fi, .int .i64 Z.la] 27) 41 #[.int .i64 0, .slice none 0 0]
  have hB := bal (ba w (.cells #[.slice Y.ds Z.nd Y.dsc, .slice Y.lv Z.nl Y.lvc, .slice Y.sp Z.ns Y.spc, .slice Y.tl Z.nt Y.tlc, .slice Y.ms Z.nm Y.msc, .string Z.P.nm, .int .i64 Z.P.em, .int .i64 Z.P.fu, .slice Y.Q.al Z.P.na Y.Q.alc, .slice Y.Q.ma Z.P.nM Y.Q.mac, .slice Y.Q.tC Z.P.nC Y.Q.tCc, .slice Y.Q.tF Z.P.nF Y.Q.tFc, .slice Y.Q.tR Z.P.nR Y.Q.tRc, .slice Y.Q.dD Z.P.nD Y.Q.dDc, .slice Y.Q.dI Z.P.nI Y.Q.dIc, .slice Y.Q.dX Z.P.nX Y.Q.dXc, .slice Y.Q.dN Z.P.nN Y.Q.dNc, .int .i64 Z.P.rf, .int .i64 Z.P.xt, .int .i64 Z.P.ce, .int .i64 Z.ix, .int .i64 Z.cc, .int .i64 Z.fi, .int .i64 Z.la] 27)) (.cells #[.int .i64 0, .slice none 0 0] 41)
  go_upto_region 1 with fail
  generalize World.alloc (World.alloc w _) _ = w1 at PB RB hB ⊢
  obtain ⟨d0, d1, d2, d20, d21, d22, d23, d24, d25⟩ := PB.ow24
  go_wp2_with (with_reducible show wpList _ _ _ _ _ _; refine wpList_B _ rfl rfl rfl (by with_reducible assumption) ?_)
  refine (Kocheck_c.out _ (H.keep hB)).mono ?_
  rintro e w2 ⟨rfl, hb⟩
  clear d0 d1 d2 d20 d21 d22 d23 d24 d25
  replace hB := bt hB hb
  replace PB := PB.keep hb
  replace RB := RB.keep hb
  clear hb PB
  obtain ⟨r0, r1, r2, r3⟩ := RB.open2
  have RB2 := (RB.set_ 0 (.int .i64 0)).set_ 1 (.slice none 0 0)
  simp only [List.setIfInBounds_toArray, List.set_cons_zero, List.set_cons_succ] at RB2
  have hB2 := bst (bst hB (p := ⟨w.heap.size + 1, 0, none⟩) (by show _ ≤ w.heap.size + 1; omega) (.int .i64 0)) (p := ⟨w.heap.size + 1, 1, none⟩) (by show _ ≤ w.heap.size + 1; omega) (.slice none 0 0)
  obtain ⟨s0, s1, s2, s3⟩ := RB2.open2
  go_wp2_with fail
  refine bodyPost_ret (by simp [results, Try.results18, go_sem, s0, s1]; try rfl) rfl ?_
  exact ⟨rfl, hB2⟩
set_option maxRecDepth 100000 in
set_option maxHeartbeats 4000000 in
theorem graph_c (Z : ZD) (Y : ZA) (w : World) (H : ZIn w Z Y) (hz : Oz.zck Z = 0) : Calls Try.prog 18 #[.agg #[.slice Y.ds Z.nd Y.dsc, .slice Y.lv Z.nl Y.lvc, .slice Y.sp Z.ns Y.spc, .slice Y.tl Z.nt Y.tlc, .slice Y.ms Z.nm Y.msc, .string Z.P.nm, .int .i64 Z.P.em, .int .i64 Z.P.fu, .slice Y.Q.al Z.P.na Y.Q.alc, .slice Y.Q.ma Z.P.nM Y.Q.mac, .slice Y.Q.tC Z.P.nC Y.Q.tCc, .slice Y.Q.tF Z.P.nF Y.Q.tFc, .slice Y.Q.tR Z.P.nR Y.Q.tRc, .slice Y.Q.dD Z.P.nD Y.Q.dDc, .slice Y.Q.dI Z.P.nI Y.Q.dIc, .slice Y.Q.dX Z.P.nX Y.Q.dXc, .slice Y.Q.dN Z.P.nN Y.Q.dNc, .int .i64 Z.P.rf, .int .i64 Z.P.xt, .int .i64 Z.P.ce, .int .i64 Z.ix, .int .i64 Z.cc, .int .i64 Z.fi, .int .i64 Z.la]] w fun e w' => ∃ (A : Option Addr) (c : Nat), e = .returned (.tuple #[.agg #[.int .i64 (Oz.gN Z : Int), .slice A (Oz.gL Z).length c], .int .i64 0, .int .i64 ((Oz.gN Z : Int) - 1), .int .i64 0]) ∧ Rd w' 3 A (Oz.gL Z).length c (iv (Oz.gE Z)) ∧ Below w.heap.size w w' := by
  have ng := Oz.gN_bd (Oz.zck_ok hz)
  have Kocheck_c := Lib.hid (fun wx (h : ZIn wx Z Y) => ocheck_c Z Y wx h)
  rw [hz] at Kocheck_c
  go_enter Try.func18, Try.ntmps18
  try simp only [List.append_eq, List.cons_append, List.nil_append]
  have PB := (Blk.new w 27 #[.slice Y.ds Z.nd Y.dsc, .slice Y.lv Z.nl Y.lvc, .slice Y.sp Z.ns Y.spc, .slice Y.tl Z.nt Y.tlc, .slice Y.ms Z.nm Y.msc, .string Z.P.nm, .int .i64 Z.P.em, .int .i64 Z.P.fu, .slice Y.Q.al Z.P.na Y.Q.alc, .slice Y.Q.ma Z.P.nM Y.Q.mac, .slice Y.Q.tC Z.P.nC Y.Q.tCc, .slice Y.Q.tF Z.P.nF Y.Q.tFc, .slice Y.Q.tR Z.P.nR Y.Q.tRc, .slice Y.Q.dD Z.P.nD Y.Q.dDc, .slice Y.Q.dI Z.P.nI Y.Q.dIc, .slice Y.Q.dX Z.P.nX Y.Q.dXc, .slice Y.Q.dN Z.P.nN Y.Q.dNc, .int .i64 Z.P.rf, .int .i64 Z.P.xt, .int .i64 Z.P.ce, .int .i64 Z.ix, .int .i64 Z.cc, .int .i64 Z.fi, .int .i64 Z.la]).alloc (.cells #[.int .i64 0, .slice none 0 0] 41)
  have RB := Blk.new1 w (.cells #[.slice Y.ds Z.nd Y.dsc, .slice Y.lv Z.nl Y.lvc, .slice Y.sp Z.ns Y.spc, .slice Y.tl Z.nt Y.tlc, .slice Y.ms Z.nm Y.msc, .string Z.P.nm, .int .i64 Z.P.em, .int .i64 Z.P.fu, .slice Y.Q.al Z.P.na Y.Q.alc, .slice Y.Q.ma Z.P.nM Y.Q.mac, .slice Y.Q.tC Z.P.nC Y.Q.tCc, .slice Y.Q.tF Z.P.nF Y.Q.tFc, .slice Y.Q.tR Z.P.nR Y.Q.tRc, .slice Y.Q.dD Z.P.nD Y.Q.dDc, .slice Y.Q.dI Z.P.nI Y.Q.dIc, .slice Y.Q.dX Z.P.nX Y.Q.dXc, .slice Y.Q.dN Z.P.nN Y.Q.dNc, .int .i64 Z.P.rf, .int .i64 Z.P.xt, .int .i64 Z.P.ce, .int .i64 Z.ix, .int .i64 Z.cc, .int .i64 Z.fi, .int .i64 Z.la] 27) 41 #[.int .i64 0, .slice none 0 0]
  have hB := bal (ba w (.cells #[.slice Y.ds Z.nd Y.dsc, .slice Y.lv Z.nl Y.lvc, .slice Y.sp Z.ns Y.spc, .slice Y.tl Z.nt Y.tlc, .slice Y.ms Z.nm Y.msc, .string Z.P.nm, .int .i64 Z.P.em, .int .i64 Z.P.fu, .slice Y.Q.al Z.P.na Y.Q.alc, .slice Y.Q.ma Z.P.nM Y.Q.mac, .slice Y.Q.tC Z.P.nC Y.Q.tCc, .slice Y.Q.tF Z.P.nF Y.Q.tFc, .slice Y.Q.tR Z.P.nR Y.Q.tRc, .slice Y.Q.dD Z.P.nD Y.Q.dDc, .slice Y.Q.dI Z.P.nI Y.Q.dIc, .slice Y.Q.dX Z.P.nX Y.Q.dXc, .slice Y.Q.dN Z.P.nN Y.Q.dNc, .int .i64 Z.P.rf, .int .i64 Z.P.xt, .int .i64 Z.P.ce, .int .i64 Z.ix, .int .i64 Z.cc, .int .i64 Z.fi, .int .i64 Z.la] 27)) (.cells #[.int .i64 0, .slice none 0 0] 41)
  go_upto_region 1 with fail
  generalize World.alloc (World.alloc w _) _ = w1 at PB RB hB ⊢
  obtain ⟨d0, d1, d2, d20, d21, d22, d23, d24, d25⟩ := PB.ow24
  go_wp2_with (with_reducible show wpList _ _ _ _ _ _; refine wpList_B _ rfl rfl rfl (by with_reducible assumption) ?_)
  refine (Kocheck_c.out _ (H.keep hB)).mono ?_
  rintro e w2 ⟨rfl, hb⟩
  clear d0 d1 d2 d20 d21 d22 d23 d24 d25
  replace hB := bt hB hb
  replace PB := PB.keep hb
  replace RB := RB.keep hb
  clear hb
  obtain ⟨d0, d1, d2, d20, d21, d22, d23, d24, d25⟩ := PB.ow24
  go_wp2_with (with_reducible show wpList _ _ _ _ _ _; refine wpList_B _ rfl rfl rfl (by with_reducible assumption) ?_)
  refine (build_c Z Y _ (H.keep hB) hz).mono ?_
  rintro e w3 ⟨A, AC, c, cC, rfl, oe, oq, hb⟩
  clear d0 d1 d2 d20 d21 d22 d23 d24 d25
  have hls := RB.lt
  replace hB := bt hB hb
  replace RB := RB.keep hb
  clear hb PB oq
  obtain ⟨r0, r1, r2, r3⟩ := RB.open2
  have RB2 := (RB.set_ 0 (.int .i64 (Oz.gN Z : Int))).set_ 1 (.slice A (Oz.gL Z).length c)
  simp only [List.setIfInBounds_toArray, List.set_cons_zero, List.set_cons_succ] at RB2
  have hB2 := bst (bst hB (p := ⟨w.heap.size + 1, 0, none⟩) (by show _ ≤ w.heap.size + 1; omega) (.int .i64 (Oz.gN Z : Int))) (p := ⟨w.heap.size + 1, 1, none⟩) (by show _ ≤ w.heap.size + 1; omega) (.slice A (Oz.gL Z).length c)
  have hA : ob A ≠ some (w.heap.size + 1) := fun q => by have := oe.base q; omega
  have o2 := (oe.far (p := ⟨w.heap.size + 1, 0, none⟩) (.inr hA) (.int .i64 (Oz.gN Z : Int))).far (p := ⟨w.heap.size + 1, 1, none⟩) (.inr hA) (.slice A (Oz.gL Z).length c)
  go_upto_region 5 with fail
  clear RB hB oe r0 r1 r2 r3
  generalize World.setCell (World.setCell w3 _ _) _ _ = w4 at RB2 hB2 o2 ⊢
  obtain ⟨r0, r1, r2, r3⟩ := RB2.open2
  have RB := (RB2.set_ 0 (.int .i64 (Oz.gN Z : Int))).set_ 1 (.slice A (Oz.gL Z).length c)
  simp only [List.setIfInBounds_toArray, List.set_cons_zero, List.set_cons_succ] at RB
  have hB := bst (bst hB2 (p := ⟨w.heap.size + 1, 0, none⟩) (by show _ ≤ w.heap.size + 1; omega) (.int .i64 (Oz.gN Z : Int))) (p := ⟨w.heap.size + 1, 1, none⟩) (by show _ ≤ w.heap.size + 1; omega) (.slice A (Oz.gL Z).length c)
  have o1 := (o2.far (p := ⟨w.heap.size + 1, 0, none⟩) (.inr hA) (.int .i64 (Oz.gN Z : Int))).far (p := ⟨w.heap.size + 1, 1, none⟩) (.inr hA) (.slice A (Oz.gL Z).length c)
  obtain ⟨s0, s1, s2, s3⟩ := RB.open2
  go_wp2_with fail
  refine bodyPost_ret (by simp [results, Try.results18, go_sem, s0, s1]; try rfl) rfl ?_
  exact ⟨A, c, rfl, o1.rd, hB⟩
end Go.Proofs.Ytoeklllahpegfaa
