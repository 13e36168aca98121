/-
  The walk of TopSpeeds.
-/
import Derived.Test.YtpipjpgcnbpllaaTW2
import Derived.Test.YtpipjpgcnbpllaaTPlain2
import Derived.Test.YtpipjpgcnbpllaaRd6
import Derived.Test.YtpipjpgcnbpllaaW22
import Derived.Deep.DeepCutAuto
namespace Go.Proofs.Ytpipjpgcnbpllaa
set_option linter.unusedVariables false
set_option linter.unusedSimpArgs false
open Go.RowKit
attribute [local irreducible] World.setCell World.cell?

set_option maxRecDepth 100000 in
set_option maxHeartbeats 8000000 in
theorem law_speeds (A0 B : Option Addr) (n0 c0 l d : Nat) (M : Nat → Nat → Int) (Al : Nat → Int) (p0 p1 p2 p3 : Int) (w : World) (R : Rd w 7 A0 n0 c0 (iv M)) (L : Rd w 1 B l d (nv Al)) : Calls Try.prog 3 #[.slice A0 n0 c0, .slice B l d, .agg #[.int .i64 p0, .int .i64 p1, .int .i64 p2, .int .i64 p3]] w fun e w' => e = .returned (.bool true) ∧ Below w.heap.size w w' := by
  obtain ⟨n, hn0, hn, hmn⟩ : ∃ n : Nat, n ≤ n0 ∧ n ≤ 20 ∧ Hid (n = min n0 20) := ⟨min n0 20, by omega, by omega, rfl⟩
  have RN : Rd w 7 A0 n c0 (iv M) := R.less (by omega)
  have r1 := RN.le
  have r2 := RN.mx
  have q1 := R.le
  have q2 := R.mx
  obtain ⟨i2, hi, hz0, hz1, hz2⟩ := info_parts infoWi
  have HI := Lib.hid hi
  have HI0 := Lib.hid hz0
  have HI1 := Lib.hid hz1
  have HI2 := Lib.hid hz2
  clear hi hz0 hz1 hz2
  obtain ⟨i1, hi, hz0, hz1, hz2⟩ := info_parts infoI64
  have HK := Lib.hid hi
  have HK0 := Lib.hid hz0
  have HK1 := Lib.hid hz1
  have HK2 := Lib.hid hz2
  clear hi hz0 hz1 hz2
  go_enter Try.func3, Try.ntmps3
  try simp only [List.append_eq, List.cons_append, List.nil_append]
  go_wp2_with fail
  have G := Blk.new w 24 #[.int .i64 p0, .int .i64 p1, .int .i64 p2, .int .i64 p3]
  refine (bChain_c _).mono ?_
  rintro e w1 ⟨rfl, hb⟩
  have hB : Below w.heap.size w w1 := bt (ba w _) hb
  replace G := G.keep hb
  clear hb
  go_upto_region 3 with fail
  go_cut [0] from 28 to 32 (fun s0 wx => s0 = .slice A0 n c0 ∧ wx = w1)
  case first =>
    by_cases h20 : (20 : Int) < n0
    · go_wp2
      go_meet
      exact ⟨by congr 1; have := hmn.out; omega, rfl⟩
    · go_wp2
      go_meet
      exact ⟨by congr 1; have := hmn.out; omega, rfl⟩
  case rest =>
    obtain ⟨rfl, rfl⟩ := hcut
    go_wp2_with fail
    obtain ⟨B1, hB1⟩ : ∃ B1 : Nat, B1 = w.heap.size + 1 := ⟨_, rfl⟩
    go_loopw [7, 8, 9, 35] (fun s7 s8 s9 i wr => ∃ (k m : Nat) (A7 A8 A9 : Option Addr) (c7 c8 c9 : Nat), k ≤ n ∧ m = k - 1 ∧ i = .int .i64 k ∧ s7 = .slice A7 k c7 ∧ s8 = .slice A8 m c8 ∧ s9 = .slice A9 k c9 ∧ Own wr B1 30 2 A7 k c7 (iv (Sp.nS M)) ∧ Own wr B1 2 1 A8 m c8 (nv (Sp.nD M)) ∧ Own wr B1 2 1 A9 k c9 (nv fun _ => 1000) ∧ Dj A7 A8 ∧ Dj A7 A9 ∧ Dj A8 A9 ∧ Blk wr w.heap.size 24 #[.int .i64 p0, .int .i64 p1, .int .i64 p2, .int .i64 p3] ∧ Below w.heap.size w wr) (fun _ _ _ i _ => n - (intOf i).toNat)
    case atStart => exact ⟨0, 0, none, none, none, 0, 0, 0, Nat.zero_le _, rfl, rfl, rfl, rfl, rfl, Own.nil _ _ _ _ _, Own.nil _ _ _ _ _, Own.nil _ _ _ _ _, .inl rfl, .inl rfl, .inl rfl, G, hB⟩
    case round =>
      clear G hB
      obtain ⟨k, m, A7, A8, A9, c7, c8, c9, hk, hm, rfl, rfl, rfl, rfl, o7, o8, o9, d78, d79, d89, G, hB⟩ := hrel
      by_cases hlt : k < n
      · obtain ⟨b, off, eA, hbl, u0, u1, u2, u3, u4, u5, u6⟩ := (RN.keep hB).at7 hlt
        have HA := Lib.hid eA
        rw [HA.out]
        clear eA
        have hgl := G.lt
        have Nd := Blk.new wr 32 #[.int .i64 (M k 0), .int .i64 (M k 1), .int .i64 (M k 2), .int .i64 (M k 3), .int .i64 (M k 4), .int .i64 (M k 5), .int .i64 (M k 6)]
        have hm2 : m ≤ k := by omega
        have HM := Lib.hid hm
        clear hm
        by_cases hz : (0 : Int) < (k : Int)
        · go_wp2_with (at_builtin; first | (refine wpList_append_Rd _ rfl _ _ 26 rfl B1 30 i2 _ 2 16 Try.underlying26 HI.out HI0.out HI1.out HI2.out rfl (by decide) rfl ((o7.alloc _).alloc _) rfl (rd_row2 _ _ _ _ (by first | rfl | simp)) (one_iv _) (by omega) (by omega) (by simp; omega) ?_; intro A7_ c7_ w3 o7_ hgr3 hob3; have o7n := own_sn2 o7_ (Sp.nS M) (fun _ _ _ => rfl) ⟨if_pos rfl, if_neg (by omega)⟩; have o8n := ((o8.alloc _).alloc _).kept hgr3 d78.symm.kept; have o9n := ((o9.alloc _).alloc _).kept hgr3 d79.symm.kept; have e78 := d78.grow hob3 (((o8.alloc _).alloc _).under); have e79 := d79.grow hob3 (((o9.alloc _).alloc _).under); have hB3 := (bal (bal hB _) _).trans (below_grown hgr3 (fun g hg => by have := o7.base hg; omega) (bal (bal hB _) _).size); have Nd3 : Blk w3 wr.heap.size 32 #[.int .i64 (M k 0), .int .i64 (M k 1), .int .i64 (M k 2), .int .i64 (M k 3), .int .i64 (M k 4), .int .i64 (M k 5), .int .i64 (M k 6)] := (hgr3.block _ (Nd.alloc _).lt (fun he => by have := o7.under _ he.symm; omega)).trans (Nd.alloc _); have G3 : Blk w3 w.heap.size 24 #[.int .i64 p0, .int .i64 p1, .int .i64 p2, .int .i64 p3] := (hgr3.block _ ((G.alloc _).alloc _).lt (fun he => by have := o7.base he.symm; omega)).trans ((G.alloc _).alloc _); have t9 : ∀ g, ob A9 = some g → g < wr.heap.size := o9.under; clear o7 o8 o9 d78 d79 o7_ hB Nd G hgr3 hob3; have hsz3 := G3.lt) | (refine wpList_append_Rd _ rfl _ _ 23 rfl B1 2 i1 _ 1 8 Try.underlying23 HK.out HK0.out HK1.out HK2.out rfl (by decide) rfl (o9n.alloc _) rfl (rd_row1 _ _ _ (by first | rfl | simp)) (one_nv _) (by omega) (by omega) (by simp; omega) ?_; intro A9_ c9_ w5 o9_ hgr5 hob5; have o9m := own_sn1 (F := fun _ => 1000) o9_ rfl; have o8m := (o8n.alloc _).kept hgr5 d89.kept; have o7m := (o7n.alloc _).kept hgr5 e79.kept; have e98 := d89.symm.grow hob5 ((o8n.alloc _).under); have e97 := e79.symm.grow hob5 ((o7n.alloc _).under); have hB5 := (bal hB3 _).trans (below_grown hgr5 (fun g hg => by have := o9n.base hg; omega) (bal hB3 _).size); have Nd5 : Blk w5 wr.heap.size 32 #[.int .i64 (M k 0), .int .i64 (M k 1), .int .i64 (M k 2), .int .i64 (M k 3), .int .i64 (M k 4), .int .i64 (M k 5), .int .i64 (M k 6)] := (hgr5.block _ (Nd3.alloc _).lt (fun he => by have := t9 _ he.symm; omega)).trans (Nd3.alloc _); have G5 : Blk w5 w.heap.size 24 #[.int .i64 p0, .int .i64 p1, .int .i64 p2, .int .i64 p3] := (hgr5.block _ (G3.alloc _).lt (fun he => by have := o9n.base he.symm; omega)).trans (G3.alloc _); obtain ⟨y0, y1, y2, y3, y4, y5, y6, y7, y8⟩ := Nd5.open7; clear o7n o8n o9n d89 e79 o9_ hB3 Nd3 G3 hgr5 hob5; have hsz5 := G5.lt) | (refine wpList_append_Rd _ rfl _ _ 23 rfl B1 2 i1 _ 1 8 Try.underlying23 HK.out HK0.out HK1.out HK2.out rfl (by decide) rfl (o8m.alloc _) rfl (rd_row1 _ _ _ (by first | rfl | simp)) (one_nv _) (by omega) (by omega) (by simp; omega) ?_; intro A8_ c8_ w7 o8_ hgr7 hob7; have o8k := own_sn1 (F := Sp.nD M) o8_ (show M (m + 1) 2 = M k 2 by rw [show m + 1 = k from by have := HM.out; omega]); have o7k := (o7m.alloc _).kept hgr7 e78.kept; have o9k := (o9m.alloc _).kept hgr7 e98.kept; have e87 := e78.symm.grow hob7 ((o7m.alloc _).under); have e89 := e98.symm.grow hob7 ((o9m.alloc _).under); have hB7 := (bal hB5 _).trans (below_grown hgr7 (fun g hg => by have := o8m.base hg; omega) (bal hB5 _).size); have G7 : Blk w7 w.heap.size 24 #[.int .i64 p0, .int .i64 p1, .int .i64 p2, .int .i64 p3] := (hgr7.block _ (G5.alloc _).lt (fun he => by have := o8m.base he.symm; omega)).trans (G5.alloc _); clear o7m o8m o9m e78 e98 o8_ hB5 G5 hgr7 hob7))
          go_roundw
          case rel => exact ⟨k + 1, m + 1, A7_, A8_, A9_, c7_, c8_, c9_, by omega, by have := HM.out; omega, by go_num, rfl, rfl, rfl, o7k, o8k, o9k, e87.symm, e97.symm, e89, G7, hB7⟩
          case measure => simp [intOf]; omega
        · go_wp2_with (at_builtin; first | (refine wpList_append_Rd _ rfl _ _ 26 rfl B1 30 i2 _ 2 16 Try.underlying26 HI.out HI0.out HI1.out HI2.out rfl (by decide) rfl ((o7.alloc _).alloc _) rfl (rd_row2 _ _ _ _ (by first | rfl | simp)) (one_iv _) (by omega) (by omega) (by simp; omega) ?_; intro A7_ c7_ w3 o7_ hgr3 hob3; have o7n := own_sn2 o7_ (Sp.nS M) (fun _ _ _ => rfl) ⟨if_pos rfl, if_neg (by omega)⟩; have o8n := ((o8.alloc _).alloc _).kept hgr3 d78.symm.kept; have o9n := ((o9.alloc _).alloc _).kept hgr3 d79.symm.kept; have e78 := d78.grow hob3 (((o8.alloc _).alloc _).under); have e79 := d79.grow hob3 (((o9.alloc _).alloc _).under); have hB3 := (bal (bal hB _) _).trans (below_grown hgr3 (fun g hg => by have := o7.base hg; omega) (bal (bal hB _) _).size); have Nd3 : Blk w3 wr.heap.size 32 #[.int .i64 (M k 0), .int .i64 (M k 1), .int .i64 (M k 2), .int .i64 (M k 3), .int .i64 (M k 4), .int .i64 (M k 5), .int .i64 (M k 6)] := (hgr3.block _ (Nd.alloc _).lt (fun he => by have := o7.under _ he.symm; omega)).trans (Nd.alloc _); have G3 : Blk w3 w.heap.size 24 #[.int .i64 p0, .int .i64 p1, .int .i64 p2, .int .i64 p3] := (hgr3.block _ ((G.alloc _).alloc _).lt (fun he => by have := o7.base he.symm; omega)).trans ((G.alloc _).alloc _); have t9 : ∀ g, ob A9 = some g → g < wr.heap.size := o9.under; clear o7 o8 o9 d78 d79 o7_ hB Nd G hgr3 hob3; have hsz3 := G3.lt) | (refine wpList_append_Rd _ rfl _ _ 23 rfl B1 2 i1 _ 1 8 Try.underlying23 HK.out HK0.out HK1.out HK2.out rfl (by decide) rfl (o9n.alloc _) rfl (rd_row1 _ _ _ (by first | rfl | simp)) (one_nv _) (by omega) (by omega) (by simp; omega) ?_; intro A9_ c9_ w5 o9_ hgr5 hob5; have o9m := own_sn1 (F := fun _ => 1000) o9_ rfl; have o8m := (o8n.alloc _).kept hgr5 d89.kept; have o7m := (o7n.alloc _).kept hgr5 e79.kept; have e98 := d89.symm.grow hob5 ((o8n.alloc _).under); have e97 := e79.symm.grow hob5 ((o7n.alloc _).under); have hB5 := (bal hB3 _).trans (below_grown hgr5 (fun g hg => by have := o9n.base hg; omega) (bal hB3 _).size); have Nd5 : Blk w5 wr.heap.size 32 #[.int .i64 (M k 0), .int .i64 (M k 1), .int .i64 (M k 2), .int .i64 (M k 3), .int .i64 (M k 4), .int .i64 (M k 5), .int .i64 (M k 6)] := (hgr5.block _ (Nd3.alloc _).lt (fun he => by have := t9 _ he.symm; omega)).trans (Nd3.alloc _); have G5 : Blk w5 w.heap.size 24 #[.int .i64 p0, .int .i64 p1, .int .i64 p2, .int .i64 p3] := (hgr5.block _ (G3.alloc _).lt (fun he => by have := o9n.base he.symm; omega)).trans (G3.alloc _); obtain ⟨y0, y1, y2, y3, y4, y5, y6, y7, y8⟩ := Nd5.open7; clear o7n o8n o9n d89 e79 o9_ hB3 Nd3 G3 hgr5 hob5; have hsz5 := G5.lt))
          go_roundw
          case rel => exact ⟨k + 1, m, A7_, A8, A9_, c7_, c8, c9_, by omega, by have := HM.out; omega, by go_num, rfl, rfl, rfl, o7m, o8m, o9m, e78, e97.symm, e98.symm, G5, hB5⟩
          case measure => simp [intOf]; omega
      · have ek : n = k := by omega
        subst ek
        have hm2 : m ≤ n := by omega
        have HM := Lib.hid hm
        clear hm hlt hk
        have hs7 := o7.rd.le
        have hs7m := o7.rd.mx
        have hs8 := o8.rd.le
        have hs8m := o8.rd.mx
        obtain ⟨v0, v1, v2, v3, v4, v5⟩ := G.open4
        by_cases hs : Sp.stE m (Sp.nD M) p0 p1 = 0
        rotate_left
        · have E1 := Lib.hid (Sp.stL_e hs)
          have g1 : (Sp.stE m (Sp.nD M) p0 p1 != 0) = true := by simpa using hs
          clear hs
          go_wp2_with fail
          refine (steps_c _ _ _ (Sp.nD M) p0 p1 _ o8.rd).mono ?_
          rw [E1.out]
          rintro e w2 ⟨A1, c1, rfl, oS, h2⟩
          have hB2 := bt hB h2
          replace G := G.keep h2
          clear v0 v1 v2 v3 v4 v5
          obtain ⟨v0, v1, v2, v3, v4, v5⟩ := G.open4
          go_wp2_with fail
          refine (limit_c _ _ _ _ _ _ (Sp.nS M) Al p2 p3 _ (o7.rd.keep h2) (L.keep hB2)).mono ?_
          rintro e w3 ⟨A2, c2, rfl, oW, h3⟩
          have hB3 := bt hB2 h3
          replace G := G.keep h3
          clear v0 v1 v2 v3 v4 v5
          go_wp2_with fail
          go_returns
          exact ⟨rfl, hB3⟩
        have HS := Lib.hid hs
        clear hs
        by_cases hl : Sp.lmE n l p3 = 0
        rotate_left
        · have E1 := Lib.hid (Sp.lmL_e hl)
          have g1 : (Sp.lmE n l p3 != 0) = true := by simpa using hl
          clear hl
          go_wp2_with fail
          refine (steps_c _ _ _ (Sp.nD M) p0 p1 _ o8.rd).mono ?_
          rw [Sp.stL_0 HS.out, HS.out]
          rintro e w2 ⟨A1, c1, rfl, oS, h2⟩
          have hB2 := bt hB h2
          replace G := G.keep h2
          clear v0 v1 v2 v3 v4 v5
          obtain ⟨v0, v1, v2, v3, v4, v5⟩ := G.open4
          go_wp2_with fail
          refine (limit_c _ _ _ _ _ _ (Sp.nS M) Al p2 p3 _ (o7.rd.keep h2) (L.keep hB2)).mono ?_
          rw [E1.out]
          rintro e w3 ⟨A2, c2, rfl, oW, h3⟩
          have hB3 := bt hB2 h3
          replace G := G.keep h3
          clear v0 v1 v2 v3 v4 v5
          by_cases hm0 : (m : Int) = 0
          · go_wp2_with fail
            go_returns
            exact ⟨rfl, hB3⟩
          · go_wp2_with fail
            go_returns
            exact ⟨rfl, hB3⟩
        have HL := Lib.hid hl
        clear hl
        by_cases hp : Sp.plE n (Sp.lmT (Sp.nS M) Al p2 p3 n) m (Sp.stT (Sp.nD M) p0 p1) n (fun _ => 1000) = 0
        · have PL := Lib.hid (show Sp.plL n (Sp.lmT (Sp.nS M) Al p2 p3 n) m (Sp.stT (Sp.nD M) p0 p1) n (fun _ => 1000) = n from if_pos hp)
          have HP := Lib.hid hp
          clear hp
          go_wp2_with fail
          refine (steps_c _ _ _ (Sp.nD M) p0 p1 _ o8.rd).mono ?_
          rw [Sp.stL_0 HS.out, HS.out]
          rintro e w2 ⟨A1, c1, rfl, oS, h2⟩
          have hB2 := bt hB h2
          replace G := G.keep h2
          clear v0 v1 v2 v3 v4 v5
          obtain ⟨v0, v1, v2, v3, v4, v5⟩ := G.open4
          go_wp2_with fail
          refine (limit_c _ _ _ _ _ _ (Sp.nS M) Al p2 p3 _ (o7.rd.keep h2) (L.keep hB2)).mono ?_
          rw [Sp.lmL_0 HL.out, HL.out]
          rintro e w3 ⟨A2, c2, rfl, oW, h3⟩
          have hB3 := bt hB2 h3
          replace G := G.keep h3
          clear v0 v1 v2 v3 v4 v5
          go_wp2_with fail
          refine (plan_c _ _ _ _ _ _ _ _ _ _ _ _ _ oW.rd (oS.rd.keep h3) (o9.rd.keep (bt h2 h3))).mono ?_
          rw [PL.out, HP.out]
          rintro e w4 ⟨A3, c3, rfl, oV, h4⟩
          have hB4 := bt hB3 h4
          replace G := G.keep h4
          have Q := Sp.st_ok HS.out
          have K := fun (i : Nat) (hi : i < n) => Sp.kept (Al := Al) HP.out Q.1.1 Q.2.1.1 (fun j hj => (Q.2.2 j hj).1) hi
          generalize Co.thi n (Co.lwN (Sp.lmT (Sp.nS M) Al p2 p3 n) fun _ => 1000) (Sp.stT (Sp.nD M) p0 p1) = V at oV K
          have el : n = l := (Sp.lm_ok HL.out).symm
          subst el
          clear oS oW h2 h3 hB2 hB3 hB o7 o8 o9 HP PL HL HS d78 d79 d89
          have KH := Lib.hid K
          have QH := Lib.hid Q
          clear K Q
          go_wp2_with fail
          go_loopw [105] (fun i wr => ∃ k : Nat, k ≤ n ∧ i = .int .i64 k ∧ Below w4.heap.size w4 wr) (fun i _ => n - (intOf i).toNat)
          case atStart => exact ⟨0, Nat.zero_le _, rfl, Below.refl _ _⟩
          case round =>
            obtain ⟨k, hk, rfl, hb⟩ := hrel
            by_cases hlt : k < n
            · obtain ⟨x1, x2, x3, x4, x5, x6⟩ := KH.out k hlt
              replace x1 : M k 5 ≤ V k := x1
              replace x2 : V k ≤ M k 6 := x2
              have hBr := bt hB4 hb
              obtain ⟨b, off, eA, hbl, u0, u1, u2, u3, u4, u5, u6⟩ := (RN.keep hBr).at7 hlt
              have HA := Lib.hid eA
              rw [HA.out]
              clear eA
              obtain ⟨b2, off2, eB, hbl2, a0⟩ := (L.keep hBr).at1 hlt
              have HB_ := Lib.hid eB
              rw [HB_.out]
              clear eB
              have RV := oV.rd.keep hb
              obtain ⟨b3, off3, eV, hbl3, y0⟩ := RV.at1 hlt
              have HV := Lib.hid eV
              rw [HV.out] at RV ⊢
              clear eV
              obtain ⟨v0, v1, v2, v3, v4, v5⟩ := (G.keep hb).open4
              have g1 : decide (V k < M k 5) = false := decide_eq_false (by omega)
              have g2 : decide (M k 6 < V k) = false := decide_eq_false (by omega)
              by_cases ha : Al k < p2
              · have x3 := x3 ha
                have g3 : decide (Al k < p2) = true := decide_eq_true ha
                have g4 : decide (p3 < V k) = false := decide_eq_false (by omega)
                clear ha
                by_cases hz : k = 0
                · have g5 : decide ((0 : Int) < (k : Int)) = false := decide_eq_false (by omega)
                  have g6 : decide (0 < k) = false := decide_eq_false (by omega)
                  clear x6 RV hz
                  go_wp2
                  go_quiet (fail)
                  go_wp2
                  go_quiet (fail)
                  go_wp2
                  go_roundw
                  case rel => exact ⟨k + 1, by omega, by go_num, by first | exact bdnl (bal hb _) _ | exact bdnl (bdnl (bal hb _) _) _⟩
                  case measure => simp [intOf]; omega
                · obtain ⟨j, rfl⟩ : ∃ j, k = j + 1 := ⟨k - 1, by omega⟩
                  obtain ⟨z1, z2⟩ := x6 j rfl
                  obtain ⟨_, _, _, y4, y5, _⟩ := KH.out j (by omega)
                  obtain ⟨_, y6⟩ := RV.s1' (k := j) (by omega)
                  obtain ⟨d0, d1⟩ := QH.out.2.2 j (by have := HM.out; omega)
                  obtain ⟨⟨a1, a2⟩, ⟨a3, a4⟩, _⟩ := QH.out
                  replace d0 : 0 ≤ M (j + 1) 2 := d0
                  replace d1 : M (j + 1) 2 ≤ 8000000 := d1
                  replace z1 : (V (j + 1) - V j) * 6000 ≤ p0 * M (j + 1) 2 := z1
                  replace z2 : (V j - V (j + 1)) * 6000 ≤ p1 * M (j + 1) 2 := z2
                  have m1 : 0 ≤ p0 * M (j + 1) 2 := Int.mul_nonneg a1 d0
                  have m2 : 0 ≤ p1 * M (j + 1) 2 := Int.mul_nonneg a3 d0
                  have m3 : p0 * M (j + 1) 2 ≤ 1000 * 8000000 := Int.mul_le_mul a2 d1 d0 (by omega)
                  have m4 : p1 * M (j + 1) 2 ≤ 1000 * 8000000 := Int.mul_le_mul a4 d1 d0 (by omega)
                  have m5 : -9223372036854775808 ≤ p0 * M (j + 1) 2 := by omega
                  have m6 : p0 * M (j + 1) 2 ≤ 9223372036854775807 := by omega
                  have m7 : -9223372036854775808 ≤ p1 * M (j + 1) 2 := by omega
                  have m8 : p1 * M (j + 1) 2 ≤ 9223372036854775807 := by omega
                  have g5 : decide ((0 : Int) < (j : Int) + 1) = true := decide_eq_true (by omega)
                  have g6 : decide (p0 * M (j + 1) 2 < (V (j + 1) - V j) * 6000) = false := decide_eq_false (by omega)
                  have g7 : decide (p1 * M (j + 1) 2 < (V j - V (j + 1)) * 6000) = false := decide_eq_false (by omega)
                  have i1 : (0 : Int) ≤ (j : Int) := by omega
                  have i2 : (j : Int) + 1 < (n : Int) := by omega
                  have i3 : (j : Int) < (n : Int) := by omega
                  have i4 : (j : Int) + 1 - 1 = (j : Int) := by omega
                  clear x6 RV m1 m2 m3 m4 hz a1 a2 a3 a4
                  go_wp2
                  go_quiet (fail)
                  go_wp2
                  go_quiet (fail)
                  go_wp2
                  go_roundw
                  case rel => exact ⟨j + 1 + 1, by omega, by go_num, by first | exact bdnl (bal hb _) _ | exact bdnl (bdnl (bal hb _) _) _⟩
                  case measure => simp [intOf]; omega
              · have g3 : decide (Al k < p2) = false := decide_eq_false ha
                clear ha x3
                by_cases hz : k = 0
                · have g5 : decide ((0 : Int) < (k : Int)) = false := decide_eq_false (by omega)
                  have g6 : decide (0 < k) = false := decide_eq_false (by omega)
                  clear x6 RV hz
                  go_wp2
                  go_quiet (fail)
                  go_wp2
                  go_quiet (fail)
                  go_wp2
                  go_roundw
                  case rel => exact ⟨k + 1, by omega, by go_num, by first | exact bdnl (bal hb _) _ | exact bdnl (bdnl (bal hb _) _) _⟩
                  case measure => simp [intOf]; omega
                · obtain ⟨j, rfl⟩ : ∃ j, k = j + 1 := ⟨k - 1, by omega⟩
                  obtain ⟨z1, z2⟩ := x6 j rfl
                  obtain ⟨_, _, _, y4, y5, _⟩ := KH.out j (by omega)
                  obtain ⟨_, y6⟩ := RV.s1' (k := j) (by omega)
                  obtain ⟨d0, d1⟩ := QH.out.2.2 j (by have := HM.out; omega)
                  obtain ⟨⟨a1, a2⟩, ⟨a3, a4⟩, _⟩ := QH.out
                  replace d0 : 0 ≤ M (j + 1) 2 := d0
                  replace d1 : M (j + 1) 2 ≤ 8000000 := d1
                  replace z1 : (V (j + 1) - V j) * 6000 ≤ p0 * M (j + 1) 2 := z1
                  replace z2 : (V j - V (j + 1)) * 6000 ≤ p1 * M (j + 1) 2 := z2
                  have m1 : 0 ≤ p0 * M (j + 1) 2 := Int.mul_nonneg a1 d0
                  have m2 : 0 ≤ p1 * M (j + 1) 2 := Int.mul_nonneg a3 d0
                  have m3 : p0 * M (j + 1) 2 ≤ 1000 * 8000000 := Int.mul_le_mul a2 d1 d0 (by omega)
                  have m4 : p1 * M (j + 1) 2 ≤ 1000 * 8000000 := Int.mul_le_mul a4 d1 d0 (by omega)
                  have m5 : -9223372036854775808 ≤ p0 * M (j + 1) 2 := by omega
                  have m6 : p0 * M (j + 1) 2 ≤ 9223372036854775807 := by omega
                  have m7 : -9223372036854775808 ≤ p1 * M (j + 1) 2 := by omega
                  have m8 : p1 * M (j + 1) 2 ≤ 9223372036854775807 := by omega
                  have g5 : decide ((0 : Int) < (j : Int) + 1) = true := decide_eq_true (by omega)
                  have g6 : decide (p0 * M (j + 1) 2 < (V (j + 1) - V j) * 6000) = false := decide_eq_false (by omega)
                  have g7 : decide (p1 * M (j + 1) 2 < (V j - V (j + 1)) * 6000) = false := decide_eq_false (by omega)
                  have i1 : (0 : Int) ≤ (j : Int) := by omega
                  have i2 : (j : Int) + 1 < (n : Int) := by omega
                  have i3 : (j : Int) < (n : Int) := by omega
                  have i4 : (j : Int) + 1 - 1 = (j : Int) := by omega
                  clear x6 RV m1 m2 m3 m4 hz a1 a2 a3 a4
                  go_wp2
                  go_quiet (fail)
                  go_wp2
                  go_quiet (fail)
                  go_wp2
                  go_roundw
                  case rel => exact ⟨j + 1 + 1, by omega, by go_num, by first | exact bdnl (bal hb _) _ | exact bdnl (bdnl (bal hb _) _) _⟩
                  case measure => simp [intOf]; omega
            · have ek : n = k := by omega
              subst ek
              clear hlt
              go_wp2_with fail
              go_returns
              exact ⟨rfl, bt hB4 hb⟩
        have PL := Lib.hid (show Sp.plL n (Sp.lmT (Sp.nS M) Al p2 p3 n) m (Sp.stT (Sp.nD M) p0 p1) n (fun _ => 1000) = 0 from if_neg hp)
        by_cases hq : Sp.plE n (Sp.lmT (Sp.nS M) Al p2 p3 n) m (Sp.stT (Sp.nD M) p0 p1) n (fun _ => 1000) = 11
        rotate_left
        · have g1 : (Sp.plE n (Sp.lmT (Sp.nS M) Al p2 p3 n) m (Sp.stT (Sp.nD M) p0 p1) n (fun _ => 1000) == 0) = false := by simpa using hp
          have g2 : (Sp.plE n (Sp.lmT (Sp.nS M) Al p2 p3 n) m (Sp.stT (Sp.nD M) p0 p1) n (fun _ => 1000) != 11) = true := by simpa using hq
          clear hp hq
          go_wp2_with fail
          refine (steps_c _ _ _ (Sp.nD M) p0 p1 _ o8.rd).mono ?_
          rw [Sp.stL_0 HS.out, HS.out]
          rintro e w2 ⟨A1, c1, rfl, oS, h2⟩
          have hB2 := bt hB h2
          replace G := G.keep h2
          clear v0 v1 v2 v3 v4 v5
          obtain ⟨v0, v1, v2, v3, v4, v5⟩ := G.open4
          go_wp2_with fail
          refine (limit_c _ _ _ _ _ _ (Sp.nS M) Al p2 p3 _ (o7.rd.keep h2) (L.keep hB2)).mono ?_
          rw [Sp.lmL_0 HL.out, HL.out]
          rintro e w3 ⟨A2, c2, rfl, oW, h3⟩
          have hB3 := bt hB2 h3
          replace G := G.keep h3
          clear v0 v1 v2 v3 v4 v5
          go_wp2_with fail
          refine (plan_c _ _ _ _ _ _ _ _ _ _ _ _ _ oW.rd (oS.rd.keep h3) (o9.rd.keep (bt h2 h3))).mono ?_
          rw [PL.out]
          rintro e w4 ⟨A3, c3, rfl, oV, h4⟩
          have hB4 := bt hB3 h4
          replace G := G.keep h4
          go_wp2_with fail
          go_returns
          exact ⟨rfl, hB4⟩
        have HP := Lib.hid hq
        clear hp hq
        go_wp2_with fail
        refine (steps_c _ _ _ (Sp.nD M) p0 p1 _ o8.rd).mono ?_
        rw [Sp.stL_0 HS.out, HS.out]
        rintro e w2 ⟨A1, c1, rfl, oS, h2⟩
        have hB2 := bt hB h2
        replace G := G.keep h2
        clear v0 v1 v2 v3 v4 v5
        obtain ⟨v0, v1, v2, v3, v4, v5⟩ := G.open4
        go_wp2_with fail
        refine (limit_c _ _ _ _ _ _ (Sp.nS M) Al p2 p3 _ (o7.rd.keep h2) (L.keep hB2)).mono ?_
        rw [Sp.lmL_0 HL.out, HL.out]
        rintro e w3 ⟨A2, c2, rfl, oW, h3⟩
        have hB3 := bt hB2 h3
        replace G := G.keep h3
        clear v0 v1 v2 v3 v4 v5
        go_wp2_with fail
        refine (plan_c _ _ _ _ _ _ _ _ _ _ _ _ _ oW.rd (oS.rd.keep h3) (o9.rd.keep (bt h2 h3))).mono ?_
        rw [PL.out, HP.out]
        rintro e w4 ⟨A3, c3, rfl, oV, h4⟩
        have hB4 := bt hB3 h4
        replace G := G.keep h4
        obtain ⟨i, j, hij, hj, f1, f2, f3, f0, fe, fv, fx, feq, flt⟩ := Sp.named HP.out
        have KW := Lib.hid ((Sp.okP_iff _ n).1 (Sp.conf HP.out).2.1)
        have SM := Lib.hid (fun (c : Nat) (hc : i + c ≤ m) => Sp.sm_small HS.out hc)
        generalize (Sp.lmT (Sp.nS M) Al p2 p3 n) = W_ at *
        generalize (Sp.stT (Sp.nD M) p0 p1) = S_ at *
        generalize hx : Co.ex W_ S_ i j = x at *
        have F0 := Lib.hid f0
        have F1 := Lib.hid f1
        have F2 := Lib.hid f2
        have F3 := Lib.hid f3
        have FE := Lib.hid fe
        have FV := Lib.hid fv
        have FQ := Lib.hid feq
        have FL := Lib.hid flt
        clear f0 f1 f2 f3 fe fv feq flt hx
        have RW := oW.rd.keep h4
        have RS := oS.rd.keep (bt h3 h4)
        clear oW oS h2 h3 hB2 hB3 hB o7 o8 o9 HP PL HL HS d78 d79 d89 oV
        go_wp2_with fail
        refine (conflicts_c _ _ _ _ _ _ _ _ _ RW RS).mono ?_
        rw [F0.out, F1.out, F2.out, F3.out]
        rintro e w5 ⟨rfl, h5⟩
        have C := Blk.new w5 42 #[.int .i64 i, .int .i64 j]
        have hC := bal h5 (.cells #[.int .i64 i, .int .i64 j] 42)
        go_wp2_with fail
        obtain ⟨c0_, c1_, c2_, c3_⟩ := C.open2
        refine (excess_c _ _ _ _ _ _ _ _ (i : Int) (j : Int) _ (RW.keep hC) (RS.keep hC)).mono ?_
        rw [FE.out, FV.out]
        rintro e w6 ⟨rfl, h6⟩
        have hB6 : Below w.heap.size w w6 := bt (bt hB4 hC) h6
        clear c0_ c1_ c2_ c3_
        have C6 := C.keep h6
        obtain ⟨c0_, c1_, c2_, c3_⟩ := C6.open2
        replace RW := (RW.keep hC).keep h6
        replace RS := (RS.keep hC).keep h6
        clear hC h6 h5 h4 hB4 C F0 F1 F2 F3 FE FV G
        have nx : ¬ x < 1 := by omega
        have ni : ¬ (i : Int) < 0 := by omega
        have nji : ¬ (j : Int) < (i : Int) := by omega
        have njn : ¬ (n : Int) ≤ (j : Int) := by omega
        obtain ⟨⟨k0, k1⟩, ⟨k2, k3⟩⟩ := KW.out i (by omega)
        obtain ⟨⟨k4, k5⟩, ⟨k6, k7⟩⟩ := KW.out j hj
        obtain ⟨b, off, eA, hbl, y0, y1⟩ := RW.at2 (k := i) (by omega)
        have HA := Lib.hid eA
        rw [HA.out] at RW ⊢
        clear eA
        obtain ⟨_, y2, y3⟩ := RW.s2' hj
        by_cases e : i = j
        · subst e
          have hx := FQ.out rfl
          subst hx
          clear RW RS
          go_wp2_with fail
          go_quiet (fail)
          go_wp2
          go_returns
          exact ⟨rfl, bdnl hB6 _⟩
        have rs1 := RS.le
        have rs2 := RS.mx
        have hjm : j ≤ m := by have := HM.out; omega
        have T2 := RS.cut hij hjm
        have hlt2 : i < j := by omega
        have hfl := FL.out hlt2
        have e1 : ¬ (i : Int) = (j : Int) := by omega
        have e2 : ((i : Int) == (j : Int)) = false := by simp; omega
        rw [if_neg (by omega), iv_shift] at T2
        obtain ⟨c, hc⟩ : ∃ c, c = j - i := ⟨_, rfl⟩
        rw [← hc] at T2 hfl
        have hjc : j = i + c := by omega
        have i1 : (i : Int) ≤ (j : Int) := by omega
        have i2 : (j : Int) ≤ (c1 : Int) := by omega
        have i3 : (j : Int) - (i : Int) = (c : Int) := by omega
        have i4 : ((i : Int) + (c : Int)) = (j : Int) := by omega
        have hcm : i + c ≤ m := by omega
        have hji : j - i = c := hc.symm
        have HJ := Lib.hid hjc
        have HFL := Lib.hid hfl
        clear hfl hjc hc RS e hij
        go_wp2_with fail
        go_loopw [22, 23, 266] (fun x0 x1 q wr => ∃ k : Nat, k ≤ c ∧ q = .int .i64 k ∧ x0 = .int .i64 (Co.sm S_ 0 i k) ∧ x1 = .int .i64 (Co.sm S_ 1 i k) ∧ Below w6.heap.size w6 wr) (fun _ _ q _ => c - (intOf q).toNat)
        case atStart => exact ⟨0, Nat.zero_le _, rfl, rfl, rfl, Below.refl _ _⟩
        case round =>
          obtain ⟨k, hk, rfl, rfl, rfl, hb⟩ := hrel
          obtain ⟨⟨a0, a1⟩, ⟨a2, a3⟩, a4⟩ := SM.out k (by omega)
          by_cases hlt : k < c
          · obtain ⟨b2, off2, eB, hbl2, u0, u1⟩ := (T2.keep hb).at2 hlt
            have HB_ := Lib.hid eB
            rw [HB_.out]
            clear eB
            obtain ⟨⟨a5, a6⟩, ⟨a7, a8⟩⟩ := a4 (i + k) (by omega)
            clear a4
            go_wp2_with fail
            go_quiet (fail)
            go_wp2
            go_roundw
            case rel => exact ⟨k + 1, by omega, by go_num, rfl, rfl, bdnl (bal hb _) _⟩
            case measure => simp [intOf]; omega
          · have ek : c = k := by omega
            subst ek
            obtain ⟨_, y0, y1⟩ := (RW.keep hb).s2' (k := i) (by omega)
            obtain ⟨_, y2, y3⟩ := (RW.keep hb).s2' hj
            obtain ⟨c0_, c1_, c2_, c3_⟩ := (C6.keep hb).open2
            have hfl := HFL.out
            generalize Co.sm S_ 0 i c = s0 at *
            generalize Co.sm S_ 1 i c = s1 at *
            clear a4 hlt T2
            by_cases ea : W_ j 0 - W_ i 1 - s0 = x
            · have g1 : decide (W_ j 0 - W_ i 1 - s0 = x) = true := decide_eq_true ea
              have g2 : (W_ j 0 - W_ i 1 - s0 == x) = true := by simp; omega
              clear hfl ea
              go_wp2_with fail
              go_quiet (fail)
              go_wp2
              go_returns
              exact ⟨rfl, bdnl (bt hB6 hb) _⟩
            · have g1 : decide (W_ j 0 - W_ i 1 - s0 = x) = false := decide_eq_false ea
              have g2 : (W_ j 0 - W_ i 1 - s0 == x) = false := by simp; omega
              have g3 : decide (W_ i 0 - W_ j 1 - s1 = x) = true := decide_eq_true (by omega)
              have g4 : (W_ i 0 - W_ j 1 - s1 == x) = true := by simp; omega
              clear hfl ea
              go_wp2_with fail
              go_quiet (fail)
              go_wp2
              go_returns
              exact ⟨rfl, bdnl (bt hB6 hb) _⟩
end Go.Proofs.Ytpipjpgcnbpllaa
