/-
  Contract: the reference's Tighten.
-/
import Derived.Test.YtgfmheaijdcgoaaW12
import Derived.Deep.DrawnRows
import Derived.Deep.DeepCutAuto
namespace Go.Proofs.Ytgfmheaijdcgoaa
set_option linter.unusedVariables false
set_option linter.unusedSimpArgs false
open Go.RowKit
attribute [local go_sem ↓] Go.wp_at_zero Go.wp_at_succ

set_option maxRecDepth 100000 in
set_option maxHeartbeats 4000000 in
theorem rtighten_c (A B : Option Addr) (n c m d : Nat) (N S : Nat → Nat → Int) (w : World) (R : Rd w 2 A n c (iv N)) (T : Rd w 2 B m d (iv S)) :
    Calls Try.prog 24 #[.slice A n c, .slice B m d] w (TgPost n N m S w) := by
  by_cases hck : Co.ck n N m S = 0
  rotate_left
  · have e1 : Co.tgE n N m S = Co.ck n N m S := by unfold Co.tgE; rw [if_pos hck]
    have e2 : Co.tgL n N m S = 0 := by unfold Co.tgL; rw [e1, if_neg hck]
    obtain ⟨f1, f2, f3⟩ := Co.f_no (N := N) (S := S) (.inl hck)
    have E1 := Lib.hid e1
    have E2 := Lib.hid e2
    have h3 : (Co.ck n N m S != 0) = true := by simpa using hck
    clear e1 e2 hck
    go_enter Try.func24, Try.ntmps24
    go_wp2_with fail
    refine (rconflicts_c _ _ _ _ _ _ _ _ _ R T).mono ?_
    rw [f1, f2, f3]
    rintro e w1 ⟨rfl, hb⟩
    go_wp2
    go_returns
    refine ⟨none, 0, ?_, ?_, by repeat (first | exact Below.refl _ _ | (with_reducible assumption) | (with_reducible apply bal) | (with_reducible apply bdr) | (with_reducible apply bdnl) | (with_reducible refine bst ?_ (by first | (simp; done) | (simp; omega) | omega) _) | (with_reducible refine bt ?_ (by with_reducible assumption)))⟩
    · rw [E1.out, E2.out]; first | rfl | simp
    · rw [E2.out]; exact Own.nil _ _ _ _ _
  have O := Co.ck_ok.1 hck
  cases hcb : Co.cB n N S
  rotate_left
  · have e1 : Co.tgE n N m S = 11 := by unfold Co.tgE; rw [if_neg (by omega), if_pos hcb]
    have e2 : Co.tgL n N m S = 0 := by unfold Co.tgL; rw [e1]; rfl
    obtain ⟨f1, f2, f3⟩ := Co.f_yes hck hcb
    have E1 := Lib.hid e1
    have E2 := Lib.hid e2
    have H0 := Lib.hid hck
    clear e1 e2 hck hcb
    go_enter Try.func24, Try.ntmps24
    go_wp2_with fail
    refine (rconflicts_c _ _ _ _ _ _ _ _ _ R T).mono ?_
    rw [f1, H0.out]
    rintro e w1 ⟨rfl, hb⟩
    go_wp2
    go_returns
    refine ⟨none, 0, ?_, ?_, by repeat (first | exact Below.refl _ _ | (with_reducible assumption) | (with_reducible apply bal) | (with_reducible apply bdr) | (with_reducible apply bdnl) | (with_reducible refine bst ?_ (by first | (simp; done) | (simp; omega) | omega) _) | (with_reducible refine bt ?_ (by with_reducible assumption)))⟩
    · rw [E1.out, E2.out]; first | rfl | simp
    · rw [E2.out]; exact Own.nil _ _ _ _ _
  have e1 : Co.tgE n N m S = 0 := by unfold Co.tgE; rw [if_neg (by omega), hcb]; rfl
  have e2 : Co.tgL n N m S = n := by unfold Co.tgL; rw [if_pos e1]
  obtain ⟨f1, f2, f3⟩ := Co.f_no (N := N) (S := S) (.inr ⟨hck, hcb⟩)
  have E1 := Lib.hid e1
  have E2 := Lib.hid e2
  have H0 := Lib.hid hck
  have hn := O.hn
  have hm := O.hm
  have hm63 : m ≤ 63 := by omega
  have r1 := R.le
  clear e1 e2 hck hcb
  have HM := Lib.hid hm
  clear hm
  obtain ⟨i0, hi, hz0, hz1, hz2⟩ := info_parts infoW
  have HI := Lib.hid hi
  have HZ0 := Lib.hid hz0
  have HZ1 := Lib.hid hz1
  have HZ2 := Lib.hid hz2
  clear hi hz0 hz1 hz2
  go_enter Try.func24, Try.ntmps24
  go_wp2_with fail
  refine (rconflicts_c _ _ _ _ _ _ _ _ _ R T).mono ?_
  rw [f1, f2, f3, H0.out]
  rintro e w1 ⟨rfl, hb⟩
  go_wp2
  go_loopw [9, 26] (fun s q wr => ∃ (i : Nat) (A' : Option Addr) (c' : Nat), i ≤ n ∧ q = .int .i64 i ∧ s = .slice A' i c' ∧ Own wr w.heap.size 44 2 A' i c' (iv (fun k f => if f = 0 then Co.rlo N S k n else Co.rhi N S k n)) ∧ Below w.heap.size w wr) (fun _ q _ => n - (intOf q).toNat)
  case atStart => exact ⟨0, none, 0, Nat.zero_le _, rfl, rfl, Own.nil _ _ _ _ _, by repeat (first | exact Below.refl _ _ | (with_reducible assumption) | (with_reducible apply bal) | (with_reducible apply bdr) | (with_reducible apply bdnl) | (with_reducible refine bst ?_ (by first | (simp; done) | (simp; omega) | omega) _) | (with_reducible refine bt ?_ (by with_reducible assumption)))⟩
  case round =>
    clear hb
    obtain ⟨i, A', c', hi, rfl, rfl, own, hB⟩ := hrel
    by_cases hlt : i < n
    · obtain ⟨b, off, eA, hbl, u0w, u1w⟩ := R.at2 hlt
      have HA := Lib.hid eA
      rw [HA.out]
      clear eA
      have u0 := ((bcell hB).1 _ _ hbl).trans u0w
      have u1 := ((bcell hB).1 _ _ hbl).trans u1w
      clear u0w u1w
      go_wp2
      have G := Blk.new wr 44 #[.int .i64 (N i 0), .int .i64 (N i 1)]
      have own2 := own.alloc (.cells #[.int .i64 (N i 0), .int .i64 (N i 1)] 44)
      have hB2 := bal hB (.cells #[.int .i64 (N i 0), .int .i64 (N i 1)] 44)
      have hg := hB.size
      generalize hgr : wr.heap.size = g at G hg ⊢
      have hAg : ob A' = none ∨ ob A' ≠ some g := by
        rcases own_old own with h | ⟨k, h, hk⟩
        · exact .inl h
        · rw [h]; exact .inr (by simp; omega)
      clear own hB u0 u1
      generalize World.alloc wr _ = W0 at G own2 hB2 ⊢
      go_loopw [35] (fun q wq => ∃ k : Nat, k ≤ n ∧ q = .int .i64 k ∧ Blk wq g 44 #[.int .i64 (Co.rlo N S i k), .int .i64 (Co.rhi N S i k)] ∧ Own wq w.heap.size 44 2 A' i c' (iv (fun k f => if f = 0 then Co.rlo N S k n else Co.rhi N S k n)) ∧ Below w.heap.size w wq) (fun q _ => n - (intOf q).toNat)
      case atStart => exact ⟨0, Nat.zero_le _, rfl, G, own2, hB2⟩
      case round =>
        clear G own2 hB2
        obtain ⟨k, hk, rfl, G, own, hB⟩ := hrel
        by_cases hlk : k < n
        · obtain ⟨b2, off2, eA2, hbl2, v0w, v1w⟩ := R.at2 hlk
          rw [HA.out] at eA2
          injection eA2 with eA2
          injection eA2 with eb eo
          subst eb eo
          have V0 := Lib.hid v0w
          have V1 := Lib.hid v1w
          clear v0w v1w hbl2
          have i1 : (0 : Int) ≤ (k : Int) := by omega
          have i2 : (k : Int) < (n : Int) := by omega
          by_cases hki : k < i
          · skip
            have hkm : i ≤ m := by have := HM.out; omega
            have hkm2 : k ≤ m := by have := HM.out; omega
            have d0 := Co.sm_bd O.s0 k (i - k) (by omega)
            have d1 := Co.sm_bd O.s1 k (i - k) (by omega)
            have a0 := O.w0 k hlk
            have a1 := O.w1 k hlk
            have x1 : IntKind.i64.wrap (N k 1 + Co.sm S 0 k (i - k)) = N k 1 + Co.sm S 0 k (i - k) := IntWalk.i64_in _ (by omega)
            have x2 : IntKind.i64.wrap (N k 0 - Co.sm S 1 k (i - k)) = N k 0 - Co.sm S 1 k (i - k) := IntWalk.i64_in _ (by omega)
            have m1 : (if N k 1 + Co.sm S 0 k (i - k) < Co.rhi N S i k then N k 1 + Co.sm S 0 k (i - k) else Co.rhi N S i k) = Co.rhi N S i (k + 1) := by rw [Co.rhi, if_pos hki]; omega
            have m2 : (if Co.rlo N S i k < N k 0 - Co.sm S 1 k (i - k) then N k 0 - Co.sm S 1 k (i - k) else Co.rlo N S i k) = Co.rlo N S i (k + 1) := by rw [Co.rlo, if_pos hki]; omega
            go_upto_region 15 with fail
            go_cut [] from 41 to 54 (fun wx => Blk wx g 44 #[.int .i64 (Co.rlo N S i k), .int .i64 (Co.rhi N S i (k + 1))] ∧ Own wx w.heap.size 44 2 A' i c' (iv (fun k f => if f = 0 then Co.rlo N S k n else Co.rhi N S k n)) ∧ Below w.heap.size w wx)
            case first =>
              have v1 := ((bcell hB).1 _ _ hbl).trans V1.out
              obtain ⟨g0, g1, g2, g3⟩ := G.open2
              go_region_with (first | (go_at_call 31; refine (rise_c _ _ _ _ _ _ _ (Rd.keep T (by first | exact hB | exact bdr hB)) (by omega) (by omega) hm63 O.s0 O.s1).mono ?_; rintro e wn ⟨rfl, hbn⟩; have G2 := Blk.keep (by first | exact G | exact G.drew) hbn; have own2 := Own.keep (by first | exact own | exact own.drew) hbn; have hB2 := bt (by first | exact hB | exact bdr hB) hbn; have v2 := ((bcell hB2).1 _ _ hbl).trans V1.out; obtain ⟨z0, z1, z2, z3⟩ := G2.open2))
              all_goals
                go_wp2_with fail
                go_meet
                exact ⟨by first | (simpa using G2.set_ 1 (.int .i64 (Co.rhi N S i (k + 1)))) | (simpa using (G2.set_ 1 (.int .i64 (Co.rhi N S i (k + 1)))).drew), by first | exact own2.far hAg _ | exact (own2.far hAg _).drew, by first | exact bst hB2 hg _ | exact bdr (bst hB2 hg _)⟩
            case rest =>
              clear G own hB
              obtain ⟨G, own, hB⟩ := hcut
              go_upto_region 16 with fail
              go_cut [] from 55 to 68 (fun wx => Blk wx g 44 #[.int .i64 (Co.rlo N S i (k + 1)), .int .i64 (Co.rhi N S i (k + 1))] ∧ Own wx w.heap.size 44 2 A' i c' (iv (fun k f => if f = 0 then Co.rlo N S k n else Co.rhi N S k n)) ∧ Below w.heap.size w wx)
              case first =>
                have v1 := ((bcell hB).1 _ _ hbl).trans V0.out
                obtain ⟨g0, g1, g2, g3⟩ := G.open2
                go_region_with (first | (go_at_call 32; refine (fall_c _ _ _ _ _ _ _ (Rd.keep T (by first | exact hB | exact bdr hB)) (by omega) (by omega) hm63 O.s0 O.s1).mono ?_; rintro e wn ⟨rfl, hbn⟩; have G2 := Blk.keep (by first | exact G | exact G.drew) hbn; have own2 := Own.keep (by first | exact own | exact own.drew) hbn; have hB2 := bt (by first | exact hB | exact bdr hB) hbn; have v2 := ((bcell hB2).1 _ _ hbl).trans V0.out; obtain ⟨z0, z1, z2, z3⟩ := G2.open2))
                all_goals
                  go_wp2_with fail
                  go_meet
                  exact ⟨by first | (simpa using G2.set_ 0 (.int .i64 (Co.rlo N S i (k + 1)))) | (simpa using (G2.set_ 0 (.int .i64 (Co.rlo N S i (k + 1)))).drew), by first | exact own2.far hAg _ | exact (own2.far hAg _).drew, by first | exact bst hB2 hg _ | exact bdr (bst hB2 hg _)⟩
              case rest =>
                clear G own hB
                obtain ⟨G, own, hB⟩ := hcut
                go_wp2
                go_roundw
                case rel => exact ⟨k + 1, by omega, by go_num, G, own, hB⟩
                case measure => simp [intOf]; omega
          · by_cases hik : i < k
            · skip
              have hkm : i ≤ m := by have := HM.out; omega
              have hkm2 : k ≤ m := by have := HM.out; omega
              have d0 := Co.sm_bd O.s0 i (k - i) (by omega)
              have d1 := Co.sm_bd O.s1 i (k - i) (by omega)
              have a0 := O.w0 k hlk
              have a1 := O.w1 k hlk
              have x1 : IntKind.i64.wrap (N k 1 + Co.sm S 1 i (k - i)) = N k 1 + Co.sm S 1 i (k - i) := IntWalk.i64_in _ (by omega)
              have x2 : IntKind.i64.wrap (N k 0 - Co.sm S 0 i (k - i)) = N k 0 - Co.sm S 0 i (k - i) := IntWalk.i64_in _ (by omega)
              have m1 : (if N k 1 + Co.sm S 1 i (k - i) < Co.rhi N S i k then N k 1 + Co.sm S 1 i (k - i) else Co.rhi N S i k) = Co.rhi N S i (k + 1) := by rw [Co.rhi, if_neg hki, if_pos hik]; omega
              have m2 : (if Co.rlo N S i k < N k 0 - Co.sm S 0 i (k - i) then N k 0 - Co.sm S 0 i (k - i) else Co.rlo N S i k) = Co.rlo N S i (k + 1) := by rw [Co.rlo, if_neg hki, if_pos hik]; omega
              go_upto_region 18 with fail
              go_cut [] from 72 to 85 (fun wx => Blk wx g 44 #[.int .i64 (Co.rlo N S i k), .int .i64 (Co.rhi N S i (k + 1))] ∧ Own wx w.heap.size 44 2 A' i c' (iv (fun k f => if f = 0 then Co.rlo N S k n else Co.rhi N S k n)) ∧ Below w.heap.size w wx)
              case first =>
                have v1 := ((bcell hB).1 _ _ hbl).trans V1.out
                obtain ⟨g0, g1, g2, g3⟩ := G.open2
                go_region_with (first | (go_at_call 32; refine (fall_c _ _ _ _ _ _ _ (Rd.keep T (by first | exact hB | exact bdr hB)) (by omega) (by omega) hm63 O.s0 O.s1).mono ?_; rintro e wn ⟨rfl, hbn⟩; have G2 := Blk.keep (by first | exact G | exact G.drew) hbn; have own2 := Own.keep (by first | exact own | exact own.drew) hbn; have hB2 := bt (by first | exact hB | exact bdr hB) hbn; have v2 := ((bcell hB2).1 _ _ hbl).trans V1.out; obtain ⟨z0, z1, z2, z3⟩ := G2.open2))
                all_goals
                  go_wp2_with fail
                  go_meet
                  exact ⟨by first | (simpa using G2.set_ 1 (.int .i64 (Co.rhi N S i (k + 1)))) | (simpa using (G2.set_ 1 (.int .i64 (Co.rhi N S i (k + 1)))).drew), by first | exact own2.far hAg _ | exact (own2.far hAg _).drew, by first | exact bst hB2 hg _ | exact bdr (bst hB2 hg _)⟩
              case rest =>
                clear G own hB
                obtain ⟨G, own, hB⟩ := hcut
                go_upto_region 19 with fail
                have v1 := ((bcell hB).1 _ _ hbl).trans V0.out
                obtain ⟨g0, g1, g2, g3⟩ := G.open2
                go_region_with (first | (go_at_call 31; refine (rise_c _ _ _ _ _ _ _ (Rd.keep T (by first | exact hB | exact bdr hB)) (by omega) (by omega) hm63 O.s0 O.s1).mono ?_; rintro e wn ⟨rfl, hbn⟩; have G2 := Blk.keep (by first | exact G | exact G.drew) hbn; have own2 := Own.keep (by first | exact own | exact own.drew) hbn; have hB2 := bt (by first | exact hB | exact bdr hB) hbn; have v2 := ((bcell hB2).1 _ _ hbl).trans V0.out; obtain ⟨z0, z1, z2, z3⟩ := G2.open2))
                all_goals
                  go_wp2
                  go_roundw
                  case rel => exact ⟨k + 1, by omega, by go_num, by first | (simpa using G2.set_ 0 (.int .i64 (Co.rlo N S i (k + 1)))) | (simpa using (G2.set_ 0 (.int .i64 (Co.rlo N S i (k + 1)))).drew), by first | exact own2.far hAg _ | exact (own2.far hAg _).drew, by first | exact bst hB2 hg _ | exact bdr (bst hB2 hg _)⟩
                  case measure => simp [intOf]; omega
            · obtain rfl : k = i := by omega
              have m1 : Co.rhi N S k (k + 1) = Co.rhi N S k k := by rw [Co.rhi, if_neg (by omega), if_neg (by omega)]
              have m2 : Co.rlo N S k (k + 1) = Co.rlo N S k k := by rw [Co.rlo, if_neg (by omega), if_neg (by omega)]
              have M1 := Lib.hid m1
              have M2 := Lib.hid m2
              clear m1 m2 hki hik
              go_wp2
              go_roundw
              case rel => exact ⟨k + 1, by omega, by go_num, by rw [M1.out, M2.out]; exact G, own, hB⟩
              case measure => simp [intOf]; omega
        · obtain rfl : k = n := by omega
          obtain ⟨g0, g1, g2, g3⟩ := G.open2
          have hz := hB.size
          go_wp2_with (at_builtin; refine wpList_append_Rd _ rfl _ _ 22 rfl w.heap.size 44 i0 _ 2 16 Try.underlying22 HI.out HZ0.out HZ1.out HZ2.out rfl (by decide) rfl (own.alloc _) rfl (rd_pair _ _ _ _) (one_iv _) (by omega) (by omega) (by simp; omega) ?_; intro A2 c3 w3 own' hgr hob)
          have own2 : Own w3 w.heap.size 44 2 A2 (i + 1) c3 (iv (fun a f => if f = 0 then Co.rlo N S a k else Co.rhi N S a k)) := own'.congr fun a f ha hf => by
            unfold app iv Co.c1
            by_cases h : a < i
            · rw [if_pos h]
            · rw [if_neg h]
              obtain rfl : a = i := by omega
              match f, hf with
              | 0, _ => rfl
              | 1, _ => rfl
          have hB3 : Below w.heap.size w w3 := (bal hB _).trans (below_grown hgr (fun g hg => own.base hg) (by simp; omega))
          clear own own' hgr hob hB
          go_wp2
          go_roundw
          case rel => exact ⟨i + 1, A2, c3, by omega, by go_num, rfl, own2, hB3⟩
          case measure => simp [intOf]; omega
    · obtain rfl : i = n := by omega
      go_wp2
      go_returns
      refine ⟨A', c', ?_, ?_, hB⟩
      · rw [E1.out, E2.out]; first | rfl | simp
      · rw [E2.out]; exact own.congr fun a f ha hf => by
          unfold iv Co.tt
          match f, hf with
          | 0, _ => simp only [if_true]; rw [Co.rlo_tlo O.pos ha]
          | 1, _ => simp only [if_neg (show ¬ (1 : Nat) = 0 by omega)]; rw [Co.rhi_thi O.pos ha]
end Go.Proofs.Ytgfmheaijdcgoaa
