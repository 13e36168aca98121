/-
  The walk of ConstraintDecides.
-/
import Derived.Test.YtgfmheaijdcgoaaW15
import Derived.Test.YtgfmheaijdcgoaaRd2
import Derived.Deep.DeepCutAuto
import Derived.Deep.DrawnRows
namespace Go.Proofs.Ytgfmheaijdcgoaa
set_option linter.unusedVariables false
set_option linter.unusedSimpArgs false
open Go.RowKit

theorem infoI : (Try.prog.info? 2).map (fun i => (i.zero, i.size, i.bytes)) = some (some (.int .i64 0), 1, 8) := by kernel_rfl
theorem mk_ints (n : Nat) (hn : n ≤ 64) : ∀ W : World, (Instr.makeSlice 24 (.int .i64 (n : Int)) (.int .i64 (n : Int))).run Try.prog W = .ok (.slice (some ⟨W.heap.size, 0, none⟩) n n) (W.alloc (.cells (madeCells #[.int .i64 0] n) 2)) := by
  obtain ⟨i0, hi, hz0, hz1, hz2⟩ := info_parts infoI
  intro W
  have h := run_make_n (P := Try.prog) Try.underlying24 hi hz0 hz1 hz2 n (by omega) (by omega) W
  rw [Nat.mul_one] at h
  exact h
theorem own_ints (w : World) (base n : Nat) (hn : n ≤ 64) (hb : base ≤ w.heap.size) : Own (w.alloc (.cells (madeCells #[.int .i64 0] n) 2)) base 2 1 (some ⟨w.heap.size, 0, none⟩) n n (nv fun _ => 0) := by
  have h := Own.made (z := #[.int .i64 0]) (q := 1) (V := nv fun _ => 0) w 2 n rfl (by omega) (by omega) hb fun i j hi hj => by
    obtain rfl : j = 0 := by omega
    rfl
  rw [Nat.mul_one] at h
  exact h
theorem two_ints (w : World) (n : Nat) (hn : n ≤ 64) :
    Own ((w.alloc (.cells (madeCells #[.int .i64 0] n) 2)).alloc (.cells (madeCells #[.int .i64 0] n) 2)) w.heap.size 2 1 (some ⟨w.heap.size, 0, none⟩) n n (nv fun _ => 0) ∧
    Own ((w.alloc (.cells (madeCells #[.int .i64 0] n) 2)).alloc (.cells (madeCells #[.int .i64 0] n) 2)) w.heap.size 2 1 (some ⟨w.heap.size + 1, 0, none⟩) n n (nv fun _ => 0) := by
  refine ⟨(own_ints w w.heap.size n hn (Nat.le_refl _)).alloc _, ?_⟩
  have h := own_ints (w.alloc (.cells (madeCells #[.int .i64 0] n) 2)) w.heap.size n hn (by simp)
  have e : (w.alloc (.cells (madeCells #[.int .i64 0] n) 2)).heap.size = w.heap.size + 1 := by simp
  rw [e] at h
  exact h

set_option maxRecDepth 100000 in
set_option maxHeartbeats 4000000 in
theorem law_decides (A B E : Option Addr) (n c m d l f : Nat) (N S : Nat → Nat → Int) (v : Nat → Int) (w : World) (R : Rd w 2 A n c (iv N)) (T : Rd w 2 B m d (iv S)) (L : Rd w 1 E l f (nv v)) :
    Calls Try.prog 6 #[.slice A n c, .slice B m d, .slice E l f] w fun e w' => e = .returned (.bool true) ∧ Below w.heap.size w w' := by
  by_cases hck : Co.ck n N m S = 0
  rotate_left
  · have e1 : Co.tgE n N m S = Co.ck n N m S := by unfold Co.tgE; rw [if_pos hck]
    have e2 : Co.tgL n N m S = 0 := by unfold Co.tgL; rw [e1, if_neg hck]
    obtain ⟨f1, f2, f3⟩ := Co.f_no (N := N) (S := S) (.inl hck)
    have e3 := Co.mt_bad (v := v) (l := l) (N := N) (S := S) (.inl hck)
    have E1 := Lib.hid e1
    have E2 := Lib.hid e2
    have E3 := Lib.hid e3
    have h3 : (Co.ck n N m S != 0) = true := by simpa using hck
    clear e1 e2 e3 hck
    go_enter Try.func6, Try.ntmps6
    go_wp2_with fail
    refine (awake_c _).mono ?_
    rintro e w1 ⟨rfl, h1⟩
    go_wp2_with fail
    refine (conflicts_c _ _ _ _ _ _ _ _ _ (R.keep h1) (T.keep h1)).mono ?_
    rw [f1, f2, f3]
    rintro e w2 ⟨rfl, h2⟩
    replace h2 := bal (bt h1 h2) (.cells #[.int .i64 0, .int .i64 0] 30)
    go_wp2_with fail
    refine (tighten_c _ _ _ _ _ _ _ _ _ (R.keep h2) (T.keep h2)).mono ?_
    rintro e w3 ⟨A1, c1, rfl, o1, h3⟩
    rw [E1.out, E2.out]
    replace h3 := bt h2 h3
    go_wp2_with fail
    refine (meets_c _ _ _ _ _ _ _ _ _ _ _ _ _ (R.keep h3) (T.keep h3) (L.keep h3)).mono ?_
    rw [E3.out]
    rintro e w4 ⟨rfl, h4⟩
    replace h4 := bt h3 h4
    go_wp2_with fail
    go_returns
    exact ⟨rfl, h4⟩
  have O := Co.ck_ok.1 hck
  cases hcb : Co.cB n N S
  rotate_left
  · have e1 : Co.tgE n N m S = 11 := by unfold Co.tgE; rw [if_neg (by omega), if_pos hcb]
    have e2 : Co.tgL n N m S = 0 := by unfold Co.tgL; rw [e1]; rfl
    obtain ⟨f1, f2, f3⟩ := Co.f_yes hck hcb
    have e3 := Co.mt_bad (v := v) (l := l) (m := m) (.inr hcb)
    have E1 := Lib.hid e1
    have E2 := Lib.hid e2
    have E3 := Lib.hid e3
    have H0 := Lib.hid hck
    have F1 := Lib.hid f1
    clear e1 e2 e3 hck hcb f1 f2 f3
    go_enter Try.func6, Try.ntmps6
    go_wp2_with fail
    refine (awake_c _).mono ?_
    rintro e w1 ⟨rfl, h1⟩
    go_wp2_with fail
    refine (conflicts_c _ _ _ _ _ _ _ _ _ (R.keep h1) (T.keep h1)).mono ?_
    rw [F1.out, H0.out]
    rintro e w2 ⟨rfl, h2⟩
    replace h2 := bal (bt h1 h2) (.cells #[.int .i64 (Co.fI n N m S), .int .i64 (Co.fJ n N m S)] 30)
    go_wp2_with fail
    refine (tighten_c _ _ _ _ _ _ _ _ _ (R.keep h2) (T.keep h2)).mono ?_
    rintro e w3 ⟨A1, c1, rfl, o1, h3⟩
    rw [E1.out, E2.out]
    replace h3 := bt h2 h3
    go_wp2_with fail
    refine (meets_c _ _ _ _ _ _ _ _ _ _ _ _ _ (R.keep h3) (T.keep h3) (L.keep h3)).mono ?_
    rw [E3.out]
    rintro e w4 ⟨rfl, h4⟩
    replace h4 := bt h3 h4
    go_wp2_with fail
    go_returns
    exact ⟨rfl, h4⟩
  have e1 : Co.tgE n N m S = 0 := by unfold Co.tgE; rw [if_neg (by omega), hcb]; rfl
  have e2 : Co.tgL n N m S = n := by unfold Co.tgL; rw [if_pos e1]
  obtain ⟨f1, f2, f3⟩ := Co.f_no (N := N) (S := S) (.inr ⟨hck, hcb⟩)
  have M1 := Lib.hid (Co.mt_lo O hcb)
  have M2 := Lib.hid (Co.mt_hi O hcb)
  have E1 := Lib.hid e1
  have E2 := Lib.hid e2
  have H0 := Lib.hid hck
  have hn := O.hn
  have hmk := mk_ints n hn
  clear e1 e2 hck hcb
  go_enter Try.func6, Try.ntmps6
  go_wp2_with fail
  refine (awake_c _).mono ?_
  rintro e w1 ⟨rfl, h1⟩
  go_wp2_with fail
  refine (conflicts_c _ _ _ _ _ _ _ _ _ (R.keep h1) (T.keep h1)).mono ?_
  rw [f1, f2, f3, H0.out]
  rintro e w2 ⟨rfl, h2⟩
  replace h2 := bal (bt h1 h2) (.cells #[.int .i64 0, .int .i64 0] 30)
  go_wp2_with fail
  refine (tighten_c _ _ _ _ _ _ _ _ _ (R.keep h2) (T.keep h2)).mono ?_
  rintro e w3 ⟨A1, c1, rfl, o1, h3⟩
  rw [E1.out, E2.out]
  rw [E2.out] at o1
  replace h3 := bt h2 h3
  have P := o1.rd
  have hw3 := h3.size
  clear o1 h1 h2
  go_upto_region 11 with fail
  go_cut [12, 13] from 73 to 78 (fun s t wx => ∃ g h : Nat, s = .slice (some ⟨g, 0, none⟩) n n ∧ t = .slice (some ⟨h, 0, none⟩) n n ∧ g ≠ h ∧ Own wx w3.heap.size 2 1 (some ⟨g, 0, none⟩) n n (nv fun _ => 0) ∧ Own wx w3.heap.size 2 1 (some ⟨h, 0, none⟩) n n (nv fun _ => 0) ∧ Below w3.heap.size w3 wx)
  case first =>
    go_region
    all_goals
      go_wp2
      go_meet
      obtain ⟨q1, q2⟩ := two_ints w3 n hn
      first
        | exact ⟨_, _, rfl, rfl, by omega, q1.drew, q2.drew, by repeat (first | exact Below.refl _ _ | (with_reducible assumption) | (with_reducible apply bal) | (with_reducible apply bdr) | (with_reducible apply bdnl) | (with_reducible refine bst ?_ (by first | (simp; done) | (simp; omega) | omega) _) | (with_reducible refine bt ?_ (by with_reducible assumption)))⟩
        | exact ⟨_, _, rfl, rfl, by omega, q2.drew, q1.drew, by repeat (first | exact Below.refl _ _ | (with_reducible assumption) | (with_reducible apply bal) | (with_reducible apply bdr) | (with_reducible apply bdnl) | (with_reducible refine bst ?_ (by first | (simp; done) | (simp; omega) | omega) _) | (with_reducible refine bt ?_ (by with_reducible assumption)))⟩
  case rest =>
    obtain ⟨g, h, rfl, rfl, hne, q1, q2, hb⟩ := hcut
    have hg0 : 0 < n → w3.heap.size ≤ g := fun hp => by obtain ⟨g', e, hl, _⟩ := q1.pos hp; simp at e; omega
    have hh0 : 0 < n → w3.heap.size ≤ h := fun hp => by obtain ⟨g', e, hl, _⟩ := q2.pos hp; simp at e; omega
    clear hmk
    go_wp2
    go_loopw [81] (fun i wr => ∃ k : Nat, k ≤ n ∧ i = .int .i64 k ∧ Own wr w3.heap.size 2 1 (some ⟨g, 0, none⟩) n n (nv fun a => if a < k then Co.tlo n N S a else 0) ∧ Own wr w3.heap.size 2 1 (some ⟨h, 0, none⟩) n n (nv fun a => if a < k then Co.thi n N S a else 0) ∧ Below w3.heap.size w3 wr) (fun i _ => n - (intOf i).toNat)
    case atStart => exact ⟨0, Nat.zero_le _, rfl, q1.congr (fun a j ha hj => by simp [nv]), q2.congr (fun a j ha hj => by simp [nv]), hb⟩
    case round =>
      clear q1 q2 hb
      obtain ⟨k, hk, rfl, q1, q2, hb⟩ := hrel
      by_cases hlt : k < n
      · obtain ⟨b, off, eP, hbl, u0, u1⟩ := (P.keep hb).at2 hlt
        have HP := Lib.hid eP
        rw [HP.out]
        clear eP
        have i1 : (0 : Int) ≤ (k : Int) := by omega
        have i2 : (k : Int) < (n : Int) := by omega
        have y1 := q1.cell1 hlt
        have y2 := q2.cell1 hlt
        have gl : g < wr.heap.size := by obtain ⟨g', e, _, hl⟩ := q1.pos (by omega); simp at e; omega
        have hl : h < wr.heap.size := by obtain ⟨g', e, _, hl⟩ := q2.pos (by omega); simp at e; omega
        have z1 := q1.frozen
        have z2 := q2.frozen
        simp only [Co.tt, if_true, if_neg (show ¬ (1 : Nat) = 0 by omega)] at u0 u1
        go_wp2
        go_region
        go_wp2
        go_roundw
        case rel => exact ⟨k + 1, by omega, by go_num,
          ((((q1.set1 (N' := fun a => if a < k + 1 then Co.tlo n N S a else 0) hlt (Co.tlo n N S k) (by simp) (fun a _ ha => by simp only [show (a < k + 1) = (a < k) from propext (by omega)])).far (p := ⟨h, k, none⟩) (.inr (by simp [ob]; omega)) _).alloc _).drew),
          ((((q2.far (p := ⟨g, k, none⟩) (.inr (by simp [ob]; omega)) _).set1 (N' := fun a => if a < k + 1 then Co.thi n N S a else 0) hlt (Co.thi n N S k) (by simp) (fun a _ ha => by simp only [show (a < k + 1) = (a < k) from propext (by omega)])).alloc _).drew),
          bdr (bal (bst (bst hb (hg0 (by omega)) _) (hh0 (by omega)) _) _)⟩
        case measure => simp [intOf]; omega
      · obtain rfl : k = n := by omega
        have P1 := q1.rd.congr (V' := nv (Co.tlo k N S)) (fun a j ha _ => by simp [nv, ha])
        have P2 := q2.rd.congr (V' := nv (Co.thi k N S)) (fun a j ha _ => by simp [nv, ha])
        clear q1 q2
        replace h3 := bt h3 hb
        go_wp2_with fail
        refine (meets_c _ _ _ _ _ _ _ _ _ _ _ _ _ (R.keep h3) (T.keep h3) P1).mono ?_
        rw [M1.out]
        rintro e w4 ⟨rfl, h4⟩
        replace P1 := P1.keep h4
        replace P2 := P2.keep h4
        replace h4 := bt h3 h4
        go_wp2_with fail
        refine (meets_c _ _ _ _ _ _ _ _ _ _ _ _ _ (R.keep h4) (T.keep h4) P2).mono ?_
        rw [M2.out]
        rintro e w5 ⟨rfl, h5⟩
        replace P1 := P1.keep h5
        replace P2 := P2.keep h5
        replace h5 := bt h4 h5
        clear h4 h3 hb
        cases hm : Co.mt k N m S l v
        · have HM := Lib.hid hm
          clear hm
          go_wp2_with fail
          refine (meets_c _ _ _ _ _ _ _ _ _ _ _ _ _ (R.keep h5) (T.keep h5) (L.keep h5)).mono ?_
          rw [HM.out]
          rintro e w6 ⟨rfl, h6⟩
          go_wp2_with fail
          go_returns
          exact ⟨rfl, bt h5 h6⟩
        · have HM := Lib.hid hm
          obtain rfl : l = k := (Co.mt_iff.1 hm).2.1
          clear hm
          go_wp2_with fail
          refine (meets_c _ _ _ _ _ _ _ _ _ _ _ _ _ (R.keep h5) (T.keep h5) (L.keep h5)).mono ?_
          rw [HM.out]
          rintro e w6 ⟨rfl, h6⟩
          replace P1 := P1.keep h6
          replace P2 := P2.keep h6
          replace h6 := bt h5 h6
          go_wp2
          go_loopw [115] (fun i wr => ∃ j : Nat, j ≤ l ∧ i = .int .i64 j ∧ Below w6.heap.size w6 wr) (fun i _ => l - (intOf i).toNat)
          case atStart => exact ⟨0, Nat.zero_le _, rfl, Below.refl _ _⟩
          case round =>
            obtain ⟨j, hj, rfl, hb⟩ := hrel
            by_cases hlj : j < l
            · obtain ⟨b, off, eA, hbl, u0⟩ := (L.keep (bt h6 hb)).at1 hlj
              obtain ⟨b2, off2, eB, hbl2, u1⟩ := (P1.keep hb).at1 hlj
              obtain ⟨b3, off3, eC, hbl3, u2⟩ := (P2.keep hb).at1 hlj
              injection eB with eB
              injection eB with eb eo
              injection eC with eC
              injection eC with ec ed
              subst eb eo ec ed
              have HA := Lib.hid eA
              rw [HA.out]
              clear eA
              obtain ⟨t1, t2⟩ := Co.mt_tight HM.out hlj
              have g1 : decide (v j < Co.tlo l N S j) = false := decide_eq_false (by omega)
              have g2 : decide (Co.thi l N S j < v j) = false := decide_eq_false (by omega)
              have i1 : (0 : Int) ≤ (j : Int) := by omega
              have i2 : (j : Int) < (l : Int) := by omega
              rw [Nat.zero_add] at u1 u2
              clear t1 t2
              go_wp2
              go_quiet (fail)
              go_wp2
              go_roundw
              case rel => exact ⟨j + 1, by omega, by go_num, bdnl hb _⟩
              case measure => simp [intOf]; omega
            · obtain rfl : j = l := by omega
              go_wp2
              go_returns
              exact ⟨rfl, bt h6 hb⟩
end Go.Proofs.Ytgfmheaijdcgoaa
