/-
  The walk of TopProfile.
-/
import Derived.Test.YtgfmheaijdcgoaaW21
import Derived.StillTailTactics
namespace Go.Proofs.Ytgfmheaijdcgoaa
set_option linter.unusedVariables false
set_option linter.unusedSimpArgs false
open Go.RowKit

theorem Rd.s1 {w : World} {b off n c : Nat} {N : Nat → Int} (h : Rd w 1 (some ⟨b, off, none⟩) n c (nv N)) {k : Nat} (hk : k < n) : b < w.heap.size ∧ w.cell? ⟨b, off + k, none⟩ = some (.int .i64 (N k)) := by
  obtain ⟨b', off', e, hl, hc⟩ := h.at1 hk
  injection e with e
  injection e with e1 e2
  subst e1 e2
  exact ⟨hl, hc⟩
def exC : List (Int × Int) := [(0, 10), (50, 60)]
def exD : List (Int × Int) := [(30, 5)]
def exE : List (Int × Int) := [(45, 5)]
theorem bc1 : Co.fI 2 (tb exC) 1 (tb exD) = 0 ∧ Co.fJ 2 (tb exC) 1 (tb exD) = 1 ∧ Co.fB 2 (tb exC) 1 (tb exD) = true ∧ Co.ck 2 (tb exC) 1 (tb exD) = 0 := by decide +kernel
theorem bc2 : Co.tgE 2 (tb exC) 1 (tb exE) = 0 ∧ Co.tgL 2 (tb exC) 1 (tb exE) = 2 ∧ Co.thi 2 (tb exC) (tb exE) 0 = 10 ∧ Co.thi 2 (tb exC) (tb exE) 1 = 55 := by decide +kernel

set_option maxRecDepth 100000 in
set_option maxHeartbeats 2000000 in
theorem bChain_c (w : World) : Calls Try.prog 26 #[] w fun e w' => e = .returned (.bool true) ∧ Below w.heap.size w w' := by
  go_enter Try.func26, Try.ntmps26
  go_wp2_with fail
  have WS := (Blk.new w 44 #[.int .i64 0, .int .i64 10, .int .i64 50, .int .i64 60])
  have hB := ba w (.cells #[.int .i64 0, .int .i64 10, .int .i64 50, .int .i64 60] 44)
  refine (conflicts_c _ _ 2 _ 1 _ (tb exC) (tb exD) _ (Rd.lit exC (WS.alloc _) rfl rfl (by decide)) (Rd.lit exD (Blk.new1 w _ 50 _) rfl rfl (by decide))).mono ?_
  rw [bc1.1, bc1.2.1, bc1.2.2.1, bc1.2.2.2]
  rintro e w1 ⟨rfl, hb⟩
  replace WS := (WS.alloc _).keep hb
  replace hB := bt (bal hB _) hb
  clear hb
  have C := Blk.new w1 30 #[.int .i64 0, .int .i64 1]
  replace hB := bal hB (.cells #[.int .i64 0, .int .i64 1] 30)
  replace WS := WS.alloc (.cells #[.int .i64 0, .int .i64 1] 30)
  go_wp2_with fail
  refine (greatest_c _ _ 2 _ 1 _ (tb exC) (tb exE) _ (Rd.lit exC (WS.alloc _) rfl rfl (by decide)) (Rd.lit exE (Blk.new1 w1 _ 50 _) rfl rfl (by decide))).mono ?_
  rintro e w2 ⟨A2, d2, rfl, own, hb⟩
  rw [bc2.1, bc2.2.1]
  rw [bc2.2.1] at own
  replace C := (C.alloc _).keep hb
  replace hB := bt (bal hB _) hb
  clear hb WS
  obtain ⟨g, rfl, hg1, hg2⟩ := own.pos (by omega)
  have o0 : w2.cell? ⟨g, 0, none⟩ = some (.int .i64 10) := (own.cell1 (i := 0) (by omega)).trans (by rw [bc2.2.2.1])
  have o1 : w2.cell? ⟨g, 1, none⟩ = some (.int .i64 55) := (own.cell1 (i := 1) (by omega)).trans (by rw [bc2.2.2.2])
  obtain ⟨c0, c1, c2, c3⟩ := C.open2
  go_wp2_with fail
  go_returns
  exact ⟨rfl, hB⟩

set_option maxRecDepth 100000 in
set_option maxHeartbeats 8000000 in
theorem law_profile (A B E : Option Addr) (n c m d l f : Nat) (N S : Nat → Nat → Int) (v : Nat → Int) (w : World) (R : Rd w 2 A n c (iv N)) (T : Rd w 2 B m d (iv S)) (L : Rd w 1 E l f (nv v)) :
    Calls Try.prog 11 #[.slice A n c, .slice B m d, .slice E l f] w fun e w' => e = .returned (.bool true) ∧ Below w.heap.size w w' := by
  by_cases hE : Co.blE n N m S l v = 0
  rotate_left
  · have e2 : Co.blL n N m S l v = 0 := if_neg hE
    have h3 : (Co.blE n N m S l v != 0) = true := by simpa using hE
    have E2 := Lib.hid e2
    clear hE e2
    go_enter Try.func11, Try.ntmps11
    go_wp2_with fail
    refine (bChain_c _).mono ?_
    rintro e w1 ⟨rfl, h1⟩
    go_wp2_with fail
    refine (below_c _ _ _ _ _ _ _ _ _ _ _ _ _ (R.keep h1) (T.keep h1) (L.keep h1)).mono ?_
    rintro e w2 ⟨A1, c1, rfl, o1, h2⟩
    rw [E2.out]
    go_wp2_with fail
    go_returns
    exact ⟨rfl, bt h1 h2⟩
  obtain ⟨hl, O, O2, hcb, hmt, hle, hvb, hxb⟩ := Co.profile hE
  subst hl
  have e2 : Co.blL l N m S l v = l := if_pos hE
  have hn := O.hn
  have hr1 := R.le
  have E1 := Lib.hid hE
  have E2 := Lib.hid e2
  have M1 := Lib.hid hmt
  have HL := Lib.hid hle
  have HV := Lib.hid hvb
  have HX := Lib.hid hxb
  have TM := Lib.hid (fun i (hi : i < l) h => Co.top_more O2 hcb hi h)
  obtain ⟨i0, hi, hz0, hz1, hz2⟩ := info_parts infoW
  have HI := Lib.hid hi
  have HZ0 := Lib.hid hz0
  have HZ1 := Lib.hid hz1
  have HZ2 := Lib.hid hz2
  clear hi hz0 hz1 hz2 hE e2 hmt hle hvb hxb hcb
  generalize hxx : Co.thi l (Co.lwN N v) S = x at M1 HL HX TM
  have XX := Lib.hid hxx
  clear hxx
  go_enter Try.func11, Try.ntmps11
  go_wp2_with fail
  refine (bChain_c _).mono ?_
  rintro e w1 ⟨rfl, h1⟩
  go_wp2_with fail
  refine (below_c _ _ _ _ _ _ _ _ _ _ _ _ _ (R.keep h1) (T.keep h1) (L.keep h1)).mono ?_
  rw [E1.out, E2.out, XX.out]
  rintro e w2 ⟨A1, c1, rfl, o1, h2⟩
  replace h2 := bt h1 h2
  go_wp2_with fail
  refine (meets_c _ _ _ _ _ _ _ _ _ _ _ _ _ (R.keep h2) (T.keep h2) o1.rd).mono ?_
  rw [M1.out]
  rintro e w3 ⟨rfl, h3⟩
  have P := o1.rd.keep h3
  replace h3 := bt h2 h3
  clear h1 h2 o1
  go_wp2
  go_loopw [44] (fun q wr => ∃ k : Nat, k ≤ l ∧ q = .int .i64 k ∧ Below w3.heap.size w3 wr) (fun q _ => l - (intOf q).toNat)
  case atStart => exact ⟨0, Nat.zero_le _, rfl, Below.refl _ _⟩
  case round =>
    obtain ⟨k, hk, rfl, hb⟩ := hrel
    by_cases hlt : k < l
    rotate_left
    · obtain rfl : k = l := by omega
      go_wp2
      go_returns
      exact ⟨rfl, bt h3 hb⟩
    obtain ⟨ba_, oa, eA, hba, u0w⟩ := P.at1 hlt
    obtain ⟨be, oe, eE, hbe, v0w⟩ := L.at1 hlt
    obtain ⟨br, or_, eR, hbr, n0w, n1w⟩ := R.at2 hlt
    have HA := Lib.hid eA
    have HE := Lib.hid eE
    have HR := Lib.hid eR
    have L2 := L
    have R2 := R
    rw [HE.out] at L2
    rw [HR.out] at R2
    rw [HA.out, HE.out, HR.out]
    clear eA eE eR
    have hB := bt h3 hb
    have u0 := ((bcell hb).1 _ _ hba).trans u0w
    have v0 := ((bcell hB).1 _ _ hbe).trans v0w
    have n1 := ((bcell hB).1 _ _ hbr).trans n1w
    have hwz := hB.size
    have hbr2 : br < wr.heap.size := by omega
    have hbe2 : be < wr.heap.size := by omega
    clear u0w v0w n0w n1w
    have g1 : decide (v k < x k) = false := decide_eq_false (by have := HL.out k hlt; omega)
    have i1 : (0 : Int) ≤ (k : Int) := by omega
    have i2 : (k : Int) < (l : Int) := by omega
    by_cases h10 : 10 ≤ k
    · have g2 : decide ((10 : Int) ≤ (k : Int)) = true := decide_eq_true (by omega)
      clear h10
      go_wp2
      go_quiet (fail)
      go_wp2
      go_roundw
      case rel => exact ⟨k + 1, by omega, by go_num, bdnl hb _⟩
      case measure => simp [intOf]; omega
    · have g2 : decide ((10 : Int) ≤ (k : Int)) = false := decide_eq_false (by omega)
      have m1 : (if v k < N k 1 then v k else N k 1) = min (N k 1) (v k) := by omega
      by_cases hx : min (N k 1) (v k) ≤ x k
      · generalize hmin : min (N k 1) (v k) = mn at m1 hx
        have g3 : decide (mn ≤ x k) = true := decide_eq_true hx
        replace hmin := Lib.hid hmin
        clear hx h10
        go_wp2
        go_quiet (fail)
        go_wp2
        go_roundw
        case rel => exact ⟨k + 1, by omega, by go_num, bdnl hb _⟩
        case measure => simp [intOf]; omega
      · obtain ⟨t1, t2⟩ := TM.out k hlt (by simp only [Co.lwN, if_true]; omega)
        have TA := Lib.hid t1
        have TB := Lib.hid (Co.f_yes t1 t2).1
        clear t1 t2
        have xb := HX.out k hlt
        generalize hmin : min (N k 1) (v k) = mn at m1 hx
        have g3 : decide (mn ≤ x k) = false := decide_eq_false hx
        replace hmin := Lib.hid hmin
        clear hx h10
        go_wp2
        go_quiet (fail)
        have hbd := bdnl hb ‹Nat›
        go_wp2_with (at_builtin; refine wpList_append_Rd _ rfl _ _ 22 rfl w3.heap.size 44 i0 _ 2 16 Try.underlying22 HI.out HZ0.out HZ1.out HZ2.out rfl (by decide) rfl (own_empty _ _ _ _ (iv N) (by simp) (by simpa using hb.size)) rfl (Rd.alloc ((R2.keep hB).drewN _) _) (one_iv _) (by omega) (by omega) (by have := hb.size; simp; omega) ?_; intro A' c' w4 own' hgr hob)
        have own1 := (app0 own').congr (V' := iv (Co.lwK N v 0)) (fun a f _ _ => by unfold iv Co.lwK; rw [if_neg (by omega)])
        have hb4 : Below w3.heap.size w3 w4 := (bal (bdnl hb _) (.cells #[] 44)).trans (below_grown hgr (fun g hg => by have := hb.size; simp [ob] at hg; omega) (by have := hb.size; simp; omega))
        obtain ⟨g, eg, hg1, hg2⟩ := own1.pos (by omega)
        subst eg
        clear own' hgr hob hbd u0 v0 n1 hb hB hbr2 hbe2 hwz
        go_loopw [76] (fun q wq => ∃ j : Nat, j ≤ l ∧ q = .int .i64 j ∧ Own wq w3.heap.size 44 2 (some ⟨g, 0, none⟩) l c' (iv (Co.lwK N v j)) ∧ Below w3.heap.size w3 wq) (fun q _ => l - (intOf q).toNat)
        case atStart => exact ⟨0, Nat.zero_le _, rfl, own1, hb4⟩
        case round =>
          clear own1 hb4
          obtain ⟨j, hj, rfl, own, hb⟩ := hrel
          by_cases hlj : j < l
          · obtain ⟨y0, y1, y2⟩ := own.two hlj
            simp only [Co.lwK, if_neg (show ¬ j < j by omega)] at y0 y1
            obtain ⟨hbe3, vj⟩ := (L2.keep (bt h3 hb)).s1 hlj
            have j1 : (0 : Int) ≤ (j : Int) := by omega
            have j2 : (j : Int) < (l : Int) := by omega
            have m2 : (if v j < N j 1 then v j else N j 1) = min (N j 1) (v j) := by omega
            have OW := Lib.hid ((own.set (V' := iv (Co.lwK N v (j + 1))) hlj (show 1 < 2 by omega) (.int .i64 (min (N j 1) (v j))) (by unfold iv; rw [Co.lwK_at]) (fun a f _ _ hne => by unfold iv; rw [Co.lwK_step N v j hne])).drew)
            clear own
            generalize hmin2 : min (N j 1) (v j) = mj at m2 OW
            replace hmin2 := Lib.hid hmin2
            go_wp2
            go_still_tail 14, (by kernel_rfl)
            obtain ⟨wq, rfl⟩ : ∃ wq : World, wq = wr := ⟨_, rfl⟩
            go_wp2
            go_roundw
            case rel => exact ⟨j + 1, by omega, by go_num, OW.out, bdr (bst hb hg1 _)⟩
            case measure => simp [intOf]; omega
          · obtain rfl : j = l := by omega
            have own1 := own.congr (V' := iv (Co.lwN N v)) (fun a f ha _ => by unfold iv Co.lwK; rw [if_pos ha])
            clear own
            obtain ⟨y0, y1, y2⟩ := own1.two hlt
            have q1 : IntKind.i64.wrap (x k + 1) = x k + 1 := IntWalk.i64_in _ (by omega)
            have own2 := own1.set (V' := iv (Co.setW (Co.lwN N v) k (x k + 1) (Co.lwN N v k 1))) hlt (show 0 < 2 by omega) (.int .i64 (x k + 1)) (by simp [iv, Co.setW]) (fun a f _ hf hne => by
              unfold iv Co.setW
              by_cases e : a = k
              · obtain rfl : f = 1 := by omega
                subst e
                simp
              · simp [e])
            rw [Nat.add_zero] at own2
            have OW := Lib.hid own2
            have hb2 := Lib.hid (bst hb (p := ⟨g, k * 2, none⟩) hg1 (.int .i64 (x k + 1)))
            clear own1 own2
            go_wp2_with fail
            refine (conflicts_c _ _ _ _ _ _ _ _ _ OW.out.rd (T.keep (bt h3 hb2.out))).mono ?_
            rw [TA.out, TB.out]
            rintro er w5 ⟨rfl, h5⟩
            go_wp2
            go_roundw
            case rel => exact ⟨k + 1, by omega, by go_num, bal (bt hb2.out h5) _⟩
            case measure => simp [intOf]; omega
end Go.Proofs.Ytgfmheaijdcgoaa
