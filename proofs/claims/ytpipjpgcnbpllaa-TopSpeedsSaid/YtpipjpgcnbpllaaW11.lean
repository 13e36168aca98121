/-
  Contract: the program's Tighten.
-/
import Derived.Test.YtpipjpgcnbpllaaW10
import Derived.Test.YtpipjpgcnbpllaaPlain5
import Derived.StillTailTactics
namespace Go.Proofs.Ytpipjpgcnbpllaa
set_option linter.unusedVariables false
set_option linter.unusedSimpArgs false
open Go.RowKit

theorem infoW : (Try.prog.info? 30).map (fun i => (i.zero, i.size, i.bytes)) = some (some (.agg #[.int .i64 0, .int .i64 0]), 2, 16) := by kernel_rfl
def TgPost (n : Nat) (N : Nat → Nat → Int) (m : Nat) (S : Nat → Nat → Int) (w : World) (e : Ending) (w' : World) : Prop :=
  ∃ A c, e = .returned (.tuple #[.slice A (Co.tgL n N m S) c, .int .i64 (Co.tgE n N m S)]) ∧ Own w' w.heap.size 30 2 A (Co.tgL n N m S) c (iv (Co.tt n N S)) ∧ Below w.heap.size w w'

set_option maxRecDepth 100000 in
set_option maxHeartbeats 4000000 in
theorem tighten_c (A B : Option Addr) (n c m d : Nat) (N S : Nat → Nat → Int) (w : World) (R : Rd w 2 A n c (iv N)) (T : Rd w 2 B m d (iv S)) :
    Calls Try.prog 18 #[.slice A n c, .slice B m d] w (TgPost n N m S w) := by
  rcases Co.cfl_cases n N m S with ⟨eL, hno⟩ | ⟨a, b, l, eL, h0, h1, h2, h3⟩
  rotate_left
  · have e1 : Co.tgE n N m S = 11 := by unfold Co.tgE; rw [if_neg (by omega), if_pos h1]
    have e2 : Co.tgL n N m S = 0 := by unfold Co.tgL; rw [e1]; rfl
    have E1 := Lib.hid e1
    have E2 := Lib.hid e2
    have EL := Lib.hid eL
    have H0 := Lib.hid h0
    clear e1 e2 eL h0 h1 h2 h3
    go_enter Try.func18, Try.ntmps18
    go_wp2_with fail
    refine (all_c _ _ _ _ _ _ _ _ _ R T).mono ?_
    rintro e w1 ⟨A1, c1, rfl, own, hb⟩
    rw [EL.out, H0.out]
    go_wp2
    go_returns
    refine ⟨none, 0, ?_, ?_, hb⟩
    · rw [E1.out, E2.out]; first | rfl | simp
    · rw [E2.out]; exact Own.nil _ _ _ _ _
  rcases hno with hno | ⟨h0, h1⟩
  · have e1 : Co.tgE n N m S = Co.ck n N m S := by unfold Co.tgE; rw [if_pos hno]
    have e2 : Co.tgL n N m S = 0 := by unfold Co.tgL; rw [e1, if_neg hno]
    have E1 := Lib.hid e1
    have E2 := Lib.hid e2
    have EL := Lib.hid eL
    have h3 : (Co.ck n N m S != 0) = true := by simpa using hno
    clear e1 e2 eL hno
    go_enter Try.func18, Try.ntmps18
    go_wp2_with fail
    refine (all_c _ _ _ _ _ _ _ _ _ R T).mono ?_
    rintro e w1 ⟨A1, c1, rfl, own, hb⟩
    rw [EL.out]
    go_wp2
    go_returns
    refine ⟨none, 0, ?_, ?_, hb⟩
    · rw [E1.out, E2.out]; first | rfl | simp
    · rw [E2.out]; exact Own.nil _ _ _ _ _
  have O := Co.ck_ok.1 h0
  have e1 : Co.tgE n N m S = 0 := by unfold Co.tgE; rw [if_neg (by omega), h1]; rfl
  have e2 : Co.tgL n N m S = n := by unfold Co.tgL; rw [if_pos e1]
  have E1 := Lib.hid e1
  have E2 := Lib.hid e2
  have EL := Lib.hid eL
  have H0 := Lib.hid h0
  have hn := O.hn
  clear e1 e2 eL h0 h1
  obtain ⟨i0, hi, hz0, hz1, hz2⟩ := info_parts infoW
  have HI := Lib.hid hi
  have HZ0 := Lib.hid hz0
  have HZ1 := Lib.hid hz1
  have HZ2 := Lib.hid hz2
  clear hi hz0 hz1 hz2
  have hnil := Own.nil w w.heap.size 30 2 (iv N)
  go_enter Try.func18, Try.ntmps18
  go_wp2_with fail
  refine (all_c _ _ _ _ _ _ _ _ _ R T).mono ?_
  rintro e w1 ⟨A1, c1, rfl, own, hb⟩
  rw [EL.out, H0.out]
  clear own
  go_wp2_with (at_builtin; refine wpList_append_Rd _ rfl _ _ 26 rfl w.heap.size 30 i0 _ 2 16 Try.underlying26 HI.out HZ0.out HZ1.out HZ2.out rfl (by decide) rfl (Own.nil _ _ _ _ (iv N)) rfl (R.keep hb) (one_iv _) (by omega) (by omega) hb.size ?_; intro A' c' w3 own' hgr hob)
  have own1 : Own w3 w.heap.size 30 2 A' n c' (iv (Co.FT N S 1)) := by
    rw [Nat.zero_add] at own'
    exact own'.congr fun i f hi hf => by unfold app iv; rw [if_neg (by omega), Co.FT_start _ _ _ _ hf, Nat.sub_zero]
  have hB3 : Below w.heap.size w w3 := hb.trans (below_grown hgr (fun g hg => by cases hg) hb.size)
  clear own' hgr hob hb
  go_wp2
  go_loopw [9] (fun q wr => ∃ k : Nat, 1 ≤ k ∧ k ≤ max n 1 ∧ q = .int .i64 k ∧ Own wr w.heap.size 30 2 A' n c' (iv (Co.FT N S k)) ∧ Below w.heap.size w wr) (fun q _ => n - (intOf q).toNat)
  case atStart => exact ⟨1, by omega, by omega, rfl, own1, hB3⟩
  case round =>
    clear own1 hB3
    obtain ⟨k, hk1, hk, rfl, own, hB⟩ := hrel
    by_cases hlt : k < n
    · obtain ⟨j, rfl⟩ : ∃ j, k = j + 1 := ⟨k - 1, by omega⟩
      have hjm : j < m := by have := O.hm; omega
      obtain ⟨g, eg, hg1, hg2⟩ := own.pos (by omega)
      subst eg
      obtain ⟨b, off, eB, hbl, s0w, s1w⟩ := T.at2 hjm
      have HB := Lib.hid eB
      rw [HB.out]
      clear eB
      have S0 := Lib.hid s0w
      have S1 := Lib.hid s1w
      clear s0w s1w
      have s0 := ((bcell hB).1 _ _ hbl).trans S0.out
      have y1 := own.cell (i := j + 1) (j := 1) hlt (by omega)
      have y3 := own.cell (i := j) (j := 1) (by omega) (by omega)
      have fz := own.frozen
      simp only [iv, Co.FT, if_neg (show ¬ j + 1 < j + 1 by omega), if_pos (show j < j + 1 by omega), if_true, if_neg (show ¬ (1 : Nat) = 0 by omega), Nat.add_zero] at y1 y3
      obtain ⟨⟨b1, b2⟩, b3, b4⟩ := Co.f_bd O j (by omega)
      have c0 := O.s0 j hjm
      have c1 := O.s1 j hjm
      have q1 : IntKind.i64.wrap (j : Int) = (j : Int) := IntWalk.i64_in _ (by omega)
      have q2 : IntKind.i64.wrap (Co.fhi N S j + S j 0) = Co.fhi N S j + S j 0 := IntWalk.i64_in _ (by omega)
      have q3 : IntKind.i64.wrap (Co.flo N S j - S j 1) = Co.flo N S j - S j 1 := IntWalk.i64_in _ (by omega)
      have m1 : (if Co.fhi N S j + S j 0 < N (j + 1) 1 then Co.fhi N S j + S j 0 else N (j + 1) 1) = Co.fhi N S (j + 1) := by rw [Co.fhi]; omega
      have m2 : (if N (j + 1) 0 < Co.flo N S j - S j 1 then Co.flo N S j - S j 1 else N (j + 1) 0) = Co.flo N S (j + 1) := by rw [Co.flo]; omega
      have i3 : (0 : Int) ≤ (j : Int) := by omega
      have i6 : (0 : Int) ≤ (j : Int) + 1 := by omega
      have i7 : (j : Int) + 1 < (n : Int) := by omega
      have i8 : (j : Int) < (n : Int) := by omega
      have i9 : (j : Int) < (m : Int) := by omega
      have n1 : ((j : Int) + 1).toNat = j + 1 := by omega
      go_wp2
      go_still_tail 23, (by kernel_rfl)
      change wpList _ _ _ _ _ wr.drew
      go_wp2
      have own2 := (own.set (V' := iv (Co.FT1 N S (j + 1))) hlt (show 1 < 2 by omega) (.int .i64 (Co.fhi N S (j + 1))) (by simp [iv, Co.FT1]) (fun i' j' hi' hj' hne => by unfold iv Co.FT1; rw [if_neg (by omega)])).drew
      have hB2 := bdr (bst hB hg1 (p := ⟨g, (j + 1) * 2 + 1, none⟩) (.int .i64 (Co.fhi N S (j + 1))))
      generalize World.drew (World.setCell wr _ _) = W2 at own2 hB2 ⊢
      clear own hB s0 y1 y3 fz
      have s1 := ((bcell hB2).1 _ _ hbl).trans S1.out
      have y0 := own2.cell (i := j + 1) (j := 0) hlt (by omega)
      have y2 := own2.cell (i := j) (j := 0) (by omega) (by omega)
      have fz := own2.frozen
      simp only [iv, Co.FT1, Co.FT, if_neg (show ¬ j + 1 < j + 1 by omega), if_pos (show j < j + 1 by omega), if_true, if_neg (show ¬ (j + 1 = j + 1 ∧ (0 : Nat) = 1) by omega), if_neg (show ¬ (j = j + 1 ∧ (0 : Nat) = 1) by omega), Nat.add_zero] at y0 y2
      go_still_tail 23, (by kernel_rfl)
      change wpList _ _ _ _ _ W2.drew
      go_wp2
      have own3 := (own2.set (V' := iv (Co.FT N S (j + 1 + 1))) hlt (show 0 < 2 by omega) (.int .i64 (Co.flo N S (j + 1))) (by simp [iv, Co.FT]) (fun i' j' hi' hj' hne => by unfold iv; rw [Co.FT_next _ _ _ _ _ hj', if_neg (by omega)])).drew
      go_roundw
      case rel => exact ⟨j + 1 + 1, by omega, by omega, by go_num, own3, bdr (bst hB2 hg1 _)⟩
      case measure => simp [intOf]; omega
    · by_cases h0 : n = 0
      · subst h0
        obtain rfl : k = 1 := by omega
        go_wp2
        go_loopw [10] (fun q wr => q = .int .i64 (-2) ∧ Own wr w.heap.size 30 2 A' 0 c' (iv (Co.FT N S 1)) ∧ Below w.heap.size w wr) (fun q _ => 0)
        case atStart => exact ⟨rfl, own, hB⟩
        case round =>
          clear own hB
          obtain ⟨rfl, own, hB⟩ := hrel
          go_wp2
          go_returns
          refine ⟨A', c', ?_, ?_, hB⟩
          · rw [E1.out, E2.out]; first | rfl | simp
          · rw [E2.out]; exact own.congr fun i f hi _ => absurd hi (by omega)
      · obtain rfl : k = n := by omega
        have own0 : Own wr w.heap.size 30 2 A' k c' (iv (Co.BT k N S 0)) := own.congr fun i f hi _ => by unfold iv; rw [Co.BT_start N S (by omega) hi]
        obtain ⟨g, eg, hg1, hg2⟩ := own.pos (by omega)
        clear own
        go_wp2
        go_loopw [10] (fun q wr => ∃ c2 : Nat, c2 ≤ k - 1 ∧ q = .int .i64 ((k : Int) - 2 - c2) ∧ Own wr w.heap.size 30 2 A' k c' (iv (Co.BT k N S c2)) ∧ Below w.heap.size w wr) (fun q _ => (intOf q + 1).toNat)
        case atStart => exact ⟨0, by omega, by go_num, own0, hB⟩
        case round =>
          clear own0 hB
          obtain ⟨c2, hc2, rfl, own, hB⟩ := hrel
          by_cases hlc : c2 < k - 1
          · obtain ⟨i, ei⟩ : ∃ i, k - 1 - (c2 + 1) = i := ⟨_, rfl⟩
            have hi1 : i + 1 < k := by omega
            have hjm : i < m := by have := O.hm; omega
            have e3 : (k : Int) - 2 - c2 = (i : Int) := by omega
            have ec : k - 1 - c2 = i + 1 := by omega
            have ed : k - 1 - (i + 1) = c2 := by omega
            rw [e3, eg]
            have E3 := Lib.hid e3
            have EI := Lib.hid ei
            obtain ⟨b, off, eB, hbl, s0w, s1w⟩ := T.at2 hjm
            have HB := Lib.hid eB
            rw [HB.out]
            clear eB
            have S0 := Lib.hid s0w
            have S1 := Lib.hid s1w
            clear s0w s1w
            rw [eg] at own
            have s1 := ((bcell hB).1 _ _ hbl).trans S1.out
            have y1 := own.cell (i := i) (j := 1) (by omega) (by omega)
            have y3 := own.cell (i := i + 1) (j := 1) hi1 (by omega)
            have fz := own.frozen
            simp only [iv, Co.BT, ec, ed, if_neg (show ¬ i + 1 ≤ i by omega), if_pos (Nat.le_refl (i + 1)), if_true, if_neg (show ¬ (1 : Nat) = 0 by omega), Nat.add_zero] at y1 y3
            obtain ⟨⟨b1, b2⟩, b3, b4⟩ := Co.b_bd O c2 (by omega)
            have c0 := O.s0 i hjm
            have c1 := O.s1 i hjm
            have q1 : IntKind.i64.wrap ((i : Int) + 1) = (i : Int) + 1 := IntWalk.i64_in _ (by omega)
            have q2 : IntKind.i64.wrap (Co.bhi k N S c2 + S i 1) = Co.bhi k N S c2 + S i 1 := IntWalk.i64_in _ (by omega)
            have q3 : IntKind.i64.wrap (Co.blo k N S c2 - S i 0) = Co.blo k N S c2 - S i 0 := IntWalk.i64_in _ (by omega)
            have m1 : (if Co.bhi k N S c2 + S i 1 < Co.fhi N S i then Co.bhi k N S c2 + S i 1 else Co.fhi N S i) = Co.bhi k N S (c2 + 1) := by rw [Co.bhi, ei]; omega
            have m2 : (if Co.flo N S i < Co.blo k N S c2 - S i 0 then Co.blo k N S c2 - S i 0 else Co.flo N S i) = Co.blo k N S (c2 + 1) := by rw [Co.blo, ei]; omega
            have i3 : (0 : Int) ≤ (i : Int) := by omega
            have i6 : (0 : Int) ≤ (i : Int) + 1 := by omega
            have i7 : (i : Int) + 1 < (k : Int) := by omega
            have i8 : (i : Int) < (k : Int) := by omega
            have i9 : (i : Int) < (m : Int) := by omega
            have n1 : ((i : Int) + 1).toNat = i + 1 := by omega
            have hkc : c2 + 1 < k := by omega
            clear e3 ei
            have EC := Lib.hid ec
            have ED := Lib.hid ed
            clear ec ed
            go_wp2
            go_still_tail 22, (by kernel_rfl)
            change wpList _ _ _ _ _ wr.drew
            go_wp2
            have own2 := (own.set (V' := iv (Co.BT1 k N S c2)) (show i < k by omega) (show 1 < 2 by omega) (.int .i64 (Co.bhi k N S (c2 + 1))) (by simp [iv, Co.BT1, EI.out]) (fun i' j' hi' hj' hne => by unfold iv Co.BT1; rw [EI.out, if_neg (by omega)])).drew
            have hB2 := bdr (bst hB hg1 (p := ⟨g, i * 2 + 1, none⟩) (.int .i64 (Co.bhi k N S (c2 + 1))))
            generalize World.drew (World.setCell wr _ _) = W2 at own2 hB2 ⊢
            clear own hB s1 y1 y3 fz
            have s0 := ((bcell hB2).1 _ _ hbl).trans S0.out
            have y0 := own2.cell (i := i) (j := 0) (by omega) (by omega)
            have y2 := own2.cell (i := i + 1) (j := 0) hi1 (by omega)
            have fz := own2.frozen
            simp only [iv, Co.BT1, Co.BT, EI.out, EC.out, ED.out, if_neg (show ¬ i + 1 ≤ i by omega), if_pos (Nat.le_refl (i + 1)), if_true, if_neg (show ¬ (i = i ∧ (0 : Nat) = 1) by omega), if_neg (show ¬ (i + 1 = i ∧ (0 : Nat) = 1) by omega), Nat.add_zero] at y0 y2
            go_still_tail 22, (by kernel_rfl)
            change wpList _ _ _ _ _ W2.drew
            go_wp2
            have own3 := (own2.set (V' := iv (Co.BT k N S (c2 + 1))) (show i < k by omega) (show 0 < 2 by omega) (.int .i64 (Co.blo k N S (c2 + 1))) (by unfold iv; rw [Co.BT_next N S hkc (by omega) (by omega), EI.out, if_pos ⟨rfl, rfl⟩]) (fun i' j' hi' hj' hne => by unfold iv; rw [Co.BT_next N S hkc hi' hj', EI.out, if_neg (by omega)])).drew
            go_roundw
            case rel => exact ⟨c2 + 1, by omega, by rw [show (i : Int) - 1 = (k : Int) - 2 - ((c2 + 1 : Nat) : Int) from by have := E3.out; omega], own3, bdr (bst hB2 hg1 _)⟩
            case measure => first | (simp [intOf]; done) | (simp [intOf]; omega)
          · obtain rfl : c2 = k - 1 := by omega
            have e3 : (k : Int) - 2 - ((k - 1 : Nat) : Int) = -1 := by omega
            rw [e3]
            clear e3
            go_wp2
            go_returns
            refine ⟨A', c', ?_, ?_, hB⟩
            · rw [E1.out, E2.out]; first | rfl | simp
            · rw [E2.out]; exact own.congr fun i f hi _ => by unfold iv; rw [Co.BT_end N S hi]
end Go.Proofs.Ytpipjpgcnbpllaa
