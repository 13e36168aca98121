/-
  Contracts: Limit, check, Plan.
-/
import Derived.Test.YtpipjpgcnbpllaaTW1
namespace Go.Proofs.Ytpipjpgcnbpllaa
set_option linter.unusedVariables false
set_option linter.unusedSimpArgs false
open Go.RowKit
attribute [local irreducible] World.setCell World.cell?

theorem mk_wins (n : Nat) (hn : n ≤ 8796093022207) : ∀ W : World, (Instr.makeSlice 26 (.int .i64 (n : Int)) (.int .i64 (n : Int))).run Try.prog W = .ok (.slice (some ⟨W.heap.size, 0, none⟩) n n) (W.alloc (.cells (madeCells #[.int .i64 0, .int .i64 0] (n * 2)) 30)) := by
  obtain ⟨i0, hi, hz0, hz1, hz2⟩ := info_parts infoWi
  exact fun W => run_make_n (P := Try.prog) Try.underlying26 hi hz0 hz1 hz2 n (by omega) (by omega) W
theorem own_wins (w : World) (base n : Nat) (hn : n ≤ 8796093022207) (hb : base ≤ w.heap.size) : Own (w.alloc (.cells (madeCells #[.int .i64 0, .int .i64 0] (n * 2)) 30)) base 30 2 (some ⟨w.heap.size, 0, none⟩) n n (iv fun _ _ => 0) :=
  Own.made (z := #[.int .i64 0, .int .i64 0]) (q := 2) (V := iv fun _ _ => 0) w 30 n rfl (by omega) (by omega) hb fun i j hi hj => by
    match j, hj with
    | 0, _ => rfl
    | 1, _ => rfl
set_option maxRecDepth 100000 in
set_option maxHeartbeats 4000000 in
theorem limit_c (A B : Option Addr) (n c l d : Nat) (N : Nat → Nat → Int) (Al : Nat → Int) (alt h : Int) (w : World) (R : Rd w 2 A n c (iv N)) (L : Rd w 1 B l d (nv Al)) : Calls Try.prog 6 #[.slice A n c, .slice B l d, .int .i64 alt, .int .i64 h] w fun e w' => ∃ (A' : Option Addr) (c' : Nat), e = .returned (.tuple #[.slice A' (Sp.lmL n l h) c', .int .i64 (Sp.lmE n l h)]) ∧ Own w' w.heap.size 30 2 A' (Sp.lmL n l h) c' (iv (Sp.lmT N Al alt h n)) ∧ Below w.heap.size w w' := by
  have r1 := R.le
  have r2 := R.mx
  have l1 := L.le
  have l2 := L.mx
  have HB := Below.refl w.heap.size w
  by_cases h64 : 64 < n
  · have HE := Lib.hid (show Sp.lmE n l h = 3 from by unfold Sp.lmE; rw [if_pos h64])
    rw [Sp.lmL_e (by rw [HE.out]; omega), HE.out]
    have h1 : (64 : Int) < (n : Int) := by omega
    go_enter Try.func6, Try.ntmps6
    go_wp2_with fail
    go_returns
    exact ⟨none, 0, rfl, Own.nil _ _ _ _ _, HB⟩
  have h1 : ¬ (64 : Int) < (n : Int) := by omega
  by_cases hl : l = n
  rotate_left
  · have HE := Lib.hid (show Sp.lmE n l h = 1 from by unfold Sp.lmE; rw [if_neg h64, if_pos hl])
    rw [Sp.lmL_e (by rw [HE.out]; omega), HE.out]
    have h3 : ((l : Int) != (n : Int)) = true := by simp; omega
    go_enter Try.func6, Try.ntmps6
    go_wp2_with fail
    go_returns
    exact ⟨none, 0, rfl, Own.nil _ _ _ _ _, HB⟩
  subst hl
  cases qh : Sp.spd h
  · have HE := Lib.hid (show Sp.lmE l l h = 2 from by unfold Sp.lmE; rw [if_neg h64, if_neg (by simp), qh]; rfl)
    rw [Sp.lmL_e (by rw [HE.out]; omega), HE.out]
    go_enter Try.func6, Try.ntmps6
    go_wp2_with fail
    refine (speed_c _ _).mono ?_
    rw [qh]
    rintro e w_ ⟨rfl, rfl⟩
    go_wp2_with fail
    go_returns
    exact ⟨none, 0, rfl, Own.nil _ _ _ _ _, HB⟩
  have HE := Lib.hid (show Sp.lmE l l h = 0 from by unfold Sp.lmE; rw [if_neg h64, if_neg (by simp), qh]; rfl)
  rw [Sp.lmL_0 HE.out, HE.out]
  have QH := Lib.hid qh
  clear qh
  obtain ⟨i0, hi, hz0, hz1, hz2⟩ := info_parts infoWi
  have HI := Lib.hid hi
  have HZ0 := Lib.hid hz0
  have HZ1 := Lib.hid hz1
  have HZ2 := Lib.hid hz2
  have hmk := mk_wins l (by omega)
  clear hi hz0 hz1 hz2
  go_enter Try.func6, Try.ntmps6
  go_wp2_with fail
  refine (speed_c _ _).mono ?_
  rw [QH.out]
  rintro e w_ ⟨rfl, rfl⟩
  go_upto_region 8 with fail
  have own := own_wins w w.heap.size l (by omega) (Nat.le_refl _)
  replace HB := bal HB (.cells (madeCells #[.int .i64 0, .int .i64 0] (l * 2)) 30)
  generalize World.alloc w _ = w3 at own HB ⊢
  have hgw := Nat.le_refl w.heap.size
  clear hmk
  have R3 := R.keep HB
  go_wp2_with (with_reducible show wpList _ _ _ _ _ _; refine wpList_copy_Rd (o := ⟨some 31, _, _, _, _, _⟩) rfl (.tmp 29) (.tmp 30) 26 rfl 30 i0 2 w.heap.size w.heap.size Try.underlying26 HI.out HZ1.out (by decide) rfl own rfl R3 (one_iv _) ?_; intro w4 own4 hb4)
  have own5 := own4.congr (V' := iv (Sp.lmT N Al alt h 0)) (fun a f _ _ => by unfold iv; rw [Sp.lmT_0])
  replace HB := HB.trans hb4
  clear own own4 hb4 R3
  go_wp2
  go_loopw [34] (fun q wr => ∃ k : Nat, k ≤ l ∧ q = .int .i64 k ∧ Own wr w.heap.size 30 2 (some ⟨w.heap.size, 0, none⟩) l l (iv (Sp.lmT N Al alt h k)) ∧ Below w.heap.size w wr) (fun q _ => l - (intOf q).toNat)
  case atStart => exact ⟨0, Nat.zero_le _, rfl, own5, HB⟩
  case round =>
    clear own5 HB
    obtain ⟨k, hk, rfl, own, hB⟩ := hrel
    by_cases hlt : k < l
    · obtain ⟨b, off, eA, hbl, u0⟩ := (L.keep hB).at1 hlt
      have HA := Lib.hid eA
      rw [HA.out]
      clear eA
      by_cases ha : Al k < alt
      · obtain ⟨y0, y1, y2⟩ := own.two hlt
        simp only [Sp.lmT_late] at y0 y1
        have OW := Lib.hid (own.set (V' := iv (Sp.lmT N Al alt h (k + 1))) hlt (show 1 < 2 by omega) (.int .i64 (if h < N k 1 then h else N k 1)) (by unfold iv; rw [Sp.lmT_at ha]) (fun a f _ _ hne => by unfold iv; rw [Sp.lmT_step (by omega)]))
        clear own
        by_cases hmn : h < N k 1
        · rw [if_pos hmn] at OW
          go_wp2_with fail
          go_roundw
          case rel => exact ⟨k + 1, by omega, by go_num, OW.out, bst hB hgw _⟩
          case measure => simp [intOf]; omega
        · rw [if_neg hmn] at OW
          go_wp2_with fail
          go_roundw
          case rel => exact ⟨k + 1, by omega, by go_num, OW.out, bst hB hgw _⟩
          case measure => simp [intOf]; omega
      · have OW := Lib.hid (own.congr (V' := iv (Sp.lmT N Al alt h (k + 1))) (fun a f _ _ => by unfold iv; rw [Sp.lmT_step (by by_cases e : a = k; (subst e; exact .inr (.inr ha)); exact .inl e)]))
        clear own
        go_wp2_with fail
        go_roundw
        case rel => exact ⟨k + 1, by omega, by go_num, OW.out, hB⟩
        case measure => simp [intOf]; omega
    · obtain rfl : k = l := by omega
      clear hlt
      go_wp2_with fail
      go_returns
      exact ⟨_, _, rfl, own, hB⟩

set_option maxRecDepth 100000 in
set_option maxHeartbeats 4000000 in
theorem scheck_c (A B : Option Addr) (n c m d : Nat) (N S : Nat → Nat → Int) (w : World) (R : Rd w 2 A n c (iv N)) (T : Rd w 2 B m d (iv S)) : Calls Try.prog 13 #[.slice A n c, .slice B m d] w fun e w' => e = .returned (.int .i64 (Sp.scE n N m S)) ∧ Below w.heap.size w w' := by
  by_cases hck : Co.ck n N m S = 0
  rotate_left
  · rw [Sp.sc_ck hck]
    have h3 : (Co.ck n N m S != 0) = true := by simpa using hck
    clear hck
    go_enter Try.func13, Try.ntmps13
    go_wp2_with fail
    refine (check_c _ _ _ _ _ _ _ _ _ R T).mono ?_
    rintro e w1 ⟨rfl, hb⟩
    go_wp2
    go_returns
    exact ⟨rfl, hb⟩
  have O := Co.ck_ok.1 hck
  have hn := O.hn
  have r1 := R.le
  have H0 := Lib.hid hck
  clear hck
  go_enter Try.func13, Try.ntmps13
  go_wp2_with fail
  refine (check_c _ _ _ _ _ _ _ _ _ R T).mono ?_
  rw [H0.out]
  rintro e w1 ⟨rfl, hb⟩
  go_wp2_with fail
  go_loopw [16] (fun q wr => ∃ k : Nat, k ≤ n ∧ q = .int .i64 k ∧ Hid (Sp.okP N k = true) ∧ Below w.heap.size w wr) (fun q _ => n - (intOf q).toNat)
  case atStart => exact ⟨0, Nat.zero_le _, rfl, rfl, hb⟩
  case round =>
    clear hb
    obtain ⟨k, hk, rfl, hv, hB⟩ := hrel
    by_cases hlt : k < n
    · obtain ⟨b, off, eA, hbl, u0, u1⟩ := (R.keep hB).at2 hlt
      have HA := Lib.hid eA
      rw [HA.out]
      clear eA
      cases q0 : Sp.spd (N k 0)
      · have HE := Lib.hid (Sp.sc_2 (S := S) H0.out hlt (by rw [q0]; rfl))
        have Q0 := Lib.hid q0
        clear q0
        go_wp2_with fail
        refine (speed_c _ _).mono ?_
        rw [Q0.out]
        rintro e w_ ⟨rfl, rfl⟩
        go_wp2_with fail
        go_returns
        refine ⟨?_, bal hB _⟩
        rw [HE.out]; rfl
      cases q1 : Sp.spd (N k 1)
      · have HE := Lib.hid (Sp.sc_2 (S := S) H0.out hlt (by rw [q0, q1]; rfl))
        have Q0 := Lib.hid q0
        have Q1 := Lib.hid q1
        clear q0 q1
        go_wp2_with fail
        refine (speed_c _ _).mono ?_
        rw [Q0.out]
        rintro e w_ ⟨rfl, rfl⟩
        go_wp2_with fail
        refine (speed_c _ _).mono ?_
        rw [Q1.out]
        rintro e w_ ⟨rfl, rfl⟩
        go_wp2_with fail
        go_returns
        refine ⟨?_, bal hB _⟩
        rw [HE.out]; rfl
      have HV := Lib.hid (show Sp.okP N (k + 1) = true by rw [Sp.okP, hv.out, q0, q1]; rfl)
      have Q0 := Lib.hid q0
      have Q1 := Lib.hid q1
      clear q0 q1
      go_wp2_with fail
      refine (speed_c _ _).mono ?_
      rw [Q0.out]
      rintro e w_ ⟨rfl, rfl⟩
      go_wp2_with fail
      refine (speed_c _ _).mono ?_
      rw [Q1.out]
      rintro e w_ ⟨rfl, rfl⟩
      go_wp2_with fail
      go_roundw
      case rel => exact ⟨k + 1, by omega, by go_num, HV, bal hB _⟩
      case measure => simp [intOf]; omega
    · obtain rfl : k = n := by omega
      have HE := Lib.hid (Sp.sc_0 (S := S) H0.out hv.out)
      clear hlt
      go_wp2_with fail
      go_returns
      refine ⟨?_, hB⟩
      rw [HE.out]; rfl

set_option maxRecDepth 100000 in
set_option maxHeartbeats 4000000 in
theorem plan_c (A B E : Option Addr) (n c m d l f : Nat) (N S : Nat → Nat → Int) (v : Nat → Int) (w : World) (R : Rd w 2 A n c (iv N)) (T : Rd w 2 B m d (iv S)) (L : Rd w 1 E l f (nv v)) : Calls Try.prog 7 #[.slice A n c, .slice B m d, .slice E l f] w (GrPost (Sp.plL n N m S l v) (Sp.plE n N m S l v) (Co.thi n (Co.lwN N v) S) w) := by
  by_cases hck : Sp.scE n N m S = 0
  rotate_left
  · have e1 : Sp.plE n N m S l v = Sp.scE n N m S := if_pos hck
    have e2 : Sp.plL n N m S l v = 0 := by unfold Sp.plL; rw [e1, if_neg hck]
    have E1 := Lib.hid e1
    have E2 := Lib.hid e2
    have h3 : (Sp.scE n N m S != 0) = true := by simpa using hck
    clear e1 e2 hck
    go_enter Try.func7, Try.ntmps7
    go_wp2_with fail
    refine (scheck_c _ _ _ _ _ _ _ _ _ R T).mono ?_
    rintro e w1 ⟨rfl, hb⟩
    go_wp2
    go_returns
    refine ⟨none, 0, ?_, ?_, hb⟩
    · rw [E1.out, E2.out]; first | rfl | simp
    · rw [E2.out]; exact Own.nil _ _ _ _ _
  have e1 : Sp.plE n N m S l v = Co.blE n N m S l v := if_neg (by omega)
  have e2 : Sp.plL n N m S l v = Co.blL n N m S l v := by unfold Sp.plL Co.blL; rw [e1]
  have E1 := Lib.hid e1
  have E2 := Lib.hid e2
  have H0 := Lib.hid hck
  clear e1 e2 hck
  go_enter Try.func7, Try.ntmps7
  go_wp2_with fail
  refine (scheck_c _ _ _ _ _ _ _ _ _ R T).mono ?_
  rw [H0.out]
  rintro e w1 ⟨rfl, hb⟩
  go_wp2_with fail
  refine (below_c _ _ _ _ _ _ _ _ _ _ _ _ _ (R.keep hb) (T.keep hb) (L.keep hb)).mono ?_
  rintro e w5 ⟨A5, c5, rfl, own5, h5⟩
  go_wp2
  go_returns
  refine ⟨A5, c5, ?_, ?_, bt hb h5⟩
  · rw [E1.out, E2.out]; first | rfl | simp
  · rw [E2.out]; exact own5.more hb.size
end Go.Proofs.Ytpipjpgcnbpllaa
