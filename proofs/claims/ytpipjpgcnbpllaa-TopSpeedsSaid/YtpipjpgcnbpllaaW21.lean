/-
  Contracts: the profile's Greatest, inBound and Below.
-/
import Derived.Test.YtpipjpgcnbpllaaW16
import Derived.Test.YtpipjpgcnbpllaaW17
import Derived.Test.YtpipjpgcnbpllaaPlain6
namespace Go.Proofs.Ytpipjpgcnbpllaa
set_option linter.unusedVariables false
set_option linter.unusedSimpArgs false
open Go.RowKit

def GrPost (L : Nat) (E : Int) (v : Nat → Int) (w : World) (e : Ending) (w' : World) : Prop :=
  ∃ A c, e = .returned (.tuple #[.slice A L c, .int .i64 E]) ∧ Own w' w.heap.size 2 1 A L c (nv v) ∧ Below w.heap.size w w'

set_option maxHeartbeats 2000000 in
theorem greatest_c (A B : Option Addr) (n c m d : Nat) (N S : Nat → Nat → Int) (w : World) (R : Rd w 2 A n c (iv N)) (T : Rd w 2 B m d (iv S)) :
    Calls Try.prog 10 #[.slice A n c, .slice B m d] w (GrPost (Co.tgL n N m S) (Co.tgE n N m S) (Co.thi n N S) w) := by
  by_cases hE : Co.tgE n N m S = 0
  rotate_left
  · have e2 : Co.tgL n N m S = 0 := if_neg hE
    have h3 : (Co.tgE n N m S != 0) = true := by simpa using hE
    have E2 := Lib.hid e2
    clear hE e2
    go_enter Try.func10, Try.ntmps10
    go_wp2_with fail
    refine (tighten_c _ _ _ _ _ _ _ _ _ R T).mono ?_
    rintro e w1 ⟨A1, c1, rfl, own, hb⟩
    go_wp2
    go_returns
    refine ⟨none, 0, ?_, ?_, hb⟩
    · rw [E2.out]; first | rfl | simp
    · rw [E2.out]; exact Own.nil _ _ _ _ _
  have e2 : Co.tgL n N m S = n := if_pos hE
  have hck : Co.ck n N m S = 0 := by unfold Co.tgE at hE; split at hE <;> omega
  have hn := (Co.ck_ok.1 hck).hn
  have hmk := mk_ints n hn
  have E1 := Lib.hid hE
  have E2 := Lib.hid e2
  clear hE e2 hck
  go_enter Try.func10, Try.ntmps10
  go_wp2_with fail
  refine (tighten_c _ _ _ _ _ _ _ _ _ R T).mono ?_
  rintro e w1 ⟨A1, c1, rfl, own, hb⟩
  rw [E1.out, E2.out]
  rw [E2.out] at own
  have P := own.rd
  clear own
  go_wp2
  have own := (own_ints w1 w1.heap.size n hn (Nat.le_refl _)).more hb.size
  have hB := ba w1 (.cells (madeCells #[.int .i64 0] n) 2)
  have hgw := hb.size
  generalize World.alloc w1 _ = w2 at own hB ⊢
  generalize hg : w1.heap.size = g at own hgw ⊢
  go_loopw [25] (fun q wr => ∃ k : Nat, k ≤ n ∧ q = .int .i64 k ∧ Own wr w.heap.size 2 1 (some ⟨g, 0, none⟩) n n (nv fun a => if a < k then Co.thi n N S a else 0) ∧ Below w1.heap.size w1 wr) (fun q _ => n - (intOf q).toNat)
  case atStart => exact ⟨0, Nat.zero_le _, rfl, own.congr (fun a j _ _ => by simp [nv]), hB⟩
  case round =>
    clear own hB hmk
    obtain ⟨k, hk, rfl, own, hB⟩ := hrel
    by_cases hlt : k < n
    · obtain ⟨b, off, eA, hbl, u0, u1⟩ := (P.keep hB).at2 hlt
      have HA := Lib.hid eA
      rw [HA.out]
      clear eA
      simp only [Co.tt, if_true, if_neg (show ¬ (1 : Nat) = 0 by omega)] at u0 u1
      have y0 := own.cell1 hlt
      have y1 := own.frozen
      have hgl : g < wr.heap.size := by obtain ⟨g', e, _, hl⟩ := own.pos (by omega); simp at e; omega
      have OW := Lib.hid (own.set1 (N' := fun a => if a < k + 1 then Co.thi n N S a else 0) hlt (Co.thi n N S k) (by simp) (fun a _ ha => by simp only [show (a < k + 1) = (a < k) from propext (by omega)]))
      have hg1 : w1.heap.size ≤ g := by omega
      clear own
      go_wp2
      go_roundw
      case rel => exact ⟨k + 1, by omega, by go_num, by first | exact OW.out.alloc _ | exact OW.out, by first | exact bal (bst hB hg1 _) _ | exact bst (bal hB _) hg1 _⟩
      case measure => simp [intOf]; omega
    · obtain rfl : k = n := by omega
      go_wp2
      go_returns
      refine ⟨some ⟨g, 0, none⟩, k, ?_, ?_, bt hb hB⟩
      · rw [E1.out, E2.out]; first | rfl | simp
      · rw [E2.out]; exact own.congr (fun a j ha _ => by simp [nv, ha])

theorem inBound_c (a : Int) (w : World) : Calls Try.prog 19 #[.int .i64 a] w fun e w' => e = .returned (.bool (Co.inB a)) ∧ w = w' := by
  by_cases h1 : -1099511627776 ≤ a
  · by_cases h2 : a ≤ 1099511627776
    · rw [show Co.inB a = true from decide_eq_true ⟨h1, h2⟩]
      go_enter Try.func19, Try.ntmps19
      go_wp2
      go_ret
      exact ⟨rfl, rfl⟩
    · rw [show Co.inB a = false from decide_eq_false (by omega)]
      have h3 : 1099511627776 < a := by omega
      go_enter Try.func19, Try.ntmps19
      go_wp2
      go_ret
      exact ⟨rfl, rfl⟩
  · rw [show Co.inB a = false from decide_eq_false (by omega)]
    have h3 : a < -1099511627776 := by omega
    go_enter Try.func19, Try.ntmps19
    go_wp2
    go_ret
    exact ⟨rfl, rfl⟩

set_option maxRecDepth 100000 in
set_option maxHeartbeats 4000000 in
theorem below_c (A B E : Option Addr) (n c m d l f : Nat) (N S : Nat → Nat → Int) (v : Nat → Int) (w : World) (R : Rd w 2 A n c (iv N)) (T : Rd w 2 B m d (iv S)) (L : Rd w 1 E l f (nv v)) :
    Calls Try.prog 14 #[.slice A n c, .slice B m d, .slice E l f] w (GrPost (Co.blL n N m S l v) (Co.blE n N m S l v) (Co.thi n (Co.lwN N v) S) w) := by
  by_cases hck : Co.ck n N m S = 0
  rotate_left
  · have e1 : Co.blE n N m S l v = Co.ck n N m S := Co.bl_c hck
    have e2 : Co.blL n N m S l v = 0 := by unfold Co.blL; rw [e1, if_neg hck]
    have E1 := Lib.hid e1
    have E2 := Lib.hid e2
    have h3 : (Co.ck n N m S != 0) = true := by simpa using hck
    clear e1 e2 hck
    go_enter Try.func14, Try.ntmps14
    go_wp2_with fail
    refine (check_c _ _ _ _ _ _ _ _ _ R T).mono ?_
    rintro e w1 ⟨rfl, hb⟩
    go_wp2
    go_returns
    refine ⟨none, 0, ?_, ?_, hb⟩
    · rw [E1.out, E2.out]; first | rfl | simp
    · rw [E2.out]; exact Own.nil _ _ _ _ _
  have O := Co.ck_ok.1 hck
  have hn := O.hn
  have H0 := Lib.hid hck
  have r1 := R.le
  have l1 := L.le
  have l2 := L.mx
  by_cases hl : l = n
  rotate_left
  · have e1 : Co.blE n N m S l v = 1 := Co.bl_l hck hl
    have e2 : Co.blL n N m S l v = 0 := by unfold Co.blL; rw [e1]; rfl
    have E1 := Lib.hid e1
    have E2 := Lib.hid e2
    have h3 : ((l : Int) != (n : Int)) = true := by simp; omega
    clear e1 e2 hck hl
    go_enter Try.func14, Try.ntmps14
    go_wp2_with fail
    refine (check_c _ _ _ _ _ _ _ _ _ R T).mono ?_
    rw [H0.out]
    rintro e w1 ⟨rfl, hb⟩
    go_wp2
    go_returns
    refine ⟨none, 0, ?_, ?_, hb⟩
    · rw [E1.out, E2.out]; first | rfl | simp
    · rw [E2.out]; exact Own.nil _ _ _ _ _
  subst hl
  clear hck
  obtain ⟨i0, hi, hz0, hz1, hz2⟩ := info_parts infoW
  have HI := Lib.hid hi
  have HZ0 := Lib.hid hz0
  have HZ1 := Lib.hid hz1
  have HZ2 := Lib.hid hz2
  clear hi hz0 hz1 hz2
  go_enter Try.func14, Try.ntmps14
  go_wp2_with fail
  refine (check_c _ _ _ _ _ _ _ _ _ R T).mono ?_
  rw [H0.out]
  rintro e w1 ⟨rfl, hb⟩
  go_wp2_with (at_builtin; refine wpList_append_Rd _ rfl _ _ 26 rfl w.heap.size 30 i0 _ 2 16 Try.underlying26 HI.out HZ0.out HZ1.out HZ2.out rfl (by decide) rfl (Own.nil _ _ _ _ (iv N)) rfl (R.keep hb) (one_iv _) (by omega) (by omega) hb.size ?_; intro A' c' w3 own' hgr hob)
  have own1 := (app0 own').congr (V' := iv (Co.lwK N v 0)) (fun a f _ _ => by unfold iv Co.lwK; rw [if_neg (by omega)])
  have hB3 : Below w.heap.size w w3 := hb.trans (below_grown hgr (fun g hg => by cases hg) hb.size)
  clear own' hgr hob hb
  go_wp2
  go_loopw [27] (fun q wr => ∃ k : Nat, k ≤ l ∧ q = .int .i64 k ∧ Hid (Co.okV v k = true) ∧ Own wr w.heap.size 30 2 A' l c' (iv (Co.lwK N v k)) ∧ Below w.heap.size w wr) (fun q _ => l - (intOf q).toNat)
  case atStart => exact ⟨0, Nat.zero_le _, rfl, rfl, own1, hB3⟩
  case round =>
    clear own1 hB3
    obtain ⟨k, hk, rfl, hv, own, hB⟩ := hrel
    by_cases hlt : k < l
    · obtain ⟨b, off, eA, hbl, u0⟩ := (L.keep hB).at1 hlt
      have HA := Lib.hid eA
      rw [HA.out]
      clear eA
      obtain ⟨g, eg, hg1, hg2⟩ := own.pos (by omega)
      subst eg
      rcases hx : Co.inB (v k) with _ | _
      · have e1 := Co.bl_v H0.out hlt hx
        have e2 : Co.blL l N m S l v = 0 := by unfold Co.blL; rw [e1]; rfl
        have E1 := Lib.hid e1
        have E2 := Lib.hid e2
        clear e1 e2
        go_wp2_with (go_at_call 19; refine (inBound_c _ _).mono ?_; rintro e w' ⟨rfl, rfl⟩)
        go_returns
        refine ⟨none, 0, ?_, ?_, hB⟩
        · rw [E1.out, E2.out]; first | rfl | simp
        · rw [E2.out]; exact Own.nil _ _ _ _ _
      · have hv1 := Lib.hid (show Co.okV v (k + 1) = true by rw [Co.okV, hv.out, hx]; rfl)
        obtain ⟨y0, y1, y2⟩ := own.two hlt
        simp only [Co.lwK, if_neg (show ¬ k < k by omega)] at y0 y1
        have m1 : (if v k < N k 1 then v k else N k 1) = min (N k 1) (v k) := by omega
        have OW := Lib.hid (own.set (V' := iv (Co.lwK N v (k + 1))) hlt (show 1 < 2 by omega) (.int .i64 (min (N k 1) (v k))) (by unfold iv; rw [Co.lwK_at]) (fun a f _ _ hne => by unfold iv; rw [Co.lwK_step N v k hne]))
        clear own
        generalize hmin : min (N k 1) (v k) = mn at m1 OW
        go_wp2_with (go_at_call 19; refine (inBound_c _ _).mono ?_; rintro e w' ⟨rfl, rfl⟩)
        go_roundw
        case rel => exact ⟨k + 1, by omega, by go_num, hv1, OW.out, bst hB hg1 _⟩
        case measure => simp [intOf]; omega
    · obtain rfl : k = l := by omega
      have e1 := Co.bl_t (N := N) (S := S) (v := v) H0.out hv.out
      have e2 : Co.blL k N m S k v = Co.tgL k (Co.lwN N v) m S := by unfold Co.blL Co.tgL; rw [e1]
      have E1 := Lib.hid e1
      have E2 := Lib.hid e2
      clear e1 e2
      have P := (own.congr (V' := iv (Co.lwN N v)) (fun a f ha _ => by unfold iv Co.lwK; rw [if_pos ha])).rd
      clear own
      go_wp2_with fail
      refine (greatest_c _ _ _ _ _ _ _ _ _ P (T.keep hB)).mono ?_
      rintro e w5 ⟨A5, c5, rfl, own5, h5⟩
      go_wp2
      go_returns
      refine ⟨A5, c5, ?_, ?_, bt hB h5⟩
      · rw [E1.out, E2.out]; first | rfl | simp
      · rw [E2.out]; exact own5.more hB.size
end Go.Proofs.Ytpipjpgcnbpllaa
