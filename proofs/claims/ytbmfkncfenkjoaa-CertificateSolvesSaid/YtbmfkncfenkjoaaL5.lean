/-
  Contract: slices.Reverse.
-/
import Derived.Test.YtbmfkncfenkjoaaL3
namespace Go.Proofs.Ytbmfkncfenkjoaa
set_option linter.unusedVariables false
set_option linter.unusedSimpArgs false
open Go.RowKit
attribute [local irreducible] World.setCell World.cell?

def rvk (l k : Nat) (R : Nat → Int) : Nat → Int := fun x => if x < k ∨ l - 1 - k < x then R (l - 1 - x) else R x
theorem rvk_0 (l : Nat) (R : Nat → Int) {x : Nat} (hx : x < l) : rvk l 0 R x = R x := by unfold rvk; rw [if_neg (by omega)]
theorem rvk_step {l k : Nat} (R : Nat → Int) (hk : k + k + 1 < l) (x : Nat) : Ce.up (Ce.up (rvk l k R) k (R (l - 1 - k))) (l - 1 - k) (R k) x = rvk l (k + 1) R x := by
  unfold Ce.up rvk
  by_cases e : x = l - 1 - k
  · subst e; rw [if_pos rfl, if_pos (by omega)]; congr 1; omega
  · rw [if_neg e]
    by_cases e2 : x = k
    · subst e2; rw [if_pos rfl, if_pos (by omega)]
    · rw [if_neg e2]
      by_cases q : x < k ∨ l - 1 - k < x
      · rw [if_pos q, if_pos (by omega)]
      · rw [if_neg q, if_neg (by omega)]
theorem rvk_mid {l k : Nat} (R : Nat → Int) {x : Nat} (h1 : k ≤ x) (h2 : x ≤ l - 1 - k) : rvk l k R x = R x := by unfold rvk; rw [if_neg (by omega)]
theorem rvk_end {l k : Nat} (R : Nat → Int) (hk : l ≤ k + k + 1) {x : Nat} (hx : x < l) : rvk l k R x = R (l - 1 - x) := by
  unfold rvk
  by_cases q : x < k ∨ l - 1 - k < x
  · rw [if_pos q]
  · rw [if_neg q]; congr 1; omega
theorem Rd.e3 {w : World} {b off m c : Nat} {E : Nat → Nat → Int} (h : Rd w 3 (some ⟨b, off, none⟩) m c (iv E)) {k : Nat} (hk : k < m) :
    w.cell? ⟨b, off + k * 3, none⟩ = some (.int .i64 (E k 0)) ∧ w.cell? ⟨b, off + k * 3 + 1, none⟩ = some (.int .i64 (E k 1)) ∧ w.cell? ⟨b, off + k * 3 + 2, none⟩ = some (.int .i64 (E k 2)) ∧ b < w.heap.size := by
  obtain ⟨b', off', e, hl, h0, h1, h2⟩ := h.at3 hk
  injection e with e
  injection e with e1 e2
  subst e1 e2
  exact ⟨h0, h1, h2, hl⟩
theorem Own.num {w : World} {b g n c : Nat} {e : TypeId} {R : Nat → Int} (h : Own w b e 1 (some ⟨g, 0, none⟩) n c (nv R)) {i : Nat} (hi : i < n) {x : Int} (hx : R i = x) : w.cell? ⟨g, i, none⟩ = some (.int .i64 x) := by rw [h.cell1 hi, hx]
set_option maxRecDepth 100000 in
set_option maxHeartbeats 4000000 in
theorem reverse_c (A : Option Addr) (l c b : Nat) (R : Nat → Int) (w : World) (own : Own w b 3 1 A l c (nv R)) : Calls Try.prog 38 #[.slice A l c] w fun e w' => e = .returned (.tuple #[]) ∧ Own w' b 3 1 A l c (nv fun x => R (l - 1 - x)) ∧ w.grownBy w' (ob A) := by
  obtain ⟨fn, fc, ff⟩ := own.form
  have own := own.congr (V' := nv (rvk l 0 R)) fun i j hi _ => by unfold nv; rw [rvk_0 l R hi]
  have h0 := World.grownBy.refl w (ob A)
  go_enter Try.func38, Try.ntmps38
  go_wp2_with fail
  go_loopw [2, 3] (fun i_ j_ wr => ∃ k : Nat, k ≤ l ∧ i_ = .int .i64 k ∧ j_ = .int .i64 ((l : Int) - 1 - k) ∧ Own wr b 3 1 A l c (nv (rvk l k R)) ∧ w.grownBy wr (ob A)) (fun i_ _ _ => l - (intOf i_).toNat)
  case atStart => exact ⟨0, Nat.zero_le _, rfl, by simp, own, h0⟩
  case round =>
    clear own h0
    obtain ⟨k, hk, rfl, rfl, own, hg⟩ := hrel
    by_cases hlt : (k : Int) < (l : Int) - 1 - k
    · have hl0 : 0 < l := by omega
      obtain ⟨g, rfl, hg1, hg2⟩ := own.pos hl0
      obtain ⟨r, hr⟩ : ∃ r : Nat, l - 1 - k = r := ⟨_, rfl⟩
      have er : (l : Int) - 1 - k = (r : Int) := by omega
      have hkl : k < l := by omega
      have hrl : r < l := by omega
      have y0 := own.num hkl (x := R k) (rvk_mid R (by omega) (by omega))
      have y1 := own.num hrl (x := R r) (rvk_mid R (by omega) (by omega))
      have y2 := own.frozen
      have y3 := own.lt1
      have i1 : (0 : Int) ≤ (r : Int) := by omega
      have i2 : (r : Int) < (l : Int) := by omega
      have i3 : (k : Int) < (l : Int) := by omega
      have i4 : (k : Int) < (r : Int) := by omega
      have i5 : (0 : Int) ≤ (k : Int) := by omega
      have i6 : k ≠ r := by omega
      have own2 := Lib.hid (((own.set1 hkl (R r) (N' := Ce.up (rvk l k R) k (R r)) (Ce.up_at _ _ _) (fun i' _ h => Ce.up_ne h)).set1 hrl (R k) (N' := Ce.up (Ce.up (rvk l k R) k (R r)) r (R k)) (Ce.up_at _ _ _) (fun i' _ h => Ce.up_ne h)).congr (V' := nv (rvk l (k + 1) R)) (fun i j hi _ => by unfold nv; rw [← rvk_step R (by omega) i, hr]))
      have hg2_ := Lib.hid (hg.trans ((grown_set wr ⟨g, k, none⟩ (.int .i64 (R r))).trans (grown_set (wr.setCell ⟨g, k, none⟩ (.int .i64 (R r))) ⟨g, r, none⟩ (.int .i64 (R k)))))
      have ER := Lib.hid er
      have HR := Lib.hid hr
      clear hr
      simp only [ER.out] at *
      go_wp2_with fail
      go_region
      go_wp2_with fail
      go_roundw
      case rel => exact ⟨k + 1, by omega, by go_num, by have := HR.out; simp; omega, own2.out.drew, ⟨hg2_.out.os, hg2_.out.tape, hg2_.out.output, hg2_.out.size, hg2_.out.block⟩⟩
      case measure => simp [intOf]; omega
    · have ownE := own.congr (V' := nv fun x => R (l - 1 - x)) fun i j hi _ => by unfold nv; rw [rvk_end R (by omega) hi]
      go_wp2_with fail
      go_returns
      exact ⟨rfl, ownE, hg⟩
end Go.Proofs.Ytbmfkncfenkjoaa
