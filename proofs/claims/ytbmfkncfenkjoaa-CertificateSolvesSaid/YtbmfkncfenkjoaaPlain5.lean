/-
  Plain: a cheapest route is accepted with its potentials.
-/
import Derived.Test.YtbmfkncfenkjoaaPlain4
namespace Go.Proofs.Ytbmfkncfenkjoaa
set_option linter.unusedVariables false
set_option linter.unusedSimpArgs false
namespace Ce
theorem En.left {n : Int} {m : Nat} {E : Tab} {a b : Int} (h : En n m E a b) : En n m E a a := ⟨h.ok, h.a0, h.a1, h.a0, h.a1⟩
theorem en_aa {n : Int} {m : Nat} {E : Tab} {a b : Int} (h : en n m E a b = 0) : en n m E a a = 0 := en_ok.2 (en_ok.1 h).left
/-- If the first end is right, the error of both is that of the second. -/
theorem en_ab1 {n : Int} {m : Nat} {E : Tab} {a b : Int} (h : en n m E a a = 0) (h2 : en n m E a b ≠ 0) : en n m E a b = 1 := by
  have hk : ck n m E = 0 := ck_ok.2 (en_ok.1 h).ok
  unfold en at h2 ⊢
  rw [if_neg (by omega)] at h2 ⊢
  split
  · rename_i q; rw [if_pos q] at h2; exact absurd rfl h2
  · rfl
section
variable {n m s : Nat} {E : Tab} {C D : Nat → Int}
theorem prove_ok (O : Ok n m E) (h : Lab n m E s C D) (hs : s < n) {t : Nat} (ht : t < n) (hc : 0 ≤ C t) :
    cer n m E s t (D t).toNat (rt m E C D t) = 0 ∧ cst n m E s t (D t).toNat (rt m E C D t) = C t ∧ ber n m E s t n (pot n C) = 0 ∧ bnd n m E s t n (pot n C) = C t ∧ acc n m E s t n (pot n C) (D t).toNat (rt m E C D t) = 0 := by
  have hen : En n m E s t := ⟨O, by omega, by omega, by omega, by omega⟩
  obtain ⟨r1, r2⟩ := rt_ok O h (b := (t : Int)) (by omega) (by omega) (by simpa using hc)
  simp only [Int.toNat_natCast] at r1 r2
  have e1 : cer n m E s t (D t).toNat (rt m E C D t) = 0 := cer_ok.2 ⟨hen, r1⟩
  have e2 : cst n m E s t (D t).toNat (rt m E C D t) = C t := by rw [cst_yes e1, r2]
  have e3 : ber n m E s t n (pot n C) = 0 := ber_ok.2 ⟨hen, ⟨O, rfl, fun k hk => by have := h.potb O hk; omega⟩, h.pv O⟩
  have e4 : bnd n m E s t n (pot n C) = C t := by
    rw [bnd_yes e3, Int.toNat_natCast, Int.toNat_natCast]
    have p1 : pot n C t = C t := by unfold pot; rw [if_neg (by omega)]
    have p2 : pot n C s = 0 := by unfold pot; rw [h.c0, if_neg (by omega)]
    omega
  refine ⟨e1, e2, e3, e4, ?_⟩
  unfold acc
  rw [if_neg (by omega), if_neg (by omega), e2, e4, if_neg (by omega)]
/-- A walk's cost is the specified one, and not below the least one. -/
theorem least_ok (O : Ok n m E) (h : Lab n m E s C D) (hs : s < n) {x : Int} (x0 : 0 ≤ x) (x1 : x < n) {l : Nat} {R : Nat → Int} (hR : Rt m E s x l R) :
    cer n m E s x l R = 0 ∧ cst n m E s x l R = csum E R l ∧ 0 ≤ C x.toNat ∧ C x.toNat ≤ csum E R l := by
  have e1 : cer n m E s x l R = 0 := cer_ok.2 ⟨⟨O, by omega, by omega, x0, x1⟩, hR⟩
  have := h.route O hs hR.i hR.p
  rw [hR.e] at this
  exact ⟨e1, cst_yes e1, this⟩
theorem below_ok {n : Int} {a x : Int} (O : Ok n m E) (a0 : 0 ≤ a) (a1 : a < n) (x0 : 0 ≤ x) (x1 : x < n) {l : Nat} {R : Nat → Int} (hR : Rt m E a x l R) {k : Nat} {P : Nat → Int} (hk : Pk n m E k P) (hf : fi (vp E P) m = -1) :
    cer n m E a x l R = 0 ∧ cst n m E a x l R = csum E R l ∧ ber n m E a x k P = 0 ∧ bnd n m E a x k P = P x.toNat - P a.toNat ∧ P x.toNat - P a.toNat ≤ csum E R l := by
  have hen : En n m E a x := ⟨O, a0, a1, x0, x1⟩
  have e1 : cer n m E a x l R = 0 := cer_ok.2 ⟨hen, hR⟩
  have hv : ∀ i, i < m → P (E i 1).toNat - P (E i 0).toNat ≤ E i 2 := fun i hi => by
    have := (fi_no (vp E P) m).1 hf i hi
    unfold vp at this
    rw [decide_eq_false_iff_not] at this
    omega
  have e3 : ber n m E a x k P = 0 := ber_ok.2 ⟨hen, hk, hv⟩
  have := below (P := P) (n := n) (a := a) hv hR.i hR.p
  rw [hR.e] at this
  exact ⟨e1, cst_yes e1, e3, bnd_yes e3, this⟩
end
end Ce
end Go.Proofs.Ytbmfkncfenkjoaa
