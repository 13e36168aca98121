/-
  Plain: a graph whose edges are nowhere cheaper.
-/
import Derived.Test.YtbmfkncfenkjoaaPlain5
namespace Go.Proofs.Ytbmfkncfenkjoaa
set_option linter.unusedVariables false
set_option linter.unusedSimpArgs false
namespace Ce
/-- The costs raised by M at the first k edges, of the first q that are given. -/
def raise (E : Tab) (q : Nat) (M : Nat → Int) (k : Nat) : Tab := fun i j => if j = 2 ∧ i < k ∧ i < q then (if 1099511627776 < E i 2 + M i then 1099511627776 else E i 2 + M i) else E i j
theorem raise_0 (E : Tab) (q : Nat) (M : Nat → Int) (i j : Nat) : raise E q M 0 i j = E i j := by unfold raise; rw [if_neg (by omega)]
theorem raise_lo (E : Tab) (q : Nat) (M : Nat → Int) (k i : Nat) {j : Nat} (hj : j ≠ 2) : raise E q M k i j = E i j := by unfold raise; rw [if_neg (by omega)]
theorem raise_late (E : Tab) (q : Nat) (M : Nat → Int) {k i : Nat} (h : k ≤ i) (j : Nat) : raise E q M k i j = E i j := by unfold raise; rw [if_neg (by omega)]
theorem raise_step (E : Tab) (q : Nat) (M : Nat → Int) {k i j : Nat} (h : i ≠ k ∨ j ≠ 2 ∨ q ≤ k) : raise E q M (k + 1) i j = raise E q M k i j := by
  unfold raise
  by_cases c : j = 2 ∧ i < k ∧ i < q
  · rw [if_pos c, if_pos (by omega)]
  · rw [if_neg c, if_neg (by omega)]
theorem raise_at (E : Tab) (q : Nat) (M : Nat → Int) {k : Nat} (h : k < q) : raise E q M (k + 1) k 2 = if 1099511627776 < E k 2 + M k then 1099511627776 else E k 2 + M k := by unfold raise; rw [if_pos (by omega)]
section
variable {n m s q : Nat} {E : Tab} {M : Nat → Int} {C D C' D' : Nat → Int}
theorem raise_bd (O : Ok n m E) (hM : ∀ i, i < q → 0 ≤ M i) (k i : Nat) (hi : i < m) : E i 2 ≤ raise E q M k i 2 ∧ raise E q M k i 2 ≤ 1099511627776 := by
  have h0 := (O.e i hi).c0
  have h1 := (O.e i hi).c1
  unfold raise
  split
  · rename_i h
    have := hM i h.2.2
    split <;> omega
  · omega
theorem raise_ok (O : Ok n m E) (hM : ∀ i, i < q → 0 ≤ M i) (k : Nat) : Ok n m (raise E q M k) :=
  ⟨O.n1, O.n2, O.hm, fun i hi => by
    have b := raise_bd O hM k i hi
    have h := O.e i hi
    have h0 := h.c0
    exact ⟨by rw [raise_lo _ _ _ _ _ (by decide)]; exact h.f0, by rw [raise_lo _ _ _ _ _ (by decide)]; exact h.f1, by rw [raise_lo _ _ _ _ _ (by decide)]; exact h.t0, by rw [raise_lo _ _ _ _ _ (by decide)]; exact h.t1, by omega, b.2⟩⟩
theorem ps_raise (R : Nat → Int) (a : Int) (k : Nat) : ∀ l, ps (raise E q M k) R a l = ps E R a l
  | 0 => rfl
  | l + 1 => by rw [ps, ps, raise_lo _ _ _ _ _ (by decide)]
theorem Rt.raise {a x : Int} {l : Nat} {R : Nat → Int} (h : Rt m E a x l R) (k : Nat) : Rt m (raise E q M k) a x l R :=
  ⟨h.hl, h.i, fun j hj => by rw [raise_lo _ _ _ _ _ (by decide), ps_raise]; exact h.p j hj, by rw [ps_raise]; exact h.e⟩
theorem dearer_v (O : Ok n m E) (hM : ∀ i, i < q → 0 ≤ M i) (k : Nat) (h : Lab n m E s C D) : ∀ i, i < m → pot n C (raise E q M k i 1).toNat - pot n C (raise E q M k i 0).toNat ≤ raise E q M k i 2 := fun i hi => by
  rw [raise_lo _ _ _ _ _ (by decide), raise_lo _ _ _ _ _ (by decide)]
  have := h.pv O i hi
  have := (raise_bd O hM k i hi).1
  omega
theorem dearer_b (O : Ok n m E) (hM : ∀ i, i < q → 0 ≤ M i) (k : Nat) (h : Lab n m E s C D) (hs : s < n) {t : Nat} (ht : t < n) (hc : 0 ≤ C t) :
    ber n m (raise E q M k) s t n (pot n C) = 0 ∧ bnd n m (raise E q M k) s t n (pot n C) = C t := by
  have O' := raise_ok O hM k
  have hen : En n m (raise E q M k) s t := ⟨O', by omega, by omega, by omega, by omega⟩
  have e3 : ber n m (raise E q M k) s t n (pot n C) = 0 := ber_ok.2 ⟨hen, ⟨O', rfl, fun k hk => by have := h.potb O hk; omega⟩, dearer_v O hM k h⟩
  have p1 : pot n C t = C t := by unfold pot; rw [if_neg (by omega)]
  have p2 : pot n C s = 0 := by unfold pot; rw [h.c0, if_neg (by omega)]
  refine ⟨e3, ?_⟩
  rw [bnd_yes e3, Int.toNat_natCast, Int.toNat_natCast]; omega
theorem dearer_c (O : Ok n m E) (hM : ∀ i, i < q → 0 ≤ M i) (k : Nat) (h : Lab n m E s C D) (h' : Lab n m (raise E q M k) s C' D') (hs : s < n) {t : Nat} (ht : t < n) (hc : 0 ≤ C t) : 0 ≤ C' t ∧ C t ≤ C' t := by
  have O' := raise_ok O hM k
  obtain ⟨r1, r2⟩ := rt_ok O h (b := (t : Int)) (by omega) (by omega) (by simpa using hc)
  have r3 := r1.raise (q := q) (M := M) k
  have g1 := h'.route O' hs r3.i r3.p
  rw [r3.e, Int.toNat_natCast] at g1
  have p1 : pot n C t = C t := by unfold pot; rw [if_neg (by omega)]
  have p2 : pot n C s = 0 := by unfold pot; rw [h.c0, if_neg (by omega)]
  obtain ⟨q1, q2⟩ := rt_ok O' h' (b := (t : Int)) (by omega) (by omega) (by simpa using g1.1)
  simp only [Int.toNat_natCast] at q1 q2
  have g2 := below (P := pot n C) (n := (n : Int)) (a := (s : Int)) (dearer_v O hM k h) q1.i q1.p
  rw [q1.e, Int.toNat_natCast, Int.toNat_natCast, q2] at g2
  exact ⟨g1.1, by omega⟩
end
end Ce
end Go.Proofs.Ytbmfkncfenkjoaa
