/-
  Plain: least costs and least numbers of edges are unique; no program in sight.
-/
import Derived.Test.YtbmfkncfenkjoaaPlain
namespace Go.Proofs.Ytbmfkncfenkjoaa
set_option linter.unusedVariables false
set_option linter.unusedSimpArgs false
namespace Ce
/-- The order of labels: by cost, then by the number of edges. -/
def le2 (a b c d : Int) : Prop := a < c ∨ (a = c ∧ b ≤ d)
def lt2 (a b c d : Int) : Prop := a < c ∨ (a = c ∧ b < d)
theorem le2_refl (a b : Int) : le2 a b a b := .inr ⟨rfl, Int.le_refl _⟩
theorem le2_trans {a b c d e f : Int} (h : le2 a b c d) (k : le2 c d e f) : le2 a b e f := by unfold le2 at *; omega
theorem le2_anti {a b c d : Int} (h : le2 a b c d) (k : le2 c d a b) : a = c ∧ b = d := by unfold le2 at *; omega
theorem le2_add {a b c d x y : Int} (h : le2 a b c d) : le2 (a + x) (b + y) (c + x) (d + y) := by unfold le2 at *; omega
/-- The nodes of an edge, as numbers. -/
def fr (E : Tab) (i : Nat) : Nat := (E i 0).toNat
def to (E : Tab) (i : Nat) : Nat := (E i 1).toNat
/-- Final labels: C the costs (negative: no route), D the numbers of edges. -/
structure Lab (n m : Nat) (E : Tab) (s : Nat) (C D : Nat → Int) : Prop where
  c0 : C s = 0
  d0 : D s = 0
  rng : ∀ v, v < n → C v = -1 ∨ (0 ≤ C v ∧ 0 ≤ D v ∧ C v ≤ D v * 1099511627776 ∧ D v + 1 ≤ n)
  tri : ∀ i, i < m → 0 ≤ C (fr E i) → 0 ≤ C (to E i) ∧ le2 (C (to E i)) (D (to E i)) (C (fr E i) + E i 2) (D (fr E i) + 1)
  pre : ∀ v, v < n → 0 ≤ C v → v ≠ s → ∃ i, i < m ∧ to E i = v ∧ 0 ≤ C (fr E i) ∧ C (fr E i) + E i 2 = C v ∧ D (fr E i) + 1 = D v
section
variable {n m s : Nat} {E : Tab} {C D C' D' : Nat → Int}
theorem Lab.least (O : Ok n m E) (h : Lab n m E s C D) (h' : Lab n m E s C' D') : ∀ (k : Nat) (v : Nat), v < n → 0 ≤ C v → D v ≤ k → 0 ≤ C' v ∧ le2 (C' v) (D' v) (C v) (D v)
  | k, v, hv, hc, hd => by
    by_cases e : v = s
    · subst e
      rw [h.c0, h.d0, h'.c0, h'.d0]
      exact ⟨Int.le_refl _, le2_refl _ _⟩
    · obtain ⟨i, hi, ht, hu, e1, e2⟩ := h.pre v hv hc e
      have he := O.e i hi
      have hul : fr E i < n := by unfold fr; have := he.f0; have := he.f1; omega
      have hdu : 0 ≤ D (fr E i) := by
        rcases h.rng _ hul with q | q
        · omega
        · exact q.2.1
      match k with
      | 0 => omega
      | k + 1 =>
        obtain ⟨g1, g2⟩ := Lab.least O h h' k (fr E i) hul hu (by omega)
        obtain ⟨g3, g4⟩ := h'.tri i hi g1
        rw [ht] at g3 g4
        refine ⟨g3, le2_trans g4 ?_⟩
        rw [← e1, ← e2]
        exact le2_add g2
theorem Lab.uniq (O : Ok n m E) (h : Lab n m E s C D) (h' : Lab n m E s C' D') {v : Nat} (hv : v < n) : C v = C' v ∧ (0 ≤ C v → D v = D' v) := by
  have f1 : 0 ≤ C v → 0 ≤ C' v ∧ le2 (C' v) (D' v) (C v) (D v) := fun q => Lab.least O h h' (D v).toNat v hv q (by omega)
  have f2 : 0 ≤ C' v → 0 ≤ C v ∧ le2 (C v) (D v) (C' v) (D' v) := fun q => Lab.least O h' h (D' v).toNat v hv q (by omega)
  rcases h.rng v hv with q | q
  · rcases h'.rng v hv with q' | q'
    · exact ⟨by omega, by omega⟩
    · have := (f2 q'.1).1; omega
  · obtain ⟨g1, g2⟩ := f1 q.1
    obtain ⟨g3, g4⟩ := f2 g1
    obtain ⟨e1, e2⟩ := le2_anti g4 g2
    exact ⟨e1, fun _ => e2⟩
theorem Lab.s_lt (h : Lab n m E s C D) (hs : s < n) : 0 ≤ C s := by rw [h.c0]; omega
/-- A node with a route has no edge on it exactly if it is the first one. -/
theorem Lab.d_pos (O : Ok n m E) (h : Lab n m E s C D) {v : Nat} (hv : v < n) (hc : 0 ≤ C v) (hne : v ≠ s) : 1 ≤ D v := by
  obtain ⟨i, hi, ht, hu, e1, e2⟩ := h.pre v hv hc hne
  have he := O.e i hi
  have hul : fr E i < n := by unfold fr; have := he.f0; have := he.f1; omega
  rcases h.rng _ hul with q | q <;> omega
/-- Every route's cost is at least the label's. -/
theorem Lab.route (O : Ok n m E) (h : Lab n m E s C D) (hs : s < n) {R : Nat → Int} : ∀ {l : Nat}, (∀ k, k < l → 0 ≤ R k ∧ R k < m) → (∀ k, k < l → E (R k).toNat 0 = ps E R s k) → 0 ≤ C (ps E R s l).toNat ∧ C (ps E R s l).toNat ≤ csum E R l
  | 0, _, _ => by simp [ps, csum, sm, h.c0]
  | l + 1, h1, h2 => by
    obtain ⟨g1, g2⟩ := Lab.route O h hs (l := l) (fun k hk => h1 k (by omega)) (fun k hk => h2 k (by omega))
    have hr := h1 l (by omega)
    have hf : fr E (R l).toNat = (ps E R s l).toNat := by unfold fr; rw [h2 l (by omega)]
    obtain ⟨g3, g4⟩ := h.tri (R l).toNat (by omega) (by rw [hf]; exact g1)
    rw [hf] at g4
    have ht : to E (R l).toNat = (ps E R s (l + 1)).toNat := rfl
    rw [ht] at g3 g4
    refine ⟨g3, ?_⟩
    unfold csum at g2 ⊢
    rw [sm]
    unfold le2 at g4
    omega
end
/-! The cheapest route, from its end -/
/-- Whether edge i can be the last one of a cheapest route to v. -/
def lastB (E : Tab) (C D : Nat → Int) (v : Int) (i : Nat) : Bool := decide (E i 1 = v ∧ 0 ≤ C (fr E i) ∧ C (fr E i) + E i 2 = C v.toNat ∧ D (fr E i) + 1 = D v.toNat)
def pk (m : Nat) (E : Tab) (C D : Nat → Int) (v : Int) : Int := fi (lastB E C D v) m
/-- The node j edges ahead of the end. -/
def bk (m : Nat) (E : Tab) (C D : Nat → Int) (b : Int) : Nat → Int
  | 0 => b
  | j + 1 => E (pk m E C D (bk m E C D b j)).toNat 0
/-- The edges of the route, from its end. -/
def rb (m : Nat) (E : Tab) (C D : Nat → Int) (b : Int) (j : Nat) : Int := pk m E C D (bk m E C D b j)
/-- The route, from its beginning. -/
def rt (m : Nat) (E : Tab) (C D : Nat → Int) (b : Int) (j : Nat) : Int := rb m E C D b ((D b.toNat).toNat - 1 - j)
section
variable {n m s : Nat} {E : Tab} {C D C' D' : Nat → Int}
theorem pk_ok (O : Ok n m E) (h : Lab n m E s C D) {v : Int} (v0 : 0 ≤ v) (v1 : v < n) (hc : 0 ≤ C v.toNat) (hne : v ≠ s) :
    0 ≤ pk m E C D v ∧ pk m E C D v < m ∧ E (pk m E C D v).toNat 1 = v ∧ 0 ≤ C (fr E (pk m E C D v).toNat) ∧ C (fr E (pk m E C D v).toNat) + E (pk m E C D v).toNat 2 = C v.toNat ∧ D (fr E (pk m E C D v).toNat) + 1 = D v.toNat := by
  have hb := fi_bd (lastB E C D v) m
  have h0 : 0 ≤ fi (lastB E C D v) m := by
    rcases Int.lt_or_le (fi (lastB E C D v) m) 0 with q | q
    · exfalso
      have q2 := (fi_no (lastB E C D v) m).1 (by omega)
      obtain ⟨i, hi, ht, hu, e1, e2⟩ := h.pre v.toNat (by omega) hc (by omega)
      have := q2 i hi
      unfold lastB at this
      rw [decide_eq_false_iff_not] at this
      have he := (O.e i hi).t0
      exact this ⟨by unfold to at ht; omega, hu, e1, e2⟩
    · exact q
  have hy := fi_yes h0
  unfold lastB at hy
  rw [decide_eq_true_iff] at hy
  exact ⟨h0, hb.2, hy⟩
/-- Going back from the end, edge by edge. -/
theorem bk_ok (O : Ok n m E) (h : Lab n m E s C D) {b : Int} (b0 : 0 ≤ b) (b1 : b < n) (hc : 0 ≤ C b.toNat) : ∀ j : Nat, (j : Int) ≤ D b.toNat →
    0 ≤ bk m E C D b j ∧ bk m E C D b j < n ∧ 0 ≤ C (bk m E C D b j).toNat ∧ D (bk m E C D b j).toNat = D b.toNat - j
  | 0, _ => ⟨b0, b1, hc, by simp [bk]⟩
  | j + 1, hj => by
    obtain ⟨g0, g1, g2, g3⟩ := bk_ok O h b0 b1 hc j (by omega)
    have hne : bk m E C D b j ≠ s := by
      intro q
      rw [q] at g3
      have := h.d0
      simp only [Int.toNat_natCast] at g3
      omega
    obtain ⟨p0, p1, p2, p3, p4, p5⟩ := pk_ok O h g0 g1 g2 hne
    have he := O.e (pk m E C D (bk m E C D b j)).toNat (by omega)
    rw [bk]
    exact ⟨he.f0, he.f1, p3, by unfold fr at p5; omega⟩
theorem bk_lt (O : Ok n m E) (h : Lab n m E s C D) {b : Int} (b0 : 0 ≤ b) (b1 : b < n) (hc : 0 ≤ C b.toNat) (j : Nat) (hj : (j : Int) < D b.toNat) :
    0 ≤ rb m E C D b j ∧ rb m E C D b j < m ∧ E (rb m E C D b j).toNat 1 = bk m E C D b j ∧ E (rb m E C D b j).toNat 0 = bk m E C D b (j + 1) ∧ bk m E C D b j ≠ s ∧
      C (bk m E C D b (j + 1)).toNat + E (rb m E C D b j).toNat 2 = C (bk m E C D b j).toNat := by
  obtain ⟨g0, g1, g2, g3⟩ := bk_ok O h b0 b1 hc j (by omega)
  have hne : bk m E C D b j ≠ s := by
    intro q
    rw [q] at g3
    have := h.d0
    simp only [Int.toNat_natCast] at g3
    omega
  obtain ⟨p0, p1, p2, p3, p4, p5⟩ := pk_ok O h g0 g1 g2 hne
  exact ⟨p0, p1, p2, rfl, hne, p4⟩
/-- The end of the way back is the first node. -/
theorem bk_end (O : Ok n m E) (h : Lab n m E s C D) {b : Int} (b0 : 0 ≤ b) (b1 : b < n) (hc : 0 ≤ C b.toNat) {j : Nat} (hj : (j : Int) = D b.toNat) : bk m E C D b j = s := by
  obtain ⟨g0, g1, g2, g3⟩ := bk_ok O h b0 b1 hc j (by omega)
  apply Classical.byContradiction
  intro q
  have := h.d_pos O (v := (bk m E C D b j).toNat) (by omega) g2 (by omega)
  omega
/-- The nodes of the route, from its beginning. -/
theorem rt_ps (O : Ok n m E) (h : Lab n m E s C D) {b : Int} (b0 : 0 ≤ b) (b1 : b < n) (hc : 0 ≤ C b.toNat) : ∀ k : Nat, (k : Int) ≤ D b.toNat → ps E (rt m E C D b) s k = bk m E C D b ((D b.toNat).toNat - k)
  | 0, _ => by
    have : 0 ≤ D b.toNat := by
      rcases h.rng b.toNat (by omega) with q | q <;> omega
    rw [ps, bk_end O h b0 b1 hc (by omega)]
  | k + 1, hk => by
    have := (bk_lt O h b0 b1 hc ((D b.toNat).toNat - 1 - k) (by omega)).2.2.1
    rw [ps, rt, this]
    congr 1
    omega
theorem rt_ok (O : Ok n m E) (h : Lab n m E s C D) {b : Int} (b0 : 0 ≤ b) (b1 : b < n) (hc : 0 ≤ C b.toNat) : Rt m E s b (D b.toNat).toNat (rt m E C D b) ∧ csum E (rt m E C D b) (D b.toNat).toNat = C b.toNat := by
  have hd : 0 ≤ D b.toNat ∧ D b.toNat + 1 ≤ n := by
    rcases h.rng b.toNat (by omega) with q | q <;> omega
  have hps := rt_ps O h b0 b1 hc
  refine ⟨⟨by have := O.n2; omega, fun k hk => ?_, fun k hk => ?_, ?_⟩, ?_⟩
  · have := bk_lt O h b0 b1 hc ((D b.toNat).toNat - 1 - k) (by omega)
    exact ⟨this.1, this.2.1⟩
  · rw [hps k (by omega)]
    have := (bk_lt O h b0 b1 hc ((D b.toNat).toNat - 1 - k) (by omega)).2.2.2.1
    rw [rt, this]
    congr 1
    omega
  · rw [hps _ (by omega), Nat.sub_self]
    rfl
  · have key : ∀ k : Nat, (k : Int) ≤ D b.toNat → csum E (rt m E C D b) k = C (bk m E C D b ((D b.toNat).toNat - k)).toNat := by
      intro k
      induction k with
      | zero =>
        intro _
        rw [Nat.sub_zero, bk_end O h b0 b1 hc (by omega)]
        simp [csum, sm, h.c0]
      | succ k ih =>
        intro hk
        have ih := ih (by omega)
        have := (bk_lt O h b0 b1 hc ((D b.toNat).toNat - 1 - k) (by omega)).2.2.2.2.2
        unfold csum at ih ⊢
        rw [sm, ih]
        rw [show (D b.toNat).toNat - 1 - k + 1 = (D b.toNat).toNat - k by omega] at this
        rw [show (D b.toNat).toNat - (k + 1) = (D b.toNat).toNat - 1 - k by omega, ← this]
        rfl
    rw [key _ (by omega), Nat.sub_self]
    rfl
/-- What a route from the end depends on. -/
theorem lastB_congr (O : Ok n m E) (hC : ∀ v, v < n → C v = C' v) (hD : ∀ v, v < n → 0 ≤ C v → D v = D' v) {v : Int} (v0 : 0 ≤ v) (v1 : v < n) (hc : 0 ≤ C v.toNat) {i : Nat} (hi : i < m) : lastB E C D v i = lastB E C' D' v i := by
  have he := O.e i hi
  have hf : fr E i < n := by unfold fr; have := he.f0; have := he.f1; omega
  unfold lastB
  rw [← hC _ hf, ← hC v.toNat (by omega), ← hD v.toNat (by omega) hc]
  by_cases q : 0 ≤ C (fr E i)
  · rw [← hD _ hf q]
  · simp [q]
theorem bk_congr (O : Ok n m E) (h : Lab n m E s C D) (hC : ∀ v, v < n → C v = C' v) (hD : ∀ v, v < n → 0 ≤ C v → D v = D' v) {b : Int} (b0 : 0 ≤ b) (b1 : b < n) (hc : 0 ≤ C b.toNat) : ∀ j : Nat, (j : Int) ≤ D b.toNat → bk m E C D b j = bk m E C' D' b j
  | 0, _ => rfl
  | j + 1, hj => by
    obtain ⟨g0, g1, g2, g3⟩ := bk_ok O h b0 b1 hc j (by omega)
    rw [bk, bk, ← bk_congr O h hC hD b0 b1 hc j (by omega)]
    unfold pk
    rw [fi_congr fun i hi => lastB_congr O hC hD g0 g1 g2 hi]
theorem rb_congr (O : Ok n m E) (h : Lab n m E s C D) (hC : ∀ v, v < n → C v = C' v) (hD : ∀ v, v < n → 0 ≤ C v → D v = D' v) {b : Int} (b0 : 0 ≤ b) (b1 : b < n) (hc : 0 ≤ C b.toNat) (j : Nat) (hj : (j : Int) ≤ D b.toNat) : rb m E C D b j = rb m E C' D' b j := by
  obtain ⟨g0, g1, g2, g3⟩ := bk_ok O h b0 b1 hc j hj
  unfold rb pk
  rw [← bk_congr O h hC hD b0 b1 hc j hj, fi_congr fun i hi => lastB_congr O hC hD g0 g1 g2 hi]
end
/-! The potentials of a solution -/
/-- The greatest cost, 0 if there is none. -/
def mst (C : Nat → Int) : Nat → Int
  | 0 => 0
  | k + 1 => if mst C k < C k then C k else mst C k
theorem mst_nn (C : Nat → Int) : ∀ k, 0 ≤ mst C k
  | 0 => Int.le_refl _
  | k + 1 => by have := mst_nn C k; rw [mst]; split <;> omega
theorem mst_ge (C : Nat → Int) : ∀ {k v : Nat}, v < k → C v ≤ mst C k
  | 0, v, h => by omega
  | k + 1, v, h => by
    rw [mst]
    by_cases e : v = k
    · subst e; split <;> omega
    · have := mst_ge C (k := k) (v := v) (by omega)
      split <;> omega
theorem mst_le {C : Nat → Int} {B : Int} (hB : 0 ≤ B) : ∀ {k : Nat}, (∀ v, v < k → C v ≤ B) → mst C k ≤ B
  | 0, _ => hB
  | k + 1, h => by
    have := mst_le hB (k := k) fun v hv => h v (by omega)
    have := h k (by omega)
    rw [mst]; split <;> omega
theorem mst_congr {C C' : Nat → Int} : ∀ {k : Nat}, (∀ v, v < k → C v = C' v) → mst C k = mst C' k
  | 0, _ => rfl
  | k + 1, h => by rw [mst, mst, mst_congr (k := k) fun v hv => h v (by omega), h k (by omega)]
def pot (n : Nat) (C : Nat → Int) (v : Nat) : Int := if C v < 0 then mst C n else C v
section
variable {n m s : Nat} {E : Tab} {C D C' D' : Nat → Int}
theorem Lab.cb (O : Ok n m E) (h : Lab n m E s C D) {v : Nat} (hv : v < n) : -1 ≤ C v ∧ C v ≤ 562949953421312 ∧ (0 ≤ C v → 0 ≤ D v ∧ D v < n) := by
  have := O.n2
  rcases h.rng v hv with q | q
  · omega
  · refine ⟨by omega, by omega, by omega⟩
theorem Lab.mb (O : Ok n m E) (h : Lab n m E s C D) {k : Nat} (hk : k ≤ n) : 0 ≤ mst C k ∧ mst C k ≤ 562949953421312 :=
  ⟨mst_nn C k, mst_le (by omega) fun v hv => (h.cb O (show v < n by omega)).2.1⟩
theorem Lab.potb (O : Ok n m E) (h : Lab n m E s C D) {v : Nat} (hv : v < n) : 0 ≤ pot n C v ∧ pot n C v ≤ 562949953421312 := by
  have := h.mb O (Nat.le_refl n)
  have := h.cb O hv
  unfold pot
  split <;> omega
theorem Lab.pv (O : Ok n m E) (h : Lab n m E s C D) : ∀ i, i < m → pot n C (E i 1).toNat - pot n C (E i 0).toNat ≤ E i 2 := by
  intro i hi
  have he := O.e i hi
  have hf : fr E i < n := by unfold fr; have := he.f0; have := he.f1; omega
  have ht : to E i < n := by unfold to; have := he.t0; have := he.t1; omega
  show pot n C (to E i) - pot n C (fr E i) ≤ E i 2
  have hc := he.c0
  have hb := h.potb O ht
  by_cases q : 0 ≤ C (fr E i)
  · obtain ⟨g1, g2⟩ := h.tri i hi q
    unfold pot
    rw [if_neg (by omega), if_neg (by omega)]
    unfold le2 at g2
    omega
  · have h1 : pot n C (fr E i) = mst C n := by unfold pot; rw [if_pos (by omega)]
    have h2 : pot n C (to E i) ≤ mst C n := by
      unfold pot
      split
      · omega
      · exact mst_ge C ht
    omega
end
end Ce
end Go.Proofs.Ytbmfkncfenkjoaa
