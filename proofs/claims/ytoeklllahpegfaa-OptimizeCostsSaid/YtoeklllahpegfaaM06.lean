/-
  Words and contracts, put together: Plain3, Inv, Inv2, L0, L1, L1p.
-/
import Derived.Test.YtoeklllahpegfaaM01
import Derived.Test.YtoeklllahpegfaaM02
import Derived.OwnWalk
import Derived.Deep.LoopGhost
/-
  Plain: two ways to the labels, node by node and edge by edge, keep what makes them the least ones; no program in sight.
-/
namespace Go.Proofs.Ytoeklllahpegfaa
set_option linter.unusedVariables false
set_option linter.unusedSimpArgs false
namespace Ce
/-! How many of the first n -/
def cnt (p : Nat → Bool) : Nat → Nat
  | 0 => 0
  | k + 1 => cnt p k + if p k = true then 1 else 0
theorem cnt_le (p : Nat → Bool) : ∀ n, cnt p n ≤ n
  | 0 => Nat.le_refl _
  | k + 1 => by have := cnt_le p k; rw [cnt]; split <;> omega
theorem cnt_mono {p q : Nat → Bool} : ∀ {n : Nat}, (∀ i, i < n → p i = true → q i = true) → cnt p n ≤ cnt q n
  | 0, _ => Nat.le_refl _
  | k + 1, h => by
    have := cnt_mono (n := k) fun i hi => h i (by omega)
    have := h k (by omega)
    rw [cnt, cnt]
    by_cases e : p k = true
    · rw [if_pos e, if_pos (this e)]; omega
    · rw [if_neg e]; omega
theorem cnt_lt {p q : Nat → Bool} {v : Nat} : ∀ {n : Nat}, (∀ i, i < n → p i = true → q i = true) → v < n → p v = false → q v = true → cnt p n + 1 ≤ cnt q n
  | 0, _, hv, _, _ => by omega
  | k + 1, h, hv, h1, h2 => by
    rw [cnt, cnt]
    by_cases e : v = k
    · subst e
      have := cnt_mono (n := v) fun i hi => h i (by omega)
      rw [if_pos h2, if_neg (by rw [h1]; decide)]; omega
    · have := cnt_lt (n := k) (fun i hi => h i (by omega)) (by omega) h1 h2
      have := h k (by omega)
      by_cases e : p k = true
      · rw [if_pos e, if_pos (this e)]; omega
      · rw [if_neg e]; omega
theorem cnt_add {p q : Nat → Bool} {v : Nat} : ∀ {n : Nat}, (∀ i, i < n → i ≠ v → q i = p i) → v < n → p v = false → q v = true → cnt q n = cnt p n + 1
  | 0, _, hv, _, _ => by omega
  | k + 1, h, hv, h1, h2 => by
    rw [cnt, cnt]
    by_cases e : v = k
    · subst e
      have : cnt q v = cnt p v := Nat.le_antisymm (cnt_mono fun i hi q => by rw [← h i (by omega) (by omega)]; exact q) (cnt_mono fun i hi q => by rw [h i (by omega) (by omega)]; exact q)
      rw [if_pos h2, if_neg (by rw [h1]; decide)]; omega
    · have := cnt_add (n := k) (fun i hi => h i (by omega)) (by omega) h1 h2
      rw [h k (by omega) (fun q => e q.symm)]; omega
theorem cnt_out {p : Nat → Bool} {v n : Nat} (hv : v < n) (h : p v = false) : cnt p n + 1 ≤ n := by
  have h1 := cnt_lt (p := p) (q := fun _ => true) (n := n) (fun _ _ _ => rfl) hv h rfl
  have := cnt_le (fun _ => true) n
  omega
/-! Node by node -/
/-- One number of a table is put in another's place. -/
def up (C : Nat → Int) (v : Nat) (x : Int) : Nat → Int := fun i => if i = v then x else C i
def upb (F : Nat → Bool) (v : Nat) : Nat → Bool := fun i => if i = v then true else F i
theorem up_at (C : Nat → Int) (v : Nat) (x : Int) : up C v x v = x := if_pos rfl
theorem up_ne {C : Nat → Int} {v i : Nat} {x : Int} (h : i ≠ v) : up C v x i = C i := if_neg h
theorem upb_at (F : Nat → Bool) (v : Nat) : upb F v v = true := if_pos rfl
theorem upb_ne {F : Nat → Bool} {v i : Nat} (h : i ≠ v) : upb F v i = F i := if_neg h
theorem upb_keep {F : Nat → Bool} {v i : Nat} (h : F i = true) : upb F v i = true := by unfold upb; split <;> simp_all
theorem upb_no {F : Nat → Bool} {v i : Nat} (h : upb F v i = false) : i ≠ v ∧ F i = false := by
  unfold upb at h; split at h
  · cases h
  · exact ⟨‹_›, h⟩
structure Dk (n m : Nat) (E : Tab) (s : Nat) (C D : Nat → Int) (F : Nat → Bool) (k : Nat) : Prop where
  c0 : C s = 0
  d0 : D s = 0
  fc : cnt F n = k
  rng : ∀ v, v < n → (C v = -1 ∧ F v = false) ∨ (0 ≤ C v ∧ 0 ≤ D v ∧ C v ≤ D v * 1099511627776 ∧ D v ≤ k ∧ (F v = true → D v + 1 ≤ k))
  tri : ∀ i, i < m → F (fr E i) = true → 0 ≤ C (to E i) ∧ le2 (C (to E i)) (D (to E i)) (C (fr E i) + E i 2) (D (fr E i) + 1)
  pre : ∀ v, v < n → 0 ≤ C v → v ≠ s → ∃ i, i < m ∧ to E i = v ∧ F (fr E i) = true ∧ C (fr E i) + E i 2 = C v ∧ D (fr E i) + 1 = D v
  mono : ∀ u v, u < n → v < n → F u = true → F v = false → 0 ≤ C v → le2 (C u) (D u) (C v) (D v)
/-- While the edges that leave node a are gone through: those of X are done. -/
structure Dx (n m : Nat) (E : Tab) (s : Nat) (C D : Nat → Int) (F : Nat → Bool) (k a : Nat) (X : Nat → Prop) : Prop where
  c0 : C s = 0
  d0 : D s = 0
  fc : cnt F n = k
  rng : ∀ v, v < n → (C v = -1 ∧ F v = false) ∨ (0 ≤ C v ∧ 0 ≤ D v ∧ C v ≤ D v * 1099511627776 ∧ D v ≤ k ∧ (F v = true → D v + 1 ≤ k))
  tri : ∀ i, i < m → F (fr E i) = true → (fr E i = a → X i) → 0 ≤ C (to E i) ∧ le2 (C (to E i)) (D (to E i)) (C (fr E i) + E i 2) (D (fr E i) + 1)
  pre : ∀ v, v < n → 0 ≤ C v → v ≠ s → ∃ i, i < m ∧ to E i = v ∧ F (fr E i) = true ∧ C (fr E i) + E i 2 = C v ∧ D (fr E i) + 1 = D v
  mono : ∀ u v, u < n → v < n → F u = true → F v = false → 0 ≤ C v → le2 (C u) (D u) (C v) (D v)
  fa : F a = true
  am : ∀ u, u < n → F u = true → le2 (C u) (D u) (C a) (D a)
section
variable {n m s : Nat} {E : Tab} {C D : Nat → Int} {F : Nat → Bool} {k a : Nat}
theorem cnt_none (n : Nat) : cnt (fun _ => false) n = 0 := by
  induction n with
  | zero => rfl
  | succ n ih => rw [cnt, ih]; rfl
theorem Dk.start (n m : Nat) (E : Tab) (s : Nat) : Dk n m E s (up (fun _ => -1) s 0) (fun _ => 0) (fun _ => false) 0 where
  c0 := up_at _ _ _
  d0 := rfl
  fc := cnt_none n
  rng v hv := by
    by_cases e : v = s
    · subst e; rw [up_at]; right; exact ⟨by omega, by omega, by omega, by omega, fun h => by cases h⟩
    · rw [up_ne e]; left; exact ⟨rfl, rfl⟩
  tri i hi h := by cases h
  pre v hv h hne := by rw [up_ne hne] at h; omega
  mono u v hu hv h := by cases h
theorem Dk.done (h : Dk n m E s C D F k) (hn : ∀ v, v < n → F v = true ∨ C v < 0) (hu : ∀ i, i < m → fr E i < n) : Lab n m E s C D where
  c0 := h.c0
  d0 := h.d0
  rng v hv := by
    have := cnt_le F n
    rw [h.fc] at this
    rcases h.rng v hv with q | ⟨q1, q2, q3, q4, q5⟩
    · exact .inl q.1
    · rcases hn v hv with f | f
      · exact .inr ⟨q1, q2, q3, by have := q5 f; omega⟩
      · omega
  tri i hi hc := by
    rcases hn _ (hu i hi) with f | f
    · exact h.tri i hi f
    · omega
  pre v hv hc hne := by
    obtain ⟨i, hi, ht, hf, e1, e2⟩ := h.pre v hv hc hne
    refine ⟨i, hi, ht, ?_, e1, e2⟩
    rcases h.rng _ (hu i hi) with q | q
    · rw [hf] at q; exact absurd q.2 (by decide)
    · exact q.1
/-- The nearest node that is not done is taken. -/
theorem Dk.take (h : Dk n m E s C D F k) (ha : a < n) (hf : F a = false) (hc : 0 ≤ C a) (hmin : ∀ v, v < n → F v = false → 0 ≤ C v → le2 (C a) (D a) (C v) (D v)) : Dx n m E s C D (upb F a) (k + 1) a (fun _ => False) where
  c0 := h.c0
  d0 := h.d0
  fc := by rw [cnt_add (p := F) (v := a) (fun i _ hi => upb_ne hi) ha hf (upb_at _ _), h.fc]
  rng v hv := by
    rcases h.rng v hv with q | ⟨q1, q2, q3, q4, q5⟩
    · left
      refine ⟨q.1, ?_⟩
      rw [upb_ne (by intro e; subst e; omega)]
      exact q.2
    · right; exact ⟨q1, q2, q3, by omega, fun _ => by omega⟩
  tri i hi hf' hx := by
    by_cases e : fr E i = a
    · exact (hx e).elim
    · rw [upb_ne e] at hf'; exact h.tri i hi hf'
  pre v hv hc' hne := by
    obtain ⟨i, hi, ht, hf', e1, e2⟩ := h.pre v hv hc' hne
    exact ⟨i, hi, ht, upb_keep hf', e1, e2⟩
  mono u v hu hv hfu hfv hcv := by
    obtain ⟨hva, hfw⟩ := upb_no hfv
    by_cases e : u = a
    · subst e; exact hmin v hv hfw hcv
    · rw [upb_ne e] at hfu; exact h.mono u v hu hv hfu hfw hcv
  fa := upb_at _ _
  am u hu hfu := by
    by_cases e : u = a
    · subst e; exact le2_refl _ _
    · rw [upb_ne e] at hfu; exact h.mono u a hu ha hfu hf hc
theorem Dx.all {X : Nat → Prop} (h : Dx n m E s C D F k a X) (hx : ∀ i, i < m → fr E i = a → X i) : Dk n m E s C D F k :=
  ⟨h.c0, h.d0, h.fc, h.rng, fun i hi hf => h.tri i hi hf (hx i hi), h.pre, h.mono⟩
theorem Dx.congr {X Y : Nat → Prop} (h : Dx n m E s C D F k a X) (hx : ∀ i, Y i → X i) : Dx n m E s C D F k a Y :=
  ⟨h.c0, h.d0, h.fc, h.rng, fun i hi hf hy => h.tri i hi hf fun e => hx i (hy e), h.pre, h.mono, h.fa, h.am⟩
theorem Dx.ca {X : Nat → Prop} (h : Dx n m E s C D F k a X) (ha : a < n) : 0 ≤ C a ∧ 0 ≤ D a ∧ C a ≤ D a * 1099511627776 ∧ D a + 1 ≤ k := by
  rcases h.rng a ha with q | ⟨q1, q2, q3, q4, q5⟩
  · rw [h.fa] at q; exact absurd q.2 (by decide)
  · exact ⟨q1, q2, q3, q5 h.fa⟩
/-- An edge to a node that is done. -/
theorem Dx.past {X : Nat → Prop} (h : Dx n m E s C D F k a X) {i : Nat} (hc0 : 0 ≤ E i 2) (hu : fr E i = a) (ht : to E i < n) (hf : F (to E i) = true) : Dx n m E s C D F k a (fun j => X j ∨ j = i) where
  c0 := h.c0
  d0 := h.d0
  fc := h.fc
  rng := h.rng
  tri j hj hfj hx := by
    by_cases e : j = i
    · subst e
      have h1 := h.am _ ht hf
      rcases h.rng _ ht with q | q
      · rw [hf] at q; exact absurd q.2 (by decide)
      · rw [hu]; refine ⟨q.1, ?_⟩
        unfold le2 at h1 ⊢
        omega
    · exact h.tri j hj hfj fun q => (hx q).resolve_right e
  pre := h.pre
  mono := h.mono
  fa := h.fa
  am := h.am
/-- An edge to a node with a label that is as good. -/
theorem Dx.stay {X : Nat → Prop} (h : Dx n m E s C D F k a X) {i : Nat} (hu : fr E i = a) (hc : 0 ≤ C (to E i)) (hle : le2 (C (to E i)) (D (to E i)) (C a + E i 2) (D a + 1)) : Dx n m E s C D F k a (fun j => X j ∨ j = i) where
  c0 := h.c0
  d0 := h.d0
  fc := h.fc
  rng := h.rng
  tri j hj hfj hx := by
    by_cases e : j = i
    · subst e; rw [hu]; exact ⟨hc, hle⟩
    · exact h.tri j hj hfj fun q => (hx q).resolve_right e
  pre := h.pre
  mono := h.mono
  fa := h.fa
  am := h.am
/-- An edge to a node whose label gets better. -/
theorem Dx.lower {X : Nat → Prop} (h : Dx n m E s C D F k a X) (ha : a < n) {i : Nat} (him : i < m) (hc0 : 0 ≤ E i 2) (hc1 : E i 2 ≤ 1099511627776) (hu : fr E i = a) (ht : to E i < n) (hf : F (to E i) = false)
    (hb : C (to E i) < 0 ∨ lt2 (C a + E i 2) (D a + 1) (C (to E i)) (D (to E i))) : Dx n m E s (up C (to E i) (C a + E i 2)) (up D (to E i) (D a + 1)) F k a (fun j => X j ∨ j = i) := by
  have qa := h.ca ha
  have hta : to E i ≠ a := by intro e; rw [e, h.fa] at hf; cases hf
  have hts : to E i ≠ s := by
    intro e
    rw [e, h.c0, h.d0] at hb
    unfold lt2 at hb
    omega
  have hF : ∀ {u : Nat}, F u = true → u ≠ to E i := by intro u hu e; rw [e, hf] at hu; cases hu
  refine ⟨?_, ?_, h.fc, ?_, ?_, ?_, ?_, h.fa, ?_⟩
  · rw [up_ne (Ne.symm hts)]; exact h.c0
  · rw [up_ne (Ne.symm hts)]; exact h.d0
  · intro v hv
    by_cases e : v = to E i
    · subst e
      rw [up_at, up_at]
      right
      exact ⟨by omega, by omega, by omega, by omega, fun q => by rw [hf] at q; cases q⟩
    · rw [up_ne e, up_ne e]; exact h.rng v hv
  · intro j hj hfj hx
    rw [up_ne (hF hfj), up_ne (hF hfj)]
    by_cases e : j = i
    · subst e
      rw [up_at, up_at, hu]
      exact ⟨by omega, le2_refl _ _⟩
    · obtain ⟨g1, g2⟩ := h.tri j hj hfj fun q => (hx q).resolve_right e
      by_cases e2 : to E j = to E i
      · rw [e2, up_at, up_at]
        rw [e2] at g1 g2
        refine ⟨by omega, ?_⟩
        unfold lt2 at hb; unfold le2 at g2 ⊢
        omega
      · rw [up_ne e2, up_ne e2]; exact ⟨g1, g2⟩
  · intro v hv hc hne
    by_cases e : v = to E i
    · subst e
      refine ⟨i, him, rfl, by rw [hu]; exact h.fa, ?_, ?_⟩
      · rw [hu, up_at, up_ne (Ne.symm hta)]
      · rw [hu, up_at, up_ne (Ne.symm hta)]
    · rw [up_ne e] at hc
      obtain ⟨j, hj, htj, hfj, e1, e2⟩ := h.pre v hv hc hne
      refine ⟨j, hj, htj, hfj, ?_, ?_⟩
      · rw [up_ne (hF hfj), up_ne e]; exact e1
      · rw [up_ne (hF hfj), up_ne e]; exact e2
  · intro u v hu' hv hfu hfv hcv
    rw [up_ne (hF hfu), up_ne (hF hfu)]
    by_cases e : v = to E i
    · subst e
      rw [up_at, up_at]
      have := h.am u hu' hfu
      unfold le2 at this ⊢
      omega
    · rw [up_ne e] at hcv ⊢
      rw [up_ne e]
      exact h.mono u v hu' hv hfu hfv hcv
  · intro u hu' hfu
    rw [up_ne (hF hfu), up_ne (hF hfu), up_ne (Ne.symm hta), up_ne (Ne.symm hta)]
    exact h.am u hu' hfu
theorem Dk.k_lt (h : Dk n m E s C D F k) (ha : a < n) (hf : F a = false) : k + 1 ≤ n := by
  have := cnt_out (p := F) ha hf
  rw [h.fc] at this; exact this
/-- The bounds of all labels. -/
theorem Dk.cb (h : Dk n m E s C D F k) (hn : n ≤ 512) {v : Nat} (hv : v < n) : -1 ≤ C v ∧ C v ≤ 562949953421312 ∧ (0 ≤ C v → 0 ≤ D v ∧ D v ≤ 512) := by
  have := cnt_le F n
  rw [h.fc] at this
  rcases h.rng v hv with q | q <;> omega
theorem Dx.cb {X : Nat → Prop} (h : Dx n m E s C D F k a X) (hn : n ≤ 512) {v : Nat} (hv : v < n) : -1 ≤ C v ∧ C v ≤ 562949953421312 ∧ (0 ≤ C v → 0 ≤ D v ∧ D v ≤ 512) := by
  have := cnt_le F n
  rw [h.fc] at this
  rcases h.rng v hv with q | q <;> omega
end
/-- The edges that leave each node: ln a of them, their indices ix a. -/
structure Lv (E : Tab) (k : Nat) (ln : Nat → Nat) (ix : Nat → Nat → Nat) : Prop where
  s : ∀ a q, q < ln a → ix a q < k ∧ fr E (ix a q) = a
  c : ∀ i, i < k → ∃ q, q < ln (fr E i) ∧ ix (fr E i) q = i
  b : ∀ a, ln a ≤ k
theorem Lv.start (E : Tab) : Lv E 0 (fun _ => 0) (fun _ _ => 0) := ⟨fun a q h => by omega, fun i h => by omega, fun a => Nat.le_refl _⟩
def upn (f : Nat → Nat) (v x : Nat) : Nat → Nat := fun i => if i = v then x else f i
def upx (f : Nat → Nat → Nat) (v q x : Nat) : Nat → Nat → Nat := fun i j => if i = v ∧ j = q then x else f i j
theorem Lv.next {E : Tab} {k : Nat} {ln : Nat → Nat} {ix : Nat → Nat → Nat} (h : Lv E k ln ix) : Lv E (k + 1) (upn ln (fr E k) (ln (fr E k) + 1)) (upx ix (fr E k) (ln (fr E k)) k) where
  s a q hq := by
    unfold upn at hq; unfold upx
    by_cases e : a = fr E k
    · subst e
      rw [if_pos rfl] at hq
      by_cases e2 : q = ln (fr E k)
      · rw [if_pos ⟨rfl, e2⟩]; exact ⟨by omega, rfl⟩
      · rw [if_neg (fun z => e2 z.2)]
        have := h.s (fr E k) q (by omega)
        exact ⟨by omega, this.2⟩
    · rw [if_neg e] at hq
      rw [if_neg (fun z => e z.1)]
      have := h.s a q hq
      exact ⟨by omega, this.2⟩
  c i hi := by
    by_cases e : i = k
    · subst e
      exact ⟨ln (fr E i), by unfold upn; rw [if_pos rfl]; omega, by unfold upx; rw [if_pos ⟨rfl, rfl⟩]⟩
    · obtain ⟨q, hq, hx⟩ := h.c i (by omega)
      refine ⟨q, ?_, ?_⟩
      · unfold upn; split
        · rename_i e2; rw [← e2]; omega
        · exact hq
      · unfold upx
        rw [if_neg]
        · exact hx
        · rintro ⟨e2, e3⟩
          rw [← e2] at e3
          omega
  b a := by
    have h1 := h.b a
    have h2 := h.b (fr E k)
    unfold upn; split <;> omega
/-! Edge by edge; 2^62 stands for no route -/
instance (a b c d : Int) : Decidable (lt2 a b c d) := by unfold lt2; infer_instance
def ltb (C D : Nat → Int) (v x : Nat) : Bool := decide (lt2 (C x) (D x) (C v) (D v))
structure Bf (n m : Nat) (E : Tab) (s : Nat) (C D : Nat → Int) : Prop where
  c0 : C s = 0
  d0 : D s = 0
  rng : ∀ v, v < n → (C v = 4611686018427387904 ∧ D v = 4611686018427387904) ∨ (0 ≤ C v ∧ 0 ≤ D v ∧ C v ≤ D v * 1099511627776 ∧ D v ≤ cnt (ltb C D v) n)
  pre : ∀ v, v < n → C v ≠ 4611686018427387904 → v ≠ s → ∃ i, i < m ∧ to E i = v ∧ C (fr E i) ≠ 4611686018427387904 ∧ le2 (C (fr E i) + E i 2) (D (fr E i) + 1) (C v) (D v)
section
variable {n m s : Nat} {E : Tab} {C D : Nat → Int}
theorem lt2_irr (a b : Int) : ¬ lt2 a b a b := by unfold lt2; omega
theorem Bf.start (n m : Nat) (E : Tab) (s : Nat) : Bf n m E s (up (fun _ => 4611686018427387904) s 0) (up (fun _ => 4611686018427387904) s 0) where
  c0 := up_at _ _ _
  d0 := up_at _ _ _
  rng v hv := by
    by_cases e : v = s
    · subst e; rw [up_at]; right; exact ⟨by omega, by omega, by omega, by omega⟩
    · rw [up_ne e]; left; exact ⟨rfl, rfl⟩
  pre v hv h hne := by rw [up_ne hne] at h; exact absurd rfl h
theorem Bf.cb (h : Bf n m E s C D) {v : Nat} (hv : v < n) (hc : C v ≠ 4611686018427387904) : 0 ≤ C v ∧ 0 ≤ D v ∧ C v ≤ D v * 1099511627776 ∧ D v + 1 ≤ n := by
  rcases h.rng v hv with q | ⟨q1, q2, q3, q4⟩
  · exact absurd q.1 hc
  · have := cnt_out (p := ltb C D v) hv (decide_eq_false (lt2_irr _ _))
    exact ⟨q1, q2, q3, by omega⟩
/-- All labels' bounds. -/
theorem Bf.ab (h : Bf n m E s C D) (hn : n ≤ 512) {v : Nat} (hv : v < n) : 0 ≤ C v ∧ C v ≤ 4611686018427387904 ∧ 0 ≤ D v ∧ D v ≤ 4611686018427387904 ∧ (C v ≠ 4611686018427387904 → C v ≤ 562949953421312 ∧ D v < 512) := by
  by_cases q : C v = 4611686018427387904
  · rcases h.rng v hv with q2 | q2
    · omega
    · have := cnt_le (ltb C D v) n
      omega
  · have := h.cb hv q
    omega
/-- A label gets better. -/
theorem Bf.lower (h : Bf n m E s C D) (hn : n ≤ 512) {i : Nat} (him : i < m) (hc0 : 0 ≤ E i 2) (hc1 : E i 2 ≤ 1099511627776) (hu : fr E i < n) (ht : to E i < n) (hf : C (fr E i) ≠ 4611686018427387904)
    (hb : lt2 (C (fr E i) + E i 2) (D (fr E i) + 1) (C (to E i)) (D (to E i))) : Bf n m E s (up C (to E i) (C (fr E i) + E i 2)) (up D (to E i) (D (fr E i) + 1)) := by
  have qa := h.cb hu hf
  have hta : fr E i ≠ to E i := by intro e; rw [e] at hb; unfold lt2 at hb; omega
  have hts : to E i ≠ s := by
    intro e
    rw [e, h.c0, h.d0] at hb
    unfold lt2 at hb
    omega
  refine ⟨?_, ?_, ?_, ?_⟩
  · rw [up_ne (Ne.symm hts)]; exact h.c0
  · rw [up_ne (Ne.symm hts)]; exact h.d0
  · intro v hv
    by_cases e : v = to E i
    · subst e
      right
      rw [up_at, up_at]
      refine ⟨by omega, by omega, by omega, ?_⟩
      rcases h.rng _ hu with q | q
      · exact absurd q.1 hf
      · have h1 : cnt (ltb C D (fr E i)) n + 1 ≤ cnt (ltb (up C (to E i) (C (fr E i) + E i 2)) (up D (to E i) (D (fr E i) + 1)) (to E i)) n := by
          refine cnt_lt (v := fr E i) (fun x hx hp => ?_) hu (decide_eq_false (lt2_irr _ _)) ?_
          · unfold ltb at hp ⊢
            rw [decide_eq_true_iff] at hp ⊢
            have hx' : x ≠ to E i := by
              intro e; subst e
              unfold lt2 at hb hp; omega
            rw [up_at, up_at, up_ne hx', up_ne hx']
            unfold lt2 at hp ⊢; omega
          · unfold ltb
            rw [decide_eq_true_iff, up_at, up_at, up_ne hta, up_ne hta]
            unfold lt2; omega
        omega
    · rw [up_ne e, up_ne e]
      rcases h.rng v hv with q | ⟨q1, q2, q3, q4⟩
      · exact .inl q
      · refine .inr ⟨q1, q2, q3, ?_⟩
        have h1 : cnt (ltb C D v) n ≤ cnt (ltb (up C (to E i) (C (fr E i) + E i 2)) (up D (to E i) (D (fr E i) + 1)) v) n := by
          refine cnt_mono fun x hx hp => ?_
          unfold ltb at hp ⊢
          rw [decide_eq_true_iff] at hp ⊢
          rw [up_ne e, up_ne e]
          by_cases e2 : x = to E i
          · subst e2
            rw [up_at, up_at]
            unfold lt2 at hb hp ⊢; omega
          · rw [up_ne e2, up_ne e2]; exact hp
        omega
  · intro v hv hc hne
    by_cases e : v = to E i
    · subst e
      refine ⟨i, him, rfl, ?_, ?_⟩
      · rw [up_ne hta]; exact hf
      · rw [up_at, up_at, up_ne hta, up_ne hta]; exact le2_refl _ _
    · rw [up_ne e] at hc
      obtain ⟨j, hj, htj, hcj, hle⟩ := h.pre v hv hc hne
      refine ⟨j, hj, htj, ?_, ?_⟩
      · by_cases e2 : fr E j = to E i
        · rw [e2, up_at]; omega
        · rw [up_ne e2]; exact hcj
      · rw [up_ne e, up_ne e]
        by_cases e2 : fr E j = to E i
        · rw [e2, up_at, up_at]
          rw [e2] at hle
          unfold le2 at hle ⊢; unfold lt2 at hb
          omega
        · rw [up_ne e2, up_ne e2]; exact hle
/-- What every better label lowers. -/
def mu (C D : Nat → Int) (n : Nat) : Int := sm (fun v => C v * 1024 + D v) n
theorem sm_up {f g : Nat → Int} {v : Nat} : ∀ {n : Nat}, (∀ i, i < n → i ≠ v → g i = f i) → v < n → sm g n = sm f n + (g v - f v)
  | 0, _, hv => by omega
  | k + 1, h, hv => by
    rw [sm, sm]
    by_cases e : v = k
    · subst e
      have : ∀ {k : Nat}, (∀ i, i < k → g i = f i) → sm g k = sm f k := by
        intro k
        induction k with
        | zero => intro _; rfl
        | succ k ih => intro h; rw [sm, sm, ih fun i hi => h i (by omega), h k (by omega)]
      rw [this fun i hi => h i (by omega) (by omega)]; omega
    · rw [sm_up (n := k) (fun i hi => h i (by omega)) (by omega), h k (by omega) (fun q => e q.symm)]; omega
theorem sm_nn {f : Nat → Int} : ∀ {n : Nat}, (∀ i, i < n → 0 ≤ f i) → 0 ≤ sm f n
  | 0, _ => by simp [sm]
  | n + 1, h => by rw [sm]; have := sm_nn (f := f) (n := n) (fun i hi => h i (by omega)); have := h n (by omega); omega
theorem Bf.mu_nn (h : Bf n m E s C D) (hn : n ≤ 512) : 0 ≤ mu C D n :=
  sm_nn fun v hv => by have := h.ab hn hv; omega
theorem Bf.mu_lt (h : Bf n m E s C D) (hn : n ≤ 512) {i : Nat} (hc0 : 0 ≤ E i 2) (hc1 : E i 2 ≤ 1099511627776) (hu : fr E i < n) (ht : to E i < n) (hf : C (fr E i) ≠ 4611686018427387904)
    (hb : lt2 (C (fr E i) + E i 2) (D (fr E i) + 1) (C (to E i)) (D (to E i))) : mu (up C (to E i) (C (fr E i) + E i 2)) (up D (to E i) (D (fr E i) + 1)) n < mu C D n := by
  unfold mu
  rw [sm_up (f := fun v => C v * 1024 + D v) (v := to E i) (fun j _ hj => by simp only [up_ne hj]) ht]
  simp only [up_at]
  have h1 := h.cb hu hf
  have h2 := h.ab hn ht
  unfold lt2 at hb
  by_cases q : C (to E i) = 4611686018427387904
  · omega
  · have := h2.2.2.2.2 q
    omega
/-- Once no edge betters a label, the labels are the least ones. -/
def fin (C : Nat → Int) (v : Nat) : Int := if C v = 4611686018427387904 then -1 else C v
theorem Bf.done (h : Bf n m E s C D) (hu : ∀ i, i < m → fr E i < n) (ht : ∀ i, i < m → to E i < n) (hs : ∀ i, i < m → C (fr E i) ≠ 4611686018427387904 → ¬ lt2 (C (fr E i) + E i 2) (D (fr E i) + 1) (C (to E i)) (D (to E i))) (hn : n ≤ 512)
    (hc0 : ∀ i, i < m → 0 ≤ E i 2) (hc1 : ∀ i, i < m → E i 2 ≤ 1099511627776) : Lab n m E s (fin C) D where
  c0 := by unfold fin; rw [h.c0, if_neg (by omega)]
  d0 := h.d0
  rng v hv := by
    unfold fin
    by_cases q : C v = 4611686018427387904
    · rw [if_pos q]; exact .inl rfl
    · rw [if_neg q]; exact .inr (h.cb hv q)
  tri i hi hc := by
    have hf : C (fr E i) ≠ 4611686018427387904 := by
      intro q; unfold fin at hc; rw [if_pos q] at hc; omega
    have h1 := hs i hi hf
    have h2 := h.cb (hu i hi) hf
    have h3 := h.ab hn (ht i hi)
    have := hc1 i hi
    have ht' : C (to E i) ≠ 4611686018427387904 := by
      intro q; unfold lt2 at h1; omega
    unfold fin
    rw [if_neg hf, if_neg ht']
    refine ⟨h3.1, ?_⟩
    unfold lt2 at h1; unfold le2; omega
  pre v hv hc hne := by
    have hf : C v ≠ 4611686018427387904 := by
      intro q; unfold fin at hc; rw [if_pos q] at hc; omega
    obtain ⟨i, hi, e, hcu, hle⟩ := h.pre v hv hf hne
    refine ⟨i, hi, e, ?_, ?_⟩
    · unfold fin; rw [if_neg hcu]; exact (h.cb (hu i hi) hcu).1
    · have h1 := hs i hi hcu
      rw [e] at h1
      unfold fin
      rw [if_neg hcu, if_neg hf]
      unfold lt2 at h1; unfold le2 at hle
      omega
end
end Ce
end Go.Proofs.Ytoeklllahpegfaa
/-
  Regions that draw their order, by an invariant: one proof for each operation, not one for each order.
-/
namespace Go.Proofs.Ytoeklllahpegfaa
set_option linter.unusedVariables false
set_option linter.unusedSimpArgs false
open Go.RowKit

/-- The slots ds of a frame, filled by x. -/
def putAll (x : Nat → Value) : List Nat → Act → Act
  | [], a => a
  | d :: ds, a => putAll x ds (a.put (some d) (x d))
theorem putAll_tmps (x : Nat → Value) (ds : List Nat) : ∀ (a : Act), putAll x ds a = { a with tmps := (putAll x ds a).tmps } ∧ (putAll x ds a).tmps.size = a.tmps.size ∧
    ∀ t, (putAll x ds a).tmps[t]? = if t ∈ ds ∧ t < a.tmps.size then some (x t) else a.tmps[t]? := by
  induction ds with
  | nil => intro a; exact ⟨rfl, rfl, fun t => by simp [putAll]⟩
  | cons d ds ih =>
    intro a
    obtain ⟨h1, h2, h3⟩ := ih (a.put (some d) (x d))
    refine ⟨h1, by rw [putAll, h2]; simp [Act.put], fun t => ?_⟩
    rw [putAll, h3]
    simp only [Act.put, Array.size_setIfInBounds, List.mem_cons]
    by_cases ht : t ∈ ds ∧ t < a.tmps.size
    · rw [if_pos ht, if_pos ⟨.inr ht.1, ht.2⟩]
    · rw [if_neg ht]
      by_cases e : t = d
      · subst e
        by_cases hs : t < a.tmps.size
        · rw [if_pos ⟨.inl rfl, hs⟩]; simp [hs]
        · rw [if_neg (fun q => hs q.2)]; simp [hs]
      · rw [if_neg (fun q => ht ⟨q.1.resolve_left e, q.2⟩), Array.getElem?_setIfInBounds_ne (Ne.symm e)]
section
variable {P : Program} {ops : Array Oper} {Q : Exit → Act → World → Prop} {J : (Nat → Prop) → (Nat → Value) → (Nat → Nat) → World → Prop} {ds : List Nat} {a0 : Act}
/-- Operation i, wherever it comes up, keeps the invariant. -/
def StepOk (P : Program) (ops : Array Oper) (Q : Exit → Act → World → Prop) (J : (Nat → Prop) → (Nat → Value) → (Nat → Nat) → World → Prop) (ds : List Nat) (a0 : Act) (i : Nat) (o : Oper) : Prop :=
  ∀ (L : Nat → Prop) (x : Nat → Value) (G : Nat → Nat) (w : World) (K : Act → World → Prop), ¬ L i → (∀ e ∈ o.after, Region.binds .any e = true → L e.on) → J L x G w →
    (∀ a' G' w', putAll (fun t => a'.tmps.getD t undef) ds a0 = a' → J (fun j => j = i ∨ L j) (fun t => a'.tmps.getD t undef) G' w' → K a' w') →
    if Region.wanted o (yielded ops (putAll x ds a0).tmps) = true then Oper.wp P o (putAll x ds a0) w K Q else K ((putAll x ds a0).put o.dst undef) w
def StepsOk (P : Program) (ops : Array Oper) (Q : Exit → Act → World → Prop) (J : (Nat → Prop) → (Nat → Value) → (Nat → Nat) → World → Prop) (ds : List Nat) (a0 : Act) : Nat → List Oper → Prop
  | _, [] => True
  | i, o :: os => StepOk P ops Q J ds a0 i o ∧ StepsOk P ops Q J ds a0 (i + 1) os
theorem StepsOk.nil {i : Nat} : StepsOk P ops Q J ds a0 i [] := trivial
theorem StepsOk.cons {i : Nat} {o : Oper} {os : List Oper} (hg : o.guard = none)
    (h : ∀ (L : Nat → Prop) (x : Nat → Value) (G : Nat → Nat) (w : World) (K : Act → World → Prop) (Q : Exit → Act → World → Prop), ¬ L i → (∀ e ∈ o.after, Region.binds .any e = true → L e.on) → J L x G w →
      (∀ a' G' w', putAll (fun t => a'.tmps.getD t undef) ds a0 = a' → J (fun j => j = i ∨ L j) (fun t => a'.tmps.getD t undef) G' w' → K a' w') → Oper.wp P o (putAll x ds a0) w K Q)
    (t : StepsOk P ops Q J ds a0 (i + 1) os) : StepsOk P ops Q J ds a0 i (o :: os) :=
  ⟨fun L x G w K h1 h2 h3 h4 => by
    rw [if_pos (by unfold Region.wanted; rw [hg])]
    exact h L x G w K Q h1 h2 h3 h4, t⟩
theorem StepsOk.get : ∀ {os : List Oper} {i0 : Nat}, StepsOk P ops Q J ds a0 i0 os → ∀ k o, os[k]? = some o → StepOk P ops Q J ds a0 (i0 + k) o
  | [], _, _, k, o, h => by simp at h
  | o' :: os, i0, h, 0, o, e => by simp at e; subst e; exact h.1
  | o' :: os, i0, h, k + 1, o, e => by
    have := StepsOk.get h.2 k o (by simpa using e)
    rwa [show i0 + 1 + k = i0 + (k + 1) by omega] at this
/-- Every operation waits for earlier ones alone. -/
def dagB (ops : Array Oper) : Bool := (List.range ops.size).all fun i => match ops[i]? with
  | some o => o.after.toList.all fun e => !Region.binds .any e || decide (e.on < i)
  | none => true
theorem ready_nil_all {listed : Array Bool} (hd : dagB ops = true) (hz : listed.size = ops.size) (hr : Region.ready .any ops listed = []) : ∀ i, i < ops.size → listed.getD i false = true := by
  intro i
  induction i using Nat.strongRecOn with
  | _ i ih =>
    intro hi
    cases hl : listed.getD i false
    case true => rfl
    have ht : listed.getD i true = false := by
      have : i < listed.size := by omega
      simp [this] at hl ⊢; exact hl
    have hm : i ∈ Region.ready .any ops listed := by
      refine mem_ready.2 ⟨ht, ops[i], by simp [hi], fun e he hb => ?_⟩
      have h1 := List.all_eq_true.1 hd i (List.mem_range.2 hi)
      simp only [Array.getElem?_eq_getElem hi] at h1
      have h2 := List.all_eq_true.1 h1 e (Array.mem_toList_iff.2 he)
      rw [hb] at h2
      have h3 : e.on < i := by simpa using h2
      exact ih _ h3 (by omega)
    rw [hr] at hm
    cases hm
theorem wpAny_inv (hd : dagB ops = true) (steps : ∀ i o, ops[i]? = some o → StepOk P ops Q J ds a0 i o)
    (fin : ∀ L x G w, (∀ j, j < ops.size → L j) → J L x G w → Q .normal (putAll x ds a0) w) :
    ∀ (fuel : Nat) (listed : Array Bool) (x : Nat → Value) (G : Nat → Nat) (w : World), listed.size = ops.size → listed.toList.count false ≤ fuel → J (fun j => listed.getD j false = true) x G w →
      wpAny P .any ops Q fuel listed (putAll x ds a0) w := by
  intro fuel
  induction fuel with
  | zero =>
    intro listed x G w hz hc hJ
    have hr : Region.ready .any ops listed = [] := by
      refine List.eq_nil_iff_forall_not_mem.2 fun i hi => ?_
      have h1 := (mem_ready.1 hi).1
      have hm : false ∈ listed.toList := by
        rcases Nat.lt_or_ge i listed.size with h | h
        · have : listed[i] = false := by simpa [h] using h1
          rw [← this]; simp
        · simp [Array.getElem?_eq_none h] at h1
      have := List.count_pos_iff.2 hm
      omega
    exact ⟨hr, fin _ _ _ _ (fun j hj => ready_nil_all hd hz hr j hj) hJ⟩
  | succ fuel ih =>
    intro listed x G w hz hc hJ
    refine ⟨fun hr => fin _ _ _ _ (fun j hj => ready_nil_all hd hz hr j hj) hJ, fun i hi => ?_⟩
    obtain ⟨h0, o, ho, hall⟩ := mem_ready.1 hi
    have hlt : i < listed.size := by rw [hz]; exact (Array.getElem?_eq_some_iff.1 ho).1
    have hf : listed[i] = false := by simpa [hlt] using h0
    refine wpOp_step ho fun K hK => ?_
    refine steps i o ho _ x G w K (by simp [hlt, hf]) hall hJ fun a' G' w' he h => ?_
    rw [← he]
    refine hK _ _ ?_
    refine ih _ _ G' _ (by simp [hz]) ?_ ?_
    · have hcs : (listed.setIfInBounds i true).toList.count false + 1 = listed.toList.count false := by
        rw [Array.toList_setIfInBounds, List.count_set (by simpa using hlt)]
        have hp : 0 < listed.toList.count false := List.count_pos_iff.2 (by rw [← hf]; simp)
        have e1 : listed.toList[i]'(by simpa using hlt) = false := by rw [Array.getElem_toList]; exact hf
        rw [e1, if_pos (by rfl), if_neg (by decide)]
        omega
      omega
    · refine cast (congrArg (fun L => J L _ G' w') (funext fun j => ?_)) h
      by_cases e : j = i
      · subst e; simp [hlt]
      · rw [getD_set_ne false (Ne.symm e)]; simp [e]
theorem wp_region_inv {id : Nat} {w : World} (J : (Nat → Prop) → (Nat → Value) → (Nat → Nat) → World → Prop) (ds : List Nat) (n : Nat) (hm : P.follows .mixedOrders = true) (hd : dagB ops = true) (hn : ops.size = n)
    (h0 : J (fun _ => False) (fun t => a0.tmps.getD t undef) (fun _ => 0) w.drew)
    (steps : StepsOk P ops Q J ds a0 0 ops.toList)
    (fin : ∀ L x G w, (∀ j, j < n → L j) → J L x G w → Q .normal (putAll x ds a0) w) : (Code.region id ops true).wp P Q a0 w := by
  subst hn
  refine wp_region_any hm ?_
  have e : putAll (fun t => a0.tmps.getD t undef) ds a0 = a0 := by
    obtain ⟨h1, h2, h3⟩ := putAll_tmps (fun t => a0.tmps.getD t undef) ds a0
    rw [h1]
    have : (putAll (fun t => a0.tmps.getD t undef) ds a0).tmps = a0.tmps := by
      apply Array.ext_getElem?
      intro t
      rw [h3]
      split
      · rename_i h; simp [h.2]
      · rfl
    rw [this]
  have := wpAny_inv (Q := Q) (J := J) (ds := ds) (a0 := a0) hd
    (fun i o ho => by have := steps.get i o (by simpa using ho); simpa using this) fin ops.size (Array.replicate ops.size false) (fun t => a0.tmps.getD t undef) (fun _ => 0) w.drew (by simp) (by simp)
    (cast (congrArg (fun L => J L _ (fun _ => 0) w.drew) (funext fun j => by
      by_cases h : j < ops.size <;> simp [h])) h0)
  rw [e] at this
  exact this
end
end Go.Proofs.Ytoeklllahpegfaa
/-
  Regions that draw their order, by an invariant: operations behind a guard.
-/
namespace Go.Proofs.Ytoeklllahpegfaa
set_option linter.unusedVariables false
set_option linter.unusedSimpArgs false
open Go.RowKit
section
variable {P : Program} {ops : Array Oper} {Q : Exit → Act → World → Prop} {J : (Nat → Prop) → (Nat → Value) → (Nat → Nat) → World → Prop} {ds : List Nat} {a0 : Act}
/-- What a guard reads. -/
def gval (v : Value) : Option Bool := match v with
  | .bool b => some b
  | _ => none
theorem yielded_at {ops : Array Oper} {ds : List Nat} {a0 : Act} {x : Nat → Value} {j d : Nat} (hd : (ops[j]?).bind (·.dst) = some d) (hin : (decide (d ∈ ds) && decide (d < a0.tmps.size)) = true) : yielded ops (putAll x ds a0).tmps j = gval (x d) := by
  rw [Bool.and_eq_true, decide_eq_true_iff, decide_eq_true_iff] at hin
  unfold yielded gval
  rw [hd, Option.bind_some, (putAll_tmps x ds a0).2.2 d, if_pos hin]
  cases x d <;> rfl
/-- A guarded operation whose guard holds. -/
theorem StepsOk.consT {i : Nat} {o : Oper} {os : List Oper} (j d : Nat) (want : Bool) (hg : o.guard = some (j, want)) (hd : (ops[j]?).bind (·.dst) = some d) (hin : (decide (d ∈ ds) && decide (d < a0.tmps.size)) = true)
    (hj : ∀ (L : Nat → Prop) (x : Nat → Value) (G : Nat → Nat) (w : World), (∀ e ∈ o.after, Region.binds .any e = true → L e.on) → J L x G w → x d = .bool want)
    (h : ∀ (L : Nat → Prop) (x : Nat → Value) (G : Nat → Nat) (w : World) (K : Act → World → Prop) (Q : Exit → Act → World → Prop), ¬ L i → (∀ e ∈ o.after, Region.binds .any e = true → L e.on) → J L x G w →
      (∀ a' G' w', putAll (fun t => a'.tmps.getD t undef) ds a0 = a' → J (fun j => j = i ∨ L j) (fun t => a'.tmps.getD t undef) G' w' → K a' w') → Oper.wp P o (putAll x ds a0) w K Q)
    (t : StepsOk P ops Q J ds a0 (i + 1) os) : StepsOk P ops Q J ds a0 i (o :: os) :=
  ⟨fun L x G w K h1 h2 h3 h4 => by
    rw [if_pos (by unfold Region.wanted; rw [hg]; show (yielded ops (putAll x ds a0).tmps j == some want) = true; rw [yielded_at hd hin, hj L x G w h2 h3]; cases want <;> rfl)]
    exact h L x G w K Q h1 h2 h3 h4, t⟩
/-- A guarded operation that is passed over. -/
theorem StepsOk.consF {i : Nat} {o : Oper} {os : List Oper} (j d : Nat) (want : Bool) (v : Value) (hg : o.guard = some (j, want)) (hd : (ops[j]?).bind (·.dst) = some d) (hin : (decide (d ∈ ds) && decide (d < a0.tmps.size)) = true)
    (hv : (gval v == some want) = false)
    (hj : ∀ (L : Nat → Prop) (x : Nat → Value) (G : Nat → Nat) (w : World), (∀ e ∈ o.after, Region.binds .any e = true → L e.on) → J L x G w → x d = v)
    (h : ∀ (L : Nat → Prop) (x : Nat → Value) (G : Nat → Nat) (w : World) (K : Act → World → Prop), ¬ L i → (∀ e ∈ o.after, Region.binds .any e = true → L e.on) → J L x G w →
      (∀ a' G' w', putAll (fun t => a'.tmps.getD t undef) ds a0 = a' → J (fun j => j = i ∨ L j) (fun t => a'.tmps.getD t undef) G' w' → K a' w') → K ((putAll x ds a0).put o.dst undef) w)
    (t : StepsOk P ops Q J ds a0 (i + 1) os) : StepsOk P ops Q J ds a0 i (o :: os) :=
  ⟨fun L x G w K h1 h2 h3 h4 => by
    rw [if_neg (by unfold Region.wanted; rw [hg]; show ¬ (yielded ops (putAll x ds a0).tmps j == some want) = true; rw [yielded_at hd hin, hj L x G w h2 h3, hv]; decide)]
    exact h L x G w K h1 h2 h3 h4, t⟩
end
end Go.Proofs.Ytoeklllahpegfaa
/-
  Memory words for labels: the slice of labels, the slice of slices of edges.
-/
namespace Go.Proofs.Ytoeklllahpegfaa
set_option linter.unusedVariables false
set_option linter.unusedSimpArgs false
open Go.RowKit
theorem info_parts {P : Program} {e : TypeId} {z : Value} {s b : Nat} (h : (P.info? e).map (fun i => (i.zero, i.size, i.bytes)) = some (some z, s, b)) : ∃ i, P.info? e = some i ∧ i.zero = some z ∧ i.size = s ∧ i.bytes = b := by
  cases hi : P.info? e with
  | none => rw [hi] at h; cases h
  | some i =>
    rw [hi] at h
    simp only [Option.map_some, Option.some.injEq, Prod.mk.injEq] at h
    exact ⟨i, rfl, h.1, h.2.1, h.2.2⟩
/-- Labels, cell by cell. -/
def lv (C D : Nat → Int) (F : Nat → Bool) : Nat → Nat → Value := fun i j => if j = 0 then .int .i64 (C i) else if j = 1 then .int .i64 (D i) else .bool (F i)
theorem infoL : (Try.prog.info? 83).map (fun i => (i.zero, i.size, i.bytes)) = some (some (.agg #[.int .i64 0, .int .i64 0, .bool false]), 3, 24) := by kernel_rfl
theorem infoE : (Try.prog.info? 75).map (fun i => (i.zero, i.size, i.bytes)) = some (some (.agg #[.int .i64 0, .int .i64 0, .int .i64 0]), 3, 24) := by kernel_rfl
theorem infoV : (Try.prog.info? 39).map (fun i => (i.zero, i.size, i.bytes)) = some (some (.slice none 0 0), 1, 24) := by kernel_rfl
theorem infoI : (Try.prog.info? 3).map (fun i => (i.zero, i.size, i.bytes)) = some (some (.int .i64 0), 1, 8) := by kernel_rfl
theorem infoI6 : (Try.prog.info? 2).map (fun i => (i.zero, i.size, i.bytes)) = some (some (.int .i64 0), 1, 8) := by kernel_rfl
theorem mk_lab (n : Nat) (hn : n ≤ 512) : ∀ W : World, (Instr.makeSlice 80 (.int .i64 (n : Int)) (.int .i64 (n : Int))).run Try.prog W = .ok (.slice (some ⟨W.heap.size, 0, none⟩) n n) (W.alloc (.cells (madeCells #[.int .i64 0, .int .i64 0, .bool false] (n * 3)) 83)) := by
  obtain ⟨i0, hi, hz0, hz1, hz2⟩ := info_parts infoL
  exact fun W => run_make_n (P := Try.prog) Try.underlying80 hi hz0 hz1 hz2 n (by omega) (by omega) W
theorem own_lab (w : World) (base n : Nat) (hn : n ≤ 512) (hb : base ≤ w.heap.size) : Own (w.alloc (.cells (madeCells #[.int .i64 0, .int .i64 0, .bool false] (n * 3)) 83)) base 83 3 (some ⟨w.heap.size, 0, none⟩) n n (lv (fun _ => 0) (fun _ => 0) (fun _ => false)) :=
  Own.made (z := #[.int .i64 0, .int .i64 0, .bool false]) (q := 3) w 83 n rfl (by omega) (by omega) hb fun i j hi hj => by
    match j, hj with
    | 0, _ => rfl
    | 1, _ => rfl
    | 2, _ => rfl
theorem mk_rows (n : Nat) (hn : n ≤ 512) : ∀ W : World, (Instr.makeSlice 101 (.int .i64 (n : Int)) (.int .i64 (n : Int))).run Try.prog W = .ok (.slice (some ⟨W.heap.size, 0, none⟩) n n) (W.alloc (.cells (madeCells #[.slice none 0 0] n) 39)) := by
  obtain ⟨i0, hi, hz0, hz1, hz2⟩ := info_parts infoV
  intro W
  have h := run_make_n (P := Try.prog) Try.underlying101 hi hz0 hz1 hz2 n (by omega) (by omega) W
  rw [Nat.mul_one] at h
  exact h
theorem own_rows (w : World) (base n : Nat) (hn : n ≤ 512) (hb : base ≤ w.heap.size) : Own (w.alloc (.cells (madeCells #[.slice none 0 0] n) 39)) base 39 1 (some ⟨w.heap.size, 0, none⟩) n n (fun _ _ => .slice none 0 0) := by
  have h := Own.made (z := #[.slice none 0 0]) (q := 1) (V := fun _ _ => .slice none 0 0) w 39 n rfl (by omega) (by omega) hb fun i j hi hj => by
    obtain rfl : j = 0 := by omega
    rfl
  rw [Nat.mul_one] at h
  exact h
section
variable {w w' : World} {b n c g : Nat} {e : TypeId} {A : Option Addr} {C D : Nat → Int} {F : Nat → Bool}
theorem Own.base {q : Nat} {V : Nat → Nat → Value} (h : Own w b e q A n c V) (hg : ob A = some g) : b ≤ g := by
  obtain ⟨_, _, ⟨rfl, _⟩ | ⟨g', rfl, hb, _⟩⟩ := h.form
  · cases hg
  · have : g' = g := by simpa [ob] using hg
    omega
theorem Own.top {q : Nat} {V : Nat → Nat → Value} (h : Own w b e q A n c V) (hg : ob A = some g) : g < w.heap.size := by
  obtain ⟨_, _, ⟨rfl, _⟩ | ⟨g', rfl, _, hl⟩⟩ := h.form
  · cases hg
  · have : g' = g := by simpa [ob] using hg
    omega
theorem Own.apart {q : Nat} {V : Nat → Nat → Value} (h : Own w b e q A n c V) (hg : g < b) : ob A = none ∨ ob A ≠ some g := .inr fun z => by have := h.base z; omega
theorem Own.lt1 {q : Nat} {V : Nat → Nat → Value} (h : Own w b e q (some ⟨g, 0, none⟩) n c V) : g < w.heap.size := h.top rfl
theorem Own.lab (h : Own w b e 3 (some ⟨g, 0, none⟩) n c (lv C D F)) {i : Nat} (hi : i < n) :
    w.cell? ⟨g, i * 3, none⟩ = some (.int .i64 (C i)) ∧ w.cell? ⟨g, i * 3 + 1, none⟩ = some (.int .i64 (D i)) ∧ w.cell? ⟨g, i * 3 + 2, none⟩ = some (.bool (F i)) ∧ ∀ o, w.frozen? ⟨g, o, none⟩ = false :=
  ⟨h.cell hi (j := 0) (by omega), h.cell hi (j := 1) (by omega), h.cell hi (j := 2) (by omega), h.frozen⟩
theorem lv_up {C C' D D' : Nat → Int} {F F' : Nat → Bool} {i j : Nat} (h0 : C' i = C i) (h1 : D' i = D i) (h2 : F' i = F i) : lv C' D' F' i j = lv C D F i j := by unfold lv; rw [h0, h1, h2]
theorem Own.setC (h : Own w b e 3 (some ⟨g, 0, none⟩) n c (lv C D F)) {i : Nat} (hi : i < n) (u : Int) : Own (w.setCell ⟨g, i * 3, none⟩ (.int .i64 u)) b e 3 (some ⟨g, 0, none⟩) n c (lv (Ce.up C i u) D F) :=
  h.set hi (j := 0) (by omega) _ (by unfold lv; rw [if_pos rfl, Ce.up_at]) fun i' j' h1 h2 h3 => by
    by_cases q : i' = i
    · subst q
      have z : ¬ j' = 0 := by omega
      unfold lv
      rw [if_neg z, if_neg z]
    · exact lv_up (Ce.up_ne q) rfl rfl
theorem Own.setD (h : Own w b e 3 (some ⟨g, 0, none⟩) n c (lv C D F)) {i : Nat} (hi : i < n) (u : Int) : Own (w.setCell ⟨g, i * 3 + 1, none⟩ (.int .i64 u)) b e 3 (some ⟨g, 0, none⟩) n c (lv C (Ce.up D i u) F) :=
  h.set hi (j := 1) (by omega) _ (by unfold lv; rw [if_neg (by omega), if_pos rfl, Ce.up_at]) fun i' j' h1 h2 h3 => by
    by_cases q : i' = i
    · subst q
      unfold lv
      by_cases z : j' = 0
      · rw [if_pos z, if_pos z]
      · rw [if_neg z, if_neg z, if_neg (by omega), if_neg (by omega)]
    · exact lv_up rfl (Ce.up_ne q) rfl
theorem Own.setF (h : Own w b e 3 (some ⟨g, 0, none⟩) n c (lv C D F)) {i : Nat} (hi : i < n) : Own (w.setCell ⟨g, i * 3 + 2, none⟩ (.bool true)) b e 3 (some ⟨g, 0, none⟩) n c (lv C D (Ce.upb F i)) :=
  h.set hi (j := 2) (by omega) _ (by unfold lv; rw [if_neg (by omega), if_neg (by omega), Ce.upb_at]) fun i' j' h1 h2 h3 => by
    by_cases q : i' = i
    · subst q
      unfold lv
      by_cases z : j' = 0
      · rw [if_pos z, if_pos z]
      · rw [if_neg z, if_neg z, if_pos (show j' = 1 by omega), if_pos (show j' = 1 by omega)]
    · exact lv_up rfl rfl (Ce.upb_ne q)
theorem Own.rd3 {N : Nat → Nat → Int} (h : Own w b e 3 A n c (iv N)) {k : Nat} (hk : k < n) : ∃ g, A = some ⟨g, 0, none⟩ ∧ b ≤ g ∧ g < w.heap.size ∧ w.cell? ⟨g, k * 3, none⟩ = some (.int .i64 (N k 0)) ∧ w.cell? ⟨g, k * 3 + 1, none⟩ = some (.int .i64 (N k 1)) ∧ w.cell? ⟨g, k * 3 + 2, none⟩ = some (.int .i64 (N k 2)) := by
  obtain ⟨g, rfl, h1, h2⟩ := h.pos (by omega)
  exact ⟨g, rfl, h1, h2, h.cell hk (j := 0) (by omega), h.cell hk (j := 1) (by omega), h.cell hk (j := 2) (by omega)⟩
end
/-- A row anew. -/
def upA (Ar : Nat → Option Addr) (a : Nat) (x : Option Addr) : Nat → Option Addr := fun i => if i = a then x else Ar i
/-- The slice of slices lies in block b + 2, its rows in later blocks, each in its own; the rows hold edges ix i 0 .. -/
structure Lg (w : World) (b n : Nat) (E : Ce.Tab) (ln : Nat → Nat) (ix : Nat → Nat → Nat) (Ar : Nat → Option Addr) (cr : Nat → Nat) : Prop where
  row : Own w (b + 2) 39 1 (some ⟨b + 2, 0, none⟩) n n (fun i _ => .slice (Ar i) (ln i) (cr i))
  el : ∀ i, i < n → Own w (b + 3) 75 3 (Ar i) (ln i) (cr i) (iv fun q => E (ix i q))
  dj : ∀ i j, i < n → j < n → i ≠ j → ob (Ar i) = none ∨ ob (Ar i) ≠ ob (Ar j)
/-- The same while the row a is longer already, and not yet stored. -/
structure Lm (w : World) (b n : Nat) (E : Ce.Tab) (ln : Nat → Nat) (ix : Nat → Nat → Nat) (Ar : Nat → Option Addr) (cr : Nat → Nat) (a k g c' : Nat) : Prop where
  row : Own w (b + 2) 39 1 (some ⟨b + 2, 0, none⟩) n n (fun i _ => .slice (Ar i) (ln i) (cr i))
  el : ∀ i, i < n → Own w (b + 3) 75 3 (upA Ar a (some ⟨g, 0, none⟩) i) (Ce.upn ln a (ln a + 1) i) (Ce.upn cr a c' i) (iv fun q => E (Ce.upx ix a (ln a) k i q))
  dj : ∀ i j, i < n → j < n → i ≠ j → ob (upA Ar a (some ⟨g, 0, none⟩) i) = none ∨ ob (upA Ar a (some ⟨g, 0, none⟩) i) ≠ ob (upA Ar a (some ⟨g, 0, none⟩) j)
section
variable {w w' : World} {b n : Nat} {E : Ce.Tab} {ln : Nat → Nat} {ix : Nat → Nat → Nat} {Ar : Nat → Option Addr} {cr : Nat → Nat} {a k g c' : Nat}
theorem Lg.keep (h : Lg w b n E ln ix Ar cr) (hb : Below w.heap.size w w') : Lg w' b n E ln ix Ar cr := ⟨h.row.keep hb, fun i hi => (h.el i hi).keep hb, h.dj⟩
theorem Lg.alloc (h : Lg w b n E ln ix Ar cr) (o : Obj) : Lg (w.alloc o) b n E ln ix Ar cr := h.keep (ba w o)
theorem Lg.drew (h : Lg w b n E ln ix Ar cr) : Lg w.drew b n E ln ix Ar cr := ⟨h.row.drew, fun i hi => (h.el i hi).drew, h.dj⟩
theorem Lg.drewN (h : Lg w b n E ln ix Ar cr) (q : Nat) : Lg (w.drewN q) b n E ln ix Ar cr := ⟨h.row.drewN q, fun i hi => (h.el i hi).drewN q, h.dj⟩
theorem Lg.far (h : Lg w b n E ln ix Ar cr) {p : Addr} (hp : p.block < b + 2) (u : Value) : Lg (w.setCell p u) b n E ln ix Ar cr :=
  ⟨h.row.far (h.row.apart hp) u, fun i hi => (h.el i hi).far ((h.el i hi).apart (by omega)) u, h.dj⟩
theorem Lg.start {w : World} {b n : Nat} (E : Ce.Tab) (hn : n ≤ 512) (hw : w.heap.size = b + 2) : Lg (w.alloc (.cells (madeCells #[.slice none 0 0] n) 39)) b n E (fun _ => 0) (fun _ _ => 0) (fun _ => none) (fun _ => 0) :=
  ⟨by have := own_rows w (b + 2) n hn (by omega); rw [hw] at this; exact this, fun i hi => Own.nil _ _ _ _ _, fun i j _ _ _ => .inl rfl⟩
theorem Lg.cell (h : Lg w b n E ln ix Ar cr) {i : Nat} (hi : i < n) : w.cell? ⟨b + 2, i, none⟩ = some (.slice (Ar i) (ln i) (cr i)) := by
  have := h.row.cell hi (show 0 < 1 by omega)
  rw [Nat.mul_one, Nat.add_zero] at this
  exact this
theorem upA_at (Ar : Nat → Option Addr) (a : Nat) (x : Option Addr) : upA Ar a x a = x := if_pos rfl
theorem upA_ne {Ar : Nat → Option Addr} {a i : Nat} {x : Option Addr} (h : i ≠ a) : upA Ar a x i = Ar i := if_neg h
theorem upn_at (f : Nat → Nat) (a x : Nat) : Ce.upn f a x a = x := if_pos rfl
theorem upn_ne {f : Nat → Nat} {a i x : Nat} (h : i ≠ a) : Ce.upn f a x i = f i := if_neg h
theorem own_old {w : World} {B0 : Nat} {e : TypeId} {q n c : Nat} {A : Option Addr} {V : Nat → Nat → Value} (h : Own w B0 e q A n c V) : ob A = none ∨ ∃ k, ob A = some k ∧ k < w.heap.size := by
  obtain ⟨_, _, ⟨rfl, _⟩ | ⟨g, rfl, _, hl⟩⟩ := h.form
  · exact .inl rfl
  · exact .inr ⟨g, rfl, hl⟩
/-- An edge more at row a. -/
theorem Lg.append (h : Lg w b n E ln ix Ar cr) (ha : a < n) {V2 : Nat → Nat → Value} (hV : ∀ f, f < 3 → V2 0 f = .int .i64 (E k f)) (own : Own w' (b + 3) 75 3 (some ⟨g, 0, none⟩) (ln a + 1) c' (app (ln a) (iv fun q => E (ix a q)) V2)) (hg : w.grownBy w' (ob (Ar a)))
    (hob : ob (some ⟨g, 0, none⟩) = ob (Ar a) ∨ ob (some ⟨g, 0, none⟩) = some w.heap.size) : Lm w' b n E ln ix Ar cr a k g c' := by
  have hob' : ob (Ar a) = some g ∨ g = w.heap.size := by
    rcases hob with q | q
    · exact .inl q.symm
    · right; simpa [ob] using q
  refine ⟨h.row.kept hg (.inr fun z => ?_), fun i hi => ?_, fun i j hi hj hij => ?_⟩
  · have := (h.el a ha).base (g := b + 2) z.symm
    omega
  · by_cases e : i = a
    · subst e
      rw [upA_at, upn_at, upn_at]
      refine own.congr fun q f hq hf => ?_
      by_cases z : q < ln i
      · have e2 : Ce.upx ix i (ln i) k i q = ix i q := if_neg (fun y => by have := y.2; omega)
        unfold app iv
        rw [if_pos z]
        show Value.int .i64 (E (ix i q) f) = .int .i64 (E (Ce.upx ix i (ln i) k i q) f)
        rw [e2]
      · obtain rfl : q = ln i := by omega
        have e2 : Ce.upx ix i (ln i) k i (ln i) = k := if_pos ⟨rfl, rfl⟩
        unfold app iv
        rw [if_neg z, Nat.sub_self]
        show V2 0 f = .int .i64 (E (Ce.upx ix i (ln i) k i (ln i)) f)
        rw [e2]
        exact hV f hf
    · rw [upA_ne e, upn_ne e, upn_ne e]
      refine ((h.el i hi).kept hg (h.dj i a hi ha e)).congr fun q f hq hf => ?_
      have e2 : Ce.upx ix a (ln a) k i q = ix i q := if_neg (fun z => e z.1)
      unfold iv
      show Value.int .i64 (E (ix i q) f) = .int .i64 (E (Ce.upx ix a (ln a) k i q) f)
      rw [e2]
  · have key : ∀ i, i < n → i ≠ a → ob (Ar i) = none ∨ (ob (Ar i) ≠ some g) := fun i hi e => by
      rcases hob' with q | q
      · rw [← q]; exact h.dj i a hi ha e
      · rcases own_old (h.el i hi) with z | ⟨x, z, hx⟩
        · exact .inl z
        · right; rw [z]; simp; omega
    by_cases e : i = a
    · subst e
      rw [upA_at, upA_ne (Ne.symm hij)]
      rcases key j hj (Ne.symm hij) with q | q
      · right; rw [q]; simp [ob]
      · right; exact fun z => q z.symm
    · rw [upA_ne e]
      by_cases e2 : j = a
      · subst e2; rw [upA_at]; exact key i hi e
      · rw [upA_ne e2]; exact h.dj i j hi hj hij
theorem Lm.cell (h : Lm w b n E ln ix Ar cr a k g c') {i : Nat} (hi : i < n) : w.cell? ⟨b + 2, i, none⟩ = some (.slice (Ar i) (ln i) (cr i)) := by
  have := h.row.cell hi (show 0 < 1 by omega)
  rw [Nat.mul_one, Nat.add_zero] at this
  exact this
theorem Lm.store (h : Lm w b n E ln ix Ar cr a k g c') (ha : a < n) : Lg (w.setCell ⟨b + 2, a, none⟩ (.slice (some ⟨g, 0, none⟩) (ln a + 1) c')) b n E (Ce.upn ln a (ln a + 1)) (Ce.upx ix a (ln a) k) (upA Ar a (some ⟨g, 0, none⟩)) (Ce.upn cr a c') := by
  refine ⟨?_, fun i hi => (h.el i hi).far ((h.el i hi).apart (by simp)) _, h.dj⟩
  have := h.row.set (V' := fun i _ => .slice (upA Ar a (some ⟨g, 0, none⟩) i) (Ce.upn ln a (ln a + 1) i) (Ce.upn cr a c' i)) ha (show 0 < 1 by omega) (.slice (some ⟨g, 0, none⟩) (ln a + 1) c') (by rw [upA_at, upn_at, upn_at]) fun i' j' h1 h2 h3 => by
    have e : i' ≠ a := by omega
    rw [upA_ne e, upn_ne e, upn_ne e]
  rw [Nat.mul_one, Nat.add_zero] at this
  exact this
end
theorem Blk.grown {w w' : World} {g : Nat} {t : TypeId} {cs : Array Value} {row : Option Nat} (h : Blk w g t cs) (hg : w.grownBy w' row) (hne : row ≠ some g) : Blk w' g t cs := (hg.block g h.lt (fun e => hne e.symm)).trans h
theorem rdE {w : World} {g : Nat} {t : TypeId} {a b c : Int} (h : Blk w g t #[.int .i64 a, .int .i64 b, .int .i64 c]) : Rd w 3 (some ⟨g, 0, none⟩) 1 1 (fun _ j => .int .i64 (if j = 0 then a else if j = 1 then b else c)) :=
  Rd.of_blk h (by decide) (by decide) fun i j hi hj => by
    match i, j, hi, hj with
    | 0, 0, _, _ => rfl
    | 0, 1, _, _ => rfl
    | 0, 2, _, _ => rfl
end Go.Proofs.Ytoeklllahpegfaa
/-
  Contract: better.
-/
namespace Go.Proofs.Ytoeklllahpegfaa
set_option linter.unusedVariables false
set_option linter.unusedSimpArgs false
open Go.RowKit
attribute [local irreducible] World.setCell World.cell?

def Ce.bet (C D c e : Int) : Bool := decide (C < 0 ∨ Ce.lt2 c e C D)
theorem Ce.bet_iff {C D c e : Int} : Ce.bet C D c e = true ↔ C < 0 ∨ Ce.lt2 c e C D := by unfold Ce.bet; exact decide_eq_true_iff
theorem Ce.bet_no {C D c e : Int} : Ce.bet C D c e = false ↔ ¬ (C < 0 ∨ Ce.lt2 c e C D) := by unfold Ce.bet; exact decide_eq_false_iff_not
set_option maxRecDepth 100000 in
set_option maxHeartbeats 4000000 in
theorem better_c (C D c e : Int) (F : Bool) (w : World) : Calls Try.prog 83 #[.agg #[.int .i64 C, .int .i64 D, .bool F], .int .i64 c, .int .i64 e] w fun e_ w' => e_ = .returned (.bool (Ce.bet C D c e)) ∧ Below w.heap.size w w' := by
  by_cases q1 : C < 0
  · have HE := Lib.hid (show Ce.bet C D c e = true from Ce.bet_iff.2 (by unfold Ce.lt2; omega))
    go_enter Try.func83, Try.ntmps83
    have Lb := Blk.new w 83 #[.int .i64 (C), .int .i64 (D), .bool F]
    have hB := ba w (.cells #[.int .i64 (C), .int .i64 (D), .bool F] 83)
    obtain ⟨c00, c01, c02, c03, c04⟩ := Lb.open3
    go_wp2_with fail
    go_returns
    exact ⟨ret_bool HE.out.symm, hB⟩
  by_cases q2 : c < C
  · have HE := Lib.hid (show Ce.bet C D c e = true from Ce.bet_iff.2 (by unfold Ce.lt2; omega))
    go_enter Try.func83, Try.ntmps83
    have Lb := Blk.new w 83 #[.int .i64 (C), .int .i64 (D), .bool F]
    have hB := ba w (.cells #[.int .i64 (C), .int .i64 (D), .bool F] 83)
    obtain ⟨c00, c01, c02, c03, c04⟩ := Lb.open3
    go_wp2_with fail
    go_returns
    exact ⟨ret_bool HE.out.symm, hB⟩
  by_cases q3 : c = C
  rotate_left
  · have HE := Lib.hid (show Ce.bet C D c e = false from Ce.bet_no.2 (by unfold Ce.lt2; omega))
    have q4 : (c == C) = false := by simpa using q3
    have d2 : decide (c < C) = false := decide_eq_false q2
    clear q3
    go_enter Try.func83, Try.ntmps83
    have Lb := Blk.new w 83 #[.int .i64 (C), .int .i64 (D), .bool F]
    have hB := ba w (.cells #[.int .i64 (C), .int .i64 (D), .bool F] 83)
    obtain ⟨c00, c01, c02, c03, c04⟩ := Lb.open3
    go_wp2_with fail
    go_returns
    exact ⟨ret_bool HE.out.symm, hB⟩
  have q4 : (c == C) = true := by simpa using q3
  have d2 : decide (c < C) = false := decide_eq_false q2
  by_cases q5 : e < D
  · have HE := Lib.hid (show Ce.bet C D c e = true from Ce.bet_iff.2 (by unfold Ce.lt2; omega))
    clear q3
    go_enter Try.func83, Try.ntmps83
    have Lb := Blk.new w 83 #[.int .i64 (C), .int .i64 (D), .bool F]
    have hB := ba w (.cells #[.int .i64 (C), .int .i64 (D), .bool F] 83)
    obtain ⟨c00, c01, c02, c03, c04⟩ := Lb.open3
    go_wp2_with fail
    go_returns
    exact ⟨ret_bool HE.out.symm, hB⟩
  · have HE := Lib.hid (show Ce.bet C D c e = false from Ce.bet_no.2 (by unfold Ce.lt2; omega))
    have d5 : decide (e < D) = false := decide_eq_false q5
    clear q3
    go_enter Try.func83, Try.ntmps83
    have Lb := Blk.new w 83 #[.int .i64 (C), .int .i64 (D), .bool F]
    have hB := ba w (.cells #[.int .i64 (C), .int .i64 (D), .bool F] 83)
    obtain ⟨c00, c01, c02, c03, c04⟩ := Lb.open3
    go_wp2_with fail
    go_returns
    exact ⟨ret_bool HE.out.symm, hB⟩
end Go.Proofs.Ytoeklllahpegfaa
/-
  Plain: the choice of the nearest node.
-/
namespace Go.Proofs.Ytoeklllahpegfaa
set_option linter.unusedVariables false
set_option linter.unusedSimpArgs false
namespace Ce
/-- Of the first v nodes, the nearest one that is not done (-1: none). -/
def Sel (C D : Nat → Int) (F : Nat → Bool) (v : Nat) (a : Int) : Prop :=
  (a = -1 ∧ ∀ u, u < v → F u = true ∨ C u < 0) ∨ ∃ t : Nat, a = (t : Int) ∧ t < v ∧ F t = false ∧ 0 ≤ C t ∧ ∀ u, u < v → F u = false → 0 ≤ C u → le2 (C t) (D t) (C u) (D u)
variable {C D : Nat → Int} {F : Nat → Bool} {v : Nat} {a : Int}
theorem Sel.start : Sel C D F 0 (-1) := .inl ⟨rfl, fun u hu => absurd hu (Nat.not_lt_zero _)⟩
theorem Sel.skip (h : Sel C D F v a) (hv : F v = true ∨ C v < 0) : Sel C D F (v + 1) a := by
  rcases h with ⟨h1, h2⟩ | ⟨t, h1, h2, h3, h4, h5⟩
  · refine .inl ⟨h1, fun u hu => ?_⟩
    by_cases e : u = v
    · rw [e]; exact hv
    · exact h2 u (by omega)
  · refine .inr ⟨t, h1, by omega, h3, h4, fun u hu f c => ?_⟩
    by_cases e : u = v
    · subst e
      rcases hv with q | q
      · rw [f] at q; cases q
      · omega
    · exact h5 u (by omega) f c
theorem Sel.first (h : Sel C D F v a) (ha : a < 0) (hf : F v = false) (hc : 0 ≤ C v) : Sel C D F (v + 1) (v : Int) := by
  rcases h with ⟨h1, h2⟩ | ⟨t, h1, h2⟩
  · refine .inr ⟨v, rfl, by omega, hf, hc, fun u hu f c => ?_⟩
    by_cases e : u = v
    · rw [e]; exact le2_refl _ _
    · rcases h2 u (by omega) with q | q
      · rw [f] at q; cases q
      · omega
  · omega
theorem Sel.turn {t : Nat} (h : Sel C D F v (t : Int)) (hf : F v = false) (hc : 0 ≤ C v) (hb : bet (C t) (D t) (C v) (D v) = true) : Sel C D F (v + 1) (v : Int) := by
  rcases h with ⟨h1, h2⟩ | ⟨t', h1, h2, h3, h4, h5⟩
  · omega
  · obtain rfl : t = t' := by omega
    rw [bet_iff] at hb
    refine .inr ⟨v, rfl, by omega, hf, hc, fun u hu f c => ?_⟩
    by_cases e : u = v
    · rw [e]; exact le2_refl _ _
    · have := h5 u (by omega) f c
      unfold le2 at *; unfold lt2 at hb; omega
theorem Sel.stay {t : Nat} (h : Sel C D F v (t : Int)) (hb : bet (C t) (D t) (C v) (D v) = false) : Sel C D F (v + 1) (t : Int) := by
  rcases h with ⟨h1, h2⟩ | ⟨t', h1, h2, h3, h4, h5⟩
  · omega
  · obtain rfl : t = t' := by omega
    rw [bet_no] at hb
    refine .inr ⟨t, rfl, by omega, h3, h4, fun u hu f c => ?_⟩
    by_cases e : u = v
    · subst e; unfold le2; unfold lt2 at hb; omega
    · exact h5 u (by omega) f c
theorem Sel.lt {t : Nat} (h : Sel C D F v (t : Int)) : t < v ∧ F t = false ∧ 0 ≤ C t := by
  rcases h with ⟨h1, h2⟩ | ⟨t', h1, h2, h3, h4, h5⟩
  · omega
  · obtain rfl : t = t' := by omega
    exact ⟨h2, h3, h4⟩
end Ce
end Go.Proofs.Ytoeklllahpegfaa
