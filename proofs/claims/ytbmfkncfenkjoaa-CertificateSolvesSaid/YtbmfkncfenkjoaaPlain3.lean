/-
  Plain: two ways to the labels, node by node and edge by edge, keep what makes them the least ones; no program in sight.
-/
import Derived.Test.YtbmfkncfenkjoaaPlain2
namespace Go.Proofs.Ytbmfkncfenkjoaa
set_option linter.unusedVariables false
set_option linter.unusedSimpArgs false
namespace Ce
/-! How many of the first n -/
def cnt (p : Nat → Bool) : Nat → Nat
  | 0 => 0
  | k + 1 => cnt p k + if p k = true then 1 else 0
theorem cnt_le (p : Nat → Bool) : ∀ n, cnt p n ≤ n
  | 0 => Nat.le_refl _
  | k + 1 => by have := cnt_le p k; rw [cnt]; split <;> omega
theorem cnt_mono {p q : Nat → Bool} : ∀ {n : Nat}, (∀ i, i < n → p i = true → q i = true) → cnt p n ≤ cnt q n
  | 0, _ => Nat.le_refl _
  | k + 1, h => by
    have := cnt_mono (n := k) fun i hi => h i (by omega)
    have := h k (by omega)
    rw [cnt, cnt]
    by_cases e : p k = true
    · rw [if_pos e, if_pos (this e)]; omega
    · rw [if_neg e]; omega
theorem cnt_lt {p q : Nat → Bool} {v : Nat} : ∀ {n : Nat}, (∀ i, i < n → p i = true → q i = true) → v < n → p v = false → q v = true → cnt p n + 1 ≤ cnt q n
  | 0, _, hv, _, _ => by omega
  | k + 1, h, hv, h1, h2 => by
    rw [cnt, cnt]
    by_cases e : v = k
    · subst e
      have := cnt_mono (n := v) fun i hi => h i (by omega)
      rw [if_pos h2, if_neg (by rw [h1]; decide)]; omega
    · have := cnt_lt (n := k) (fun i hi => h i (by omega)) (by omega) h1 h2
      have := h k (by omega)
      by_cases e : p k = true
      · rw [if_pos e, if_pos (this e)]; omega
      · rw [if_neg e]; omega
theorem cnt_add {p q : Nat → Bool} {v : Nat} : ∀ {n : Nat}, (∀ i, i < n → i ≠ v → q i = p i) → v < n → p v = false → q v = true → cnt q n = cnt p n + 1
  | 0, _, hv, _, _ => by omega
  | k + 1, h, hv, h1, h2 => by
    rw [cnt, cnt]
    by_cases e : v = k
    · subst e
      have : cnt q v = cnt p v := Nat.le_antisymm (cnt_mono fun i hi q => by rw [← h i (by omega) (by omega)]; exact q) (cnt_mono fun i hi q => by rw [h i (by omega) (by omega)]; exact q)
      rw [if_pos h2, if_neg (by rw [h1]; decide)]; omega
    · have := cnt_add (n := k) (fun i hi => h i (by omega)) (by omega) h1 h2
      rw [h k (by omega) (fun q => e q.symm)]; omega
theorem cnt_out {p : Nat → Bool} {v n : Nat} (hv : v < n) (h : p v = false) : cnt p n + 1 ≤ n := by
  have h1 := cnt_lt (p := p) (q := fun _ => true) (n := n) (fun _ _ _ => rfl) hv h rfl
  have := cnt_le (fun _ => true) n
  omega
/-! Node by node -/
/-- One number of a table is put in another's place. -/
def up (C : Nat → Int) (v : Nat) (x : Int) : Nat → Int := fun i => if i = v then x else C i
def upb (F : Nat → Bool) (v : Nat) : Nat → Bool := fun i => if i = v then true else F i
theorem up_at (C : Nat → Int) (v : Nat) (x : Int) : up C v x v = x := if_pos rfl
theorem up_ne {C : Nat → Int} {v i : Nat} {x : Int} (h : i ≠ v) : up C v x i = C i := if_neg h
theorem upb_at (F : Nat → Bool) (v : Nat) : upb F v v = true := if_pos rfl
theorem upb_ne {F : Nat → Bool} {v i : Nat} (h : i ≠ v) : upb F v i = F i := if_neg h
theorem upb_keep {F : Nat → Bool} {v i : Nat} (h : F i = true) : upb F v i = true := by unfold upb; split <;> simp_all
theorem upb_no {F : Nat → Bool} {v i : Nat} (h : upb F v i = false) : i ≠ v ∧ F i = false := by
  unfold upb at h; split at h
  · cases h
  · exact ⟨‹_›, h⟩
structure Dk (n m : Nat) (E : Tab) (s : Nat) (C D : Nat → Int) (F : Nat → Bool) (k : Nat) : Prop where
  c0 : C s = 0
  d0 : D s = 0
  fc : cnt F n = k
  rng : ∀ v, v < n → (C v = -1 ∧ F v = false) ∨ (0 ≤ C v ∧ 0 ≤ D v ∧ C v ≤ D v * 1099511627776 ∧ D v ≤ k ∧ (F v = true → D v + 1 ≤ k))
  tri : ∀ i, i < m → F (fr E i) = true → 0 ≤ C (to E i) ∧ le2 (C (to E i)) (D (to E i)) (C (fr E i) + E i 2) (D (fr E i) + 1)
  pre : ∀ v, v < n → 0 ≤ C v → v ≠ s → ∃ i, i < m ∧ to E i = v ∧ F (fr E i) = true ∧ C (fr E i) + E i 2 = C v ∧ D (fr E i) + 1 = D v
  mono : ∀ u v, u < n → v < n → F u = true → F v = false → 0 ≤ C v → le2 (C u) (D u) (C v) (D v)
/-- While the edges that leave node a are gone through: those of X are done. -/
structure Dx (n m : Nat) (E : Tab) (s : Nat) (C D : Nat → Int) (F : Nat → Bool) (k a : Nat) (X : Nat → Prop) : Prop where
  c0 : C s = 0
  d0 : D s = 0
  fc : cnt F n = k
  rng : ∀ v, v < n → (C v = -1 ∧ F v = false) ∨ (0 ≤ C v ∧ 0 ≤ D v ∧ C v ≤ D v * 1099511627776 ∧ D v ≤ k ∧ (F v = true → D v + 1 ≤ k))
  tri : ∀ i, i < m → F (fr E i) = true → (fr E i = a → X i) → 0 ≤ C (to E i) ∧ le2 (C (to E i)) (D (to E i)) (C (fr E i) + E i 2) (D (fr E i) + 1)
  pre : ∀ v, v < n → 0 ≤ C v → v ≠ s → ∃ i, i < m ∧ to E i = v ∧ F (fr E i) = true ∧ C (fr E i) + E i 2 = C v ∧ D (fr E i) + 1 = D v
  mono : ∀ u v, u < n → v < n → F u = true → F v = false → 0 ≤ C v → le2 (C u) (D u) (C v) (D v)
  fa : F a = true
  am : ∀ u, u < n → F u = true → le2 (C u) (D u) (C a) (D a)
section
variable {n m s : Nat} {E : Tab} {C D : Nat → Int} {F : Nat → Bool} {k a : Nat}
theorem cnt_none (n : Nat) : cnt (fun _ => false) n = 0 := by
  induction n with
  | zero => rfl
  | succ n ih => rw [cnt, ih]; rfl
theorem Dk.start (n m : Nat) (E : Tab) (s : Nat) : Dk n m E s (up (fun _ => -1) s 0) (fun _ => 0) (fun _ => false) 0 where
  c0 := up_at _ _ _
  d0 := rfl
  fc := cnt_none n
  rng v hv := by
    by_cases e : v = s
    · subst e; rw [up_at]; right; exact ⟨by omega, by omega, by omega, by omega, fun h => by cases h⟩
    · rw [up_ne e]; left; exact ⟨rfl, rfl⟩
  tri i hi h := by cases h
  pre v hv h hne := by rw [up_ne hne] at h; omega
  mono u v hu hv h := by cases h
theorem Dk.done (h : Dk n m E s C D F k) (hn : ∀ v, v < n → F v = true ∨ C v < 0) (hu : ∀ i, i < m → fr E i < n) : Lab n m E s C D where
  c0 := h.c0
  d0 := h.d0
  rng v hv := by
    have := cnt_le F n
    rw [h.fc] at this
    rcases h.rng v hv with q | ⟨q1, q2, q3, q4, q5⟩
    · exact .inl q.1
    · rcases hn v hv with f | f
      · exact .inr ⟨q1, q2, q3, by have := q5 f; omega⟩
      · omega
  tri i hi hc := by
    rcases hn _ (hu i hi) with f | f
    · exact h.tri i hi f
    · omega
  pre v hv hc hne := by
    obtain ⟨i, hi, ht, hf, e1, e2⟩ := h.pre v hv hc hne
    refine ⟨i, hi, ht, ?_, e1, e2⟩
    rcases h.rng _ (hu i hi) with q | q
    · rw [hf] at q; exact absurd q.2 (by decide)
    · exact q.1
/-- The nearest node that is not done is taken. -/
theorem Dk.take (h : Dk n m E s C D F k) (ha : a < n) (hf : F a = false) (hc : 0 ≤ C a) (hmin : ∀ v, v < n → F v = false → 0 ≤ C v → le2 (C a) (D a) (C v) (D v)) : Dx n m E s C D (upb F a) (k + 1) a (fun _ => False) where
  c0 := h.c0
  d0 := h.d0
  fc := by rw [cnt_add (p := F) (v := a) (fun i _ hi => upb_ne hi) ha hf (upb_at _ _), h.fc]
  rng v hv := by
    rcases h.rng v hv with q | ⟨q1, q2, q3, q4, q5⟩
    · left
      refine ⟨q.1, ?_⟩
      rw [upb_ne (by intro e; subst e; omega)]
      exact q.2
    · right; exact ⟨q1, q2, q3, by omega, fun _ => by omega⟩
  tri i hi hf' hx := by
    by_cases e : fr E i = a
    · exact (hx e).elim
    · rw [upb_ne e] at hf'; exact h.tri i hi hf'
  pre v hv hc' hne := by
    obtain ⟨i, hi, ht, hf', e1, e2⟩ := h.pre v hv hc' hne
    exact ⟨i, hi, ht, upb_keep hf', e1, e2⟩
  mono u v hu hv hfu hfv hcv := by
    obtain ⟨hva, hfw⟩ := upb_no hfv
    by_cases e : u = a
    · subst e; exact hmin v hv hfw hcv
    · rw [upb_ne e] at hfu; exact h.mono u v hu hv hfu hfw hcv
  fa := upb_at _ _
  am u hu hfu := by
    by_cases e : u = a
    · subst e; exact le2_refl _ _
    · rw [upb_ne e] at hfu; exact h.mono u a hu ha hfu hf hc
theorem Dx.all {X : Nat → Prop} (h : Dx n m E s C D F k a X) (hx : ∀ i, i < m → fr E i = a → X i) : Dk n m E s C D F k :=
  ⟨h.c0, h.d0, h.fc, h.rng, fun i hi hf => h.tri i hi hf (hx i hi), h.pre, h.mono⟩
theorem Dx.congr {X Y : Nat → Prop} (h : Dx n m E s C D F k a X) (hx : ∀ i, Y i → X i) : Dx n m E s C D F k a Y :=
  ⟨h.c0, h.d0, h.fc, h.rng, fun i hi hf hy => h.tri i hi hf fun e => hx i (hy e), h.pre, h.mono, h.fa, h.am⟩
theorem Dx.ca {X : Nat → Prop} (h : Dx n m E s C D F k a X) (ha : a < n) : 0 ≤ C a ∧ 0 ≤ D a ∧ C a ≤ D a * 1099511627776 ∧ D a + 1 ≤ k := by
  rcases h.rng a ha with q | ⟨q1, q2, q3, q4, q5⟩
  · rw [h.fa] at q; exact absurd q.2 (by decide)
  · exact ⟨q1, q2, q3, q5 h.fa⟩
/-- An edge to a node that is done. -/
theorem Dx.past {X : Nat → Prop} (h : Dx n m E s C D F k a X) {i : Nat} (hc0 : 0 ≤ E i 2) (hu : fr E i = a) (ht : to E i < n) (hf : F (to E i) = true) : Dx n m E s C D F k a (fun j => X j ∨ j = i) where
  c0 := h.c0
  d0 := h.d0
  fc := h.fc
  rng := h.rng
  tri j hj hfj hx := by
    by_cases e : j = i
    · subst e
      have h1 := h.am _ ht hf
      rcases h.rng _ ht with q | q
      · rw [hf] at q; exact absurd q.2 (by decide)
      · rw [hu]; refine ⟨q.1, ?_⟩
        unfold le2 at h1 ⊢
        omega
    · exact h.tri j hj hfj fun q => (hx q).resolve_right e
  pre := h.pre
  mono := h.mono
  fa := h.fa
  am := h.am
/-- An edge to a node with a label that is as good. -/
theorem Dx.stay {X : Nat → Prop} (h : Dx n m E s C D F k a X) {i : Nat} (hu : fr E i = a) (hc : 0 ≤ C (to E i)) (hle : le2 (C (to E i)) (D (to E i)) (C a + E i 2) (D a + 1)) : Dx n m E s C D F k a (fun j => X j ∨ j = i) where
  c0 := h.c0
  d0 := h.d0
  fc := h.fc
  rng := h.rng
  tri j hj hfj hx := by
    by_cases e : j = i
    · subst e; rw [hu]; exact ⟨hc, hle⟩
    · exact h.tri j hj hfj fun q => (hx q).resolve_right e
  pre := h.pre
  mono := h.mono
  fa := h.fa
  am := h.am
/-- An edge to a node whose label gets better. -/
theorem Dx.lower {X : Nat → Prop} (h : Dx n m E s C D F k a X) (ha : a < n) {i : Nat} (him : i < m) (hc0 : 0 ≤ E i 2) (hc1 : E i 2 ≤ 1099511627776) (hu : fr E i = a) (ht : to E i < n) (hf : F (to E i) = false)
    (hb : C (to E i) < 0 ∨ lt2 (C a + E i 2) (D a + 1) (C (to E i)) (D (to E i))) : Dx n m E s (up C (to E i) (C a + E i 2)) (up D (to E i) (D a + 1)) F k a (fun j => X j ∨ j = i) := by
  have qa := h.ca ha
  have hta : to E i ≠ a := by intro e; rw [e, h.fa] at hf; cases hf
  have hts : to E i ≠ s := by
    intro e
    rw [e, h.c0, h.d0] at hb
    unfold lt2 at hb
    omega
  have hF : ∀ {u : Nat}, F u = true → u ≠ to E i := by intro u hu e; rw [e, hf] at hu; cases hu
  refine ⟨?_, ?_, h.fc, ?_, ?_, ?_, ?_, h.fa, ?_⟩
  · rw [up_ne (Ne.symm hts)]; exact h.c0
  · rw [up_ne (Ne.symm hts)]; exact h.d0
  · intro v hv
    by_cases e : v = to E i
    · subst e
      rw [up_at, up_at]
      right
      exact ⟨by omega, by omega, by omega, by omega, fun q => by rw [hf] at q; cases q⟩
    · rw [up_ne e, up_ne e]; exact h.rng v hv
  · intro j hj hfj hx
    rw [up_ne (hF hfj), up_ne (hF hfj)]
    by_cases e : j = i
    · subst e
      rw [up_at, up_at, hu]
      exact ⟨by omega, le2_refl _ _⟩
    · obtain ⟨g1, g2⟩ := h.tri j hj hfj fun q => (hx q).resolve_right e
      by_cases e2 : to E j = to E i
      · rw [e2, up_at, up_at]
        rw [e2] at g1 g2
        refine ⟨by omega, ?_⟩
        unfold lt2 at hb; unfold le2 at g2 ⊢
        omega
      · rw [up_ne e2, up_ne e2]; exact ⟨g1, g2⟩
  · intro v hv hc hne
    by_cases e : v = to E i
    · subst e
      refine ⟨i, him, rfl, by rw [hu]; exact h.fa, ?_, ?_⟩
      · rw [hu, up_at, up_ne (Ne.symm hta)]
      · rw [hu, up_at, up_ne (Ne.symm hta)]
    · rw [up_ne e] at hc
      obtain ⟨j, hj, htj, hfj, e1, e2⟩ := h.pre v hv hc hne
      refine ⟨j, hj, htj, hfj, ?_, ?_⟩
      · rw [up_ne (hF hfj), up_ne e]; exact e1
      · rw [up_ne (hF hfj), up_ne e]; exact e2
  · intro u v hu' hv hfu hfv hcv
    rw [up_ne (hF hfu), up_ne (hF hfu)]
    by_cases e : v = to E i
    · subst e
      rw [up_at, up_at]
      have := h.am u hu' hfu
      unfold le2 at this ⊢
      omega
    · rw [up_ne e] at hcv ⊢
      rw [up_ne e]
      exact h.mono u v hu' hv hfu hfv hcv
  · intro u hu' hfu
    rw [up_ne (hF hfu), up_ne (hF hfu), up_ne (Ne.symm hta), up_ne (Ne.symm hta)]
    exact h.am u hu' hfu
theorem Dk.k_lt (h : Dk n m E s C D F k) (ha : a < n) (hf : F a = false) : k + 1 ≤ n := by
  have := cnt_out (p := F) ha hf
  rw [h.fc] at this; exact this
/-- The bounds of all labels. -/
theorem Dk.cb (h : Dk n m E s C D F k) (hn : n ≤ 512) {v : Nat} (hv : v < n) : -1 ≤ C v ∧ C v ≤ 562949953421312 ∧ (0 ≤ C v → 0 ≤ D v ∧ D v ≤ 512) := by
  have := cnt_le F n
  rw [h.fc] at this
  rcases h.rng v hv with q | q <;> omega
theorem Dx.cb {X : Nat → Prop} (h : Dx n m E s C D F k a X) (hn : n ≤ 512) {v : Nat} (hv : v < n) : -1 ≤ C v ∧ C v ≤ 562949953421312 ∧ (0 ≤ C v → 0 ≤ D v ∧ D v ≤ 512) := by
  have := cnt_le F n
  rw [h.fc] at this
  rcases h.rng v hv with q | q <;> omega
end
/-- The edges that leave each node: ln a of them, their indices ix a. -/
structure Lv (E : Tab) (k : Nat) (ln : Nat → Nat) (ix : Nat → Nat → Nat) : Prop where
  s : ∀ a q, q < ln a → ix a q < k ∧ fr E (ix a q) = a
  c : ∀ i, i < k → ∃ q, q < ln (fr E i) ∧ ix (fr E i) q = i
  b : ∀ a, ln a ≤ k
theorem Lv.start (E : Tab) : Lv E 0 (fun _ => 0) (fun _ _ => 0) := ⟨fun a q h => by omega, fun i h => by omega, fun a => Nat.le_refl _⟩
def upn (f : Nat → Nat) (v x : Nat) : Nat → Nat := fun i => if i = v then x else f i
def upx (f : Nat → Nat → Nat) (v q x : Nat) : Nat → Nat → Nat := fun i j => if i = v ∧ j = q then x else f i j
theorem Lv.next {E : Tab} {k : Nat} {ln : Nat → Nat} {ix : Nat → Nat → Nat} (h : Lv E k ln ix) : Lv E (k + 1) (upn ln (fr E k) (ln (fr E k) + 1)) (upx ix (fr E k) (ln (fr E k)) k) where
  s a q hq := by
    unfold upn at hq; unfold upx
    by_cases e : a = fr E k
    · subst e
      rw [if_pos rfl] at hq
      by_cases e2 : q = ln (fr E k)
      · rw [if_pos ⟨rfl, e2⟩]; exact ⟨by omega, rfl⟩
      · rw [if_neg (fun z => e2 z.2)]
        have := h.s (fr E k) q (by omega)
        exact ⟨by omega, this.2⟩
    · rw [if_neg e] at hq
      rw [if_neg (fun z => e z.1)]
      have := h.s a q hq
      exact ⟨by omega, this.2⟩
  c i hi := by
    by_cases e : i = k
    · subst e
      exact ⟨ln (fr E i), by unfold upn; rw [if_pos rfl]; omega, by unfold upx; rw [if_pos ⟨rfl, rfl⟩]⟩
    · obtain ⟨q, hq, hx⟩ := h.c i (by omega)
      refine ⟨q, ?_, ?_⟩
      · unfold upn; split
        · rename_i e2; rw [← e2]; omega
        · exact hq
      · unfold upx
        rw [if_neg]
        · exact hx
        · rintro ⟨e2, e3⟩
          rw [← e2] at e3
          omega
  b a := by
    have h1 := h.b a
    have h2 := h.b (fr E k)
    unfold upn; split <;> omega
/-! Edge by edge; 2^62 stands for no route -/
instance (a b c d : Int) : Decidable (lt2 a b c d) := by unfold lt2; infer_instance
def ltb (C D : Nat → Int) (v x : Nat) : Bool := decide (lt2 (C x) (D x) (C v) (D v))
structure Bf (n m : Nat) (E : Tab) (s : Nat) (C D : Nat → Int) : Prop where
  c0 : C s = 0
  d0 : D s = 0
  rng : ∀ v, v < n → (C v = 4611686018427387904 ∧ D v = 4611686018427387904) ∨ (0 ≤ C v ∧ 0 ≤ D v ∧ C v ≤ D v * 1099511627776 ∧ D v ≤ cnt (ltb C D v) n)
  pre : ∀ v, v < n → C v ≠ 4611686018427387904 → v ≠ s → ∃ i, i < m ∧ to E i = v ∧ C (fr E i) ≠ 4611686018427387904 ∧ le2 (C (fr E i) + E i 2) (D (fr E i) + 1) (C v) (D v)
section
variable {n m s : Nat} {E : Tab} {C D : Nat → Int}
theorem lt2_irr (a b : Int) : ¬ lt2 a b a b := by unfold lt2; omega
theorem Bf.start (n m : Nat) (E : Tab) (s : Nat) : Bf n m E s (up (fun _ => 4611686018427387904) s 0) (up (fun _ => 4611686018427387904) s 0) where
  c0 := up_at _ _ _
  d0 := up_at _ _ _
  rng v hv := by
    by_cases e : v = s
    · subst e; rw [up_at]; right; exact ⟨by omega, by omega, by omega, by omega⟩
    · rw [up_ne e]; left; exact ⟨rfl, rfl⟩
  pre v hv h hne := by rw [up_ne hne] at h; exact absurd rfl h
theorem Bf.cb (h : Bf n m E s C D) {v : Nat} (hv : v < n) (hc : C v ≠ 4611686018427387904) : 0 ≤ C v ∧ 0 ≤ D v ∧ C v ≤ D v * 1099511627776 ∧ D v + 1 ≤ n := by
  rcases h.rng v hv with q | ⟨q1, q2, q3, q4⟩
  · exact absurd q.1 hc
  · have := cnt_out (p := ltb C D v) hv (decide_eq_false (lt2_irr _ _))
    exact ⟨q1, q2, q3, by omega⟩
/-- All labels' bounds. -/
theorem Bf.ab (h : Bf n m E s C D) (hn : n ≤ 512) {v : Nat} (hv : v < n) : 0 ≤ C v ∧ C v ≤ 4611686018427387904 ∧ 0 ≤ D v ∧ D v ≤ 4611686018427387904 ∧ (C v ≠ 4611686018427387904 → C v ≤ 562949953421312 ∧ D v < 512) := by
  by_cases q : C v = 4611686018427387904
  · rcases h.rng v hv with q2 | q2
    · omega
    · have := cnt_le (ltb C D v) n
      omega
  · have := h.cb hv q
    omega
/-- A label gets better. -/
theorem Bf.lower (h : Bf n m E s C D) (hn : n ≤ 512) {i : Nat} (him : i < m) (hc0 : 0 ≤ E i 2) (hc1 : E i 2 ≤ 1099511627776) (hu : fr E i < n) (ht : to E i < n) (hf : C (fr E i) ≠ 4611686018427387904)
    (hb : lt2 (C (fr E i) + E i 2) (D (fr E i) + 1) (C (to E i)) (D (to E i))) : Bf n m E s (up C (to E i) (C (fr E i) + E i 2)) (up D (to E i) (D (fr E i) + 1)) := by
  have qa := h.cb hu hf
  have hta : fr E i ≠ to E i := by intro e; rw [e] at hb; unfold lt2 at hb; omega
  have hts : to E i ≠ s := by
    intro e
    rw [e, h.c0, h.d0] at hb
    unfold lt2 at hb
    omega
  refine ⟨?_, ?_, ?_, ?_⟩
  · rw [up_ne (Ne.symm hts)]; exact h.c0
  · rw [up_ne (Ne.symm hts)]; exact h.d0
  · intro v hv
    by_cases e : v = to E i
    · subst e
      right
      rw [up_at, up_at]
      refine ⟨by omega, by omega, by omega, ?_⟩
      rcases h.rng _ hu with q | q
      · exact absurd q.1 hf
      · have h1 : cnt (ltb C D (fr E i)) n + 1 ≤ cnt (ltb (up C (to E i) (C (fr E i) + E i 2)) (up D (to E i) (D (fr E i) + 1)) (to E i)) n := by
          refine cnt_lt (v := fr E i) (fun x hx hp => ?_) hu (decide_eq_false (lt2_irr _ _)) ?_
          · unfold ltb at hp ⊢
            rw [decide_eq_true_iff] at hp ⊢
            have hx' : x ≠ to E i := by
              intro e; subst e
              unfold lt2 at hb hp; omega
            rw [up_at, up_at, up_ne hx', up_ne hx']
            unfold lt2 at hp ⊢; omega
          · unfold ltb
            rw [decide_eq_true_iff, up_at, up_at, up_ne hta, up_ne hta]
            unfold lt2; omega
        omega
    · rw [up_ne e, up_ne e]
      rcases h.rng v hv with q | ⟨q1, q2, q3, q4⟩
      · exact .inl q
      · refine .inr ⟨q1, q2, q3, ?_⟩
        have h1 : cnt (ltb C D v) n ≤ cnt (ltb (up C (to E i) (C (fr E i) + E i 2)) (up D (to E i) (D (fr E i) + 1)) v) n := by
          refine cnt_mono fun x hx hp => ?_
          unfold ltb at hp ⊢
          rw [decide_eq_true_iff] at hp ⊢
          rw [up_ne e, up_ne e]
          by_cases e2 : x = to E i
          · subst e2
            rw [up_at, up_at]
            unfold lt2 at hb hp ⊢; omega
          · rw [up_ne e2, up_ne e2]; exact hp
        omega
  · intro v hv hc hne
    by_cases e : v = to E i
    · subst e
      refine ⟨i, him, rfl, ?_, ?_⟩
      · rw [up_ne hta]; exact hf
      · rw [up_at, up_at, up_ne hta, up_ne hta]; exact le2_refl _ _
    · rw [up_ne e] at hc
      obtain ⟨j, hj, htj, hcj, hle⟩ := h.pre v hv hc hne
      refine ⟨j, hj, htj, ?_, ?_⟩
      · by_cases e2 : fr E j = to E i
        · rw [e2, up_at]; omega
        · rw [up_ne e2]; exact hcj
      · rw [up_ne e, up_ne e]
        by_cases e2 : fr E j = to E i
        · rw [e2, up_at, up_at]
          rw [e2] at hle
          unfold le2 at hle ⊢; unfold lt2 at hb
          omega
        · rw [up_ne e2, up_ne e2]; exact hle
/-- What every better label lowers. -/
def mu (C D : Nat → Int) (n : Nat) : Int := sm (fun v => C v * 1024 + D v) n
theorem sm_up {f g : Nat → Int} {v : Nat} : ∀ {n : Nat}, (∀ i, i < n → i ≠ v → g i = f i) → v < n → sm g n = sm f n + (g v - f v)
  | 0, _, hv => by omega
  | k + 1, h, hv => by
    rw [sm, sm]
    by_cases e : v = k
    · subst e
      have : ∀ {k : Nat}, (∀ i, i < k → g i = f i) → sm g k = sm f k := by
        intro k
        induction k with
        | zero => intro _; rfl
        | succ k ih => intro h; rw [sm, sm, ih fun i hi => h i (by omega), h k (by omega)]
      rw [this fun i hi => h i (by omega) (by omega)]; omega
    · rw [sm_up (n := k) (fun i hi => h i (by omega)) (by omega), h k (by omega) (fun q => e q.symm)]; omega
theorem sm_nn {f : Nat → Int} : ∀ {n : Nat}, (∀ i, i < n → 0 ≤ f i) → 0 ≤ sm f n
  | 0, _ => by simp [sm]
  | n + 1, h => by rw [sm]; have := sm_nn (f := f) (n := n) (fun i hi => h i (by omega)); have := h n (by omega); omega
theorem Bf.mu_nn (h : Bf n m E s C D) (hn : n ≤ 512) : 0 ≤ mu C D n :=
  sm_nn fun v hv => by have := h.ab hn hv; omega
theorem Bf.mu_lt (h : Bf n m E s C D) (hn : n ≤ 512) {i : Nat} (hc0 : 0 ≤ E i 2) (hc1 : E i 2 ≤ 1099511627776) (hu : fr E i < n) (ht : to E i < n) (hf : C (fr E i) ≠ 4611686018427387904)
    (hb : lt2 (C (fr E i) + E i 2) (D (fr E i) + 1) (C (to E i)) (D (to E i))) : mu (up C (to E i) (C (fr E i) + E i 2)) (up D (to E i) (D (fr E i) + 1)) n < mu C D n := by
  unfold mu
  rw [sm_up (f := fun v => C v * 1024 + D v) (v := to E i) (fun j _ hj => by simp only [up_ne hj]) ht]
  simp only [up_at]
  have h1 := h.cb hu hf
  have h2 := h.ab hn ht
  unfold lt2 at hb
  by_cases q : C (to E i) = 4611686018427387904
  · omega
  · have := h2.2.2.2.2 q
    omega
/-- Once no edge betters a label, the labels are the least ones. -/
def fin (C : Nat → Int) (v : Nat) : Int := if C v = 4611686018427387904 then -1 else C v
theorem Bf.done (h : Bf n m E s C D) (hu : ∀ i, i < m → fr E i < n) (ht : ∀ i, i < m → to E i < n) (hs : ∀ i, i < m → C (fr E i) ≠ 4611686018427387904 → ¬ lt2 (C (fr E i) + E i 2) (D (fr E i) + 1) (C (to E i)) (D (to E i))) (hn : n ≤ 512)
    (hc0 : ∀ i, i < m → 0 ≤ E i 2) (hc1 : ∀ i, i < m → E i 2 ≤ 1099511627776) : Lab n m E s (fin C) D where
  c0 := by unfold fin; rw [h.c0, if_neg (by omega)]
  d0 := h.d0
  rng v hv := by
    unfold fin
    by_cases q : C v = 4611686018427387904
    · rw [if_pos q]; exact .inl rfl
    · rw [if_neg q]; exact .inr (h.cb hv q)
  tri i hi hc := by
    have hf : C (fr E i) ≠ 4611686018427387904 := by
      intro q; unfold fin at hc; rw [if_pos q] at hc; omega
    have h1 := hs i hi hf
    have h2 := h.cb (hu i hi) hf
    have h3 := h.ab hn (ht i hi)
    have := hc1 i hi
    have ht' : C (to E i) ≠ 4611686018427387904 := by
      intro q; unfold lt2 at h1; omega
    unfold fin
    rw [if_neg hf, if_neg ht']
    refine ⟨h3.1, ?_⟩
    unfold lt2 at h1; unfold le2; omega
  pre v hv hc hne := by
    have hf : C v ≠ 4611686018427387904 := by
      intro q; unfold fin at hc; rw [if_pos q] at hc; omega
    obtain ⟨i, hi, e, hcu, hle⟩ := h.pre v hv hf hne
    refine ⟨i, hi, e, ?_, ?_⟩
    · unfold fin; rw [if_neg hcu]; exact (h.cb (hu i hi) hcu).1
    · have h1 := hs i hi hcu
      rw [e] at h1
      unfold fin
      rw [if_neg hcu, if_neg hf]
      unfold lt2 at h1; unfold le2 at hle
      omega
end
end Ce
end Go.Proofs.Ytbmfkncfenkjoaa
