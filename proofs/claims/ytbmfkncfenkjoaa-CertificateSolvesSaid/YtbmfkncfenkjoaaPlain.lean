/-
  Plain: graphs, routes, potentials; no program in sight.
-/
namespace Go.Proofs.Ytbmfkncfenkjoaa
set_option linter.unusedVariables false
set_option linter.unusedSimpArgs false
namespace Ce
/-- An edge's numbers: from, to, cost. -/
abbrev Tab := Nat → Nat → Int
def nd (n a : Int) : Bool := decide (0 ≤ a ∧ a < n)
def inC (c : Int) : Bool := decide (0 ≤ c ∧ c ≤ 1099511627776)
/-- The error of an edge. -/
def er1 (n a b c : Int) : Int := if (nd n a && nd n b) = true then (if inC c = true then 0 else 2) else 1
def erow (n : Int) (E : Tab) (i : Nat) : Int := er1 n (E i 0) (E i 1) (E i 2)
def ckE (n : Int) (E : Tab) : Nat → Int
  | 0 => 0
  | k + 1 => if ckE n E k = 0 then erow n E k else ckE n E k
def ck (n : Int) (m : Nat) (E : Tab) : Int := if n < 1 ∨ 512 < n ∨ 8192 < m then 3 else ckE n E m
theorem nd_iff {n a : Int} : nd n a = true ↔ 0 ≤ a ∧ a < n := by unfold nd; exact decide_eq_true_iff
theorem inC_iff {c : Int} : inC c = true ↔ 0 ≤ c ∧ c ≤ 1099511627776 := by unfold inC; exact decide_eq_true_iff
structure Eok (n : Int) (E : Tab) (i : Nat) : Prop where
  f0 : 0 ≤ E i 0
  f1 : E i 0 < n
  t0 : 0 ≤ E i 1
  t1 : E i 1 < n
  c0 : 0 ≤ E i 2
  c1 : E i 2 ≤ 1099511627776
structure Ok (n : Int) (m : Nat) (E : Tab) : Prop where
  n1 : 1 ≤ n
  n2 : n ≤ 512
  hm : m ≤ 8192
  e : ∀ i, i < m → Eok n E i
theorem erow_0 {n : Int} {E : Tab} {i : Nat} : erow n E i = 0 ↔ Eok n E i := by
  unfold erow er1
  constructor
  · intro h
    split at h
    · rename_i h1
      rw [Bool.and_eq_true, nd_iff, nd_iff] at h1
      split at h
      · rename_i h2
        rw [inC_iff] at h2
        exact ⟨h1.1.1, h1.1.2, h1.2.1, h1.2.2, h2.1, h2.2⟩
      · omega
    · omega
  · intro h
    rw [if_pos (by rw [Bool.and_eq_true, nd_iff, nd_iff]; exact ⟨⟨h.f0, h.f1⟩, h.t0, h.t1⟩), if_pos (by rw [inC_iff]; exact ⟨h.c0, h.c1⟩)]
theorem erow_1 {n : Int} {E : Tab} {i : Nat} (h : (nd n (E i 0) && nd n (E i 1)) = false) : erow n E i = 1 := by unfold erow er1; rw [h]; rfl
theorem erow_2 {n : Int} {E : Tab} {i : Nat} (h : (nd n (E i 0) && nd n (E i 1)) = true) (h2 : inC (E i 2) = false) : erow n E i = 2 := by unfold erow er1; rw [h, h2]; rfl
theorem ckE_0 (n : Int) (E : Tab) : ∀ m, ckE n E m = 0 ↔ ∀ i, i < m → Eok n E i
  | 0 => by simp [ckE]
  | k + 1 => by
    rw [ckE]
    constructor
    · intro h i hi
      split at h
      · rename_i h1
        by_cases e : i = k
        · subst e; exact erow_0.1 h
        · exact (ckE_0 n E k).1 h1 i (by omega)
      · omega
    · intro h
      rw [if_pos ((ckE_0 n E k).2 fun i hi => h i (by omega))]
      exact erow_0.2 (h k (by omega))
theorem ckE_stop {n : Int} {E : Tab} {k : Nat} (h : ckE n E k = 0) (h2 : erow n E k ≠ 0) : ∀ m, k < m → ckE n E m = erow n E k
  | 0, hm => by omega
  | m + 1, hm => by
    rw [ckE]
    by_cases e : m = k
    · subst e; rw [if_pos h]
    · have := ckE_stop h h2 m (by omega)
      rw [if_neg (by omega), this]
theorem ck_ok {n : Int} {m : Nat} {E : Tab} : ck n m E = 0 ↔ Ok n m E := by
  unfold ck
  constructor
  · intro h
    split at h
    · omega
    · rename_i h1
      exact ⟨by omega, by omega, by omega, (ckE_0 n E m).1 h⟩
  · intro h
    rw [if_neg (by have := h.n1; have := h.n2; have := h.hm; omega)]
    exact (ckE_0 n E m).2 h.e
theorem ck_3 {n : Int} {m : Nat} {E : Tab} (h : n < 1 ∨ 512 < n ∨ 8192 < m) : ck n m E = 3 := if_pos h
theorem ck_stop {n : Int} {m : Nat} {E : Tab} (h0 : ¬ (n < 1 ∨ 512 < n ∨ 8192 < m)) {k : Nat} (hk : k < m) (h : ckE n E k = 0) (h2 : erow n E k ≠ 0) : ck n m E = erow n E k := by
  unfold ck; rw [if_neg h0]; exact ckE_stop h h2 m hk
theorem ck_end {n : Int} {m : Nat} {E : Tab} (h0 : ¬ (n < 1 ∨ 512 < n ∨ 8192 < m)) (h : ckE n E m = 0) : ck n m E = 0 := by
  unfold ck; rw [if_neg h0]; exact h
theorem ckE_next {n : Int} {E : Tab} {k : Nat} (h : ckE n E k = 0) (h2 : erow n E k = 0) : ckE n E (k + 1) = 0 := by rw [ckE, if_pos h, h2]
/-- The error of a graph and two of its nodes. -/
def en (n : Int) (m : Nat) (E : Tab) (a b : Int) : Int := if ck n m E ≠ 0 then ck n m E else if (nd n a && nd n b) = true then 0 else 1
structure En (n : Int) (m : Nat) (E : Tab) (a b : Int) : Prop where
  ok : Ok n m E
  a0 : 0 ≤ a
  a1 : a < n
  b0 : 0 ≤ b
  b1 : b < n
theorem en_ok {n : Int} {m : Nat} {E : Tab} {a b : Int} : en n m E a b = 0 ↔ En n m E a b := by
  unfold en
  constructor
  · intro h
    split at h
    · omega
    · rename_i h1
      split at h
      · rename_i h2
        rw [Bool.and_eq_true, nd_iff, nd_iff] at h2
        exact ⟨ck_ok.1 (by omega), h2.1.1, h2.1.2, h2.2.1, h2.2.2⟩
      · omega
  · intro h
    rw [if_neg (by rw [ck_ok.2 h.ok]; omega), if_pos (by rw [Bool.and_eq_true, nd_iff, nd_iff]; exact ⟨⟨h.a0, h.a1⟩, h.b0, h.b1⟩)]
theorem en_ck {n : Int} {m : Nat} {E : Tab} {a b : Int} (h : ck n m E ≠ 0) : en n m E a b = ck n m E := if_pos h
theorem en_1 {n : Int} {m : Nat} {E : Tab} {a b : Int} (h : ck n m E = 0) (h2 : (nd n a && nd n b) = false) : en n m E a b = 1 := by
  unfold en; rw [if_neg (by omega), h2]; rfl
theorem en_0 {n : Int} {m : Nat} {E : Tab} {a b : Int} (h : ck n m E = 0) (h2 : (nd n a && nd n b) = true) : en n m E a b = 0 := by
  unfold en; rw [if_neg (by omega), h2]; rfl
/-! Sums and routes -/
def sm (f : Nat → Int) : Nat → Int
  | 0 => 0
  | k + 1 => sm f k + f k
/-- The node behind k edges of a route. -/
def ps (E : Tab) (R : Nat → Int) (a : Int) : Nat → Int
  | 0 => a
  | k + 1 => E (R k).toNat 1
/-- The first k indices are indices of edges. -/
def okI (m : Nat) (R : Nat → Int) : Nat → Bool
  | 0 => true
  | k + 1 => okI m R k && decide (0 ≤ R k ∧ R k < m)
def okP (E : Tab) (R : Nat → Int) (a : Int) : Nat → Bool
  | 0 => true
  | k + 1 => okP E R a k && decide (E (R k).toNat 0 = ps E R a k)
def csum (E : Tab) (R : Nat → Int) (k : Nat) : Int := sm (fun j => E (R j).toNat 2) k
def cer (n : Int) (m : Nat) (E : Tab) (a b : Int) (l : Nat) (R : Nat → Int) : Int :=
  if en n m E a b ≠ 0 then en n m E a b else if 8192 < l then 3 else if okI m R l = true then (if okP E R a l = true ∧ ps E R a l = b then 0 else 9) else 6
def cst (n : Int) (m : Nat) (E : Tab) (a b : Int) (l : Nat) (R : Nat → Int) : Int := if cer n m E a b l R = 0 then csum E R l else 0
theorem okI_iff (m : Nat) (R : Nat → Int) : ∀ l, okI m R l = true ↔ ∀ k, k < l → 0 ≤ R k ∧ R k < m
  | 0 => by simp [okI]
  | l + 1 => by
    rw [okI, Bool.and_eq_true, okI_iff m R l, decide_eq_true_iff]
    constructor
    · rintro ⟨h, h2⟩ i hi
      by_cases e : i = l
      · subst e; exact h2
      · exact h i (by omega)
    · intro h
      exact ⟨fun i hi => h i (by omega), h l (by omega)⟩
theorem okP_iff (E : Tab) (R : Nat → Int) (a : Int) : ∀ l, okP E R a l = true ↔ ∀ k, k < l → E (R k).toNat 0 = ps E R a k
  | 0 => by simp [okP]
  | l + 1 => by
    rw [okP, Bool.and_eq_true, okP_iff E R a l, decide_eq_true_iff]
    constructor
    · rintro ⟨h, h2⟩ i hi
      by_cases e : i = l
      · subst e; exact h2
      · exact h i (by omega)
    · intro h
      exact ⟨fun i hi => h i (by omega), h l (by omega)⟩
structure Rt (m : Nat) (E : Tab) (a b : Int) (l : Nat) (R : Nat → Int) : Prop where
  hl : l ≤ 8192
  i : ∀ k, k < l → 0 ≤ R k ∧ R k < m
  p : ∀ k, k < l → E (R k).toNat 0 = ps E R a k
  e : ps E R a l = b
theorem cer_ok {n : Int} {m : Nat} {E : Tab} {a b : Int} {l : Nat} {R : Nat → Int} : cer n m E a b l R = 0 ↔ En n m E a b ∧ Rt m E a b l R := by
  unfold cer
  constructor
  · intro h
    split at h
    · omega
    · rename_i h1
      split at h
      · omega
      · split at h
        · rename_i h2 h3
          split at h
          · rename_i h4
            exact ⟨en_ok.1 (by omega), ⟨by omega, (okI_iff m R l).1 h3, (okP_iff E R a l).1 h4.1, h4.2⟩⟩
          · omega
        · omega
  · rintro ⟨h, r⟩
    rw [if_neg (by rw [en_ok.2 h]; omega), if_neg (by have := r.hl; omega), if_pos ((okI_iff m R l).2 r.i), if_pos ⟨(okP_iff E R a l).2 r.p, r.e⟩]
theorem cer_en {n : Int} {m : Nat} {E : Tab} {a b : Int} {l : Nat} {R : Nat → Int} (h : en n m E a b ≠ 0) : cer n m E a b l R = en n m E a b := if_pos h
theorem cer_3 {n : Int} {m : Nat} {E : Tab} {a b : Int} {l : Nat} {R : Nat → Int} (h : en n m E a b = 0) (h2 : 8192 < l) : cer n m E a b l R = 3 := by
  unfold cer; rw [if_neg (by omega), if_pos h2]
theorem cer_6 {n : Int} {m : Nat} {E : Tab} {a b : Int} {l : Nat} {R : Nat → Int} (h : en n m E a b = 0) (h2 : ¬ 8192 < l) {k : Nat} (hk : k < l) (h3 : ¬ (0 ≤ R k ∧ R k < m)) : cer n m E a b l R = 6 := by
  unfold cer; rw [if_neg (by omega), if_neg h2, if_neg]
  intro q; exact h3 ((okI_iff m R l).1 q k hk)
theorem cer_9 {n : Int} {m : Nat} {E : Tab} {a b : Int} {l : Nat} {R : Nat → Int} (h : en n m E a b = 0) (h2 : ¬ 8192 < l) (h3 : okI m R l = true) {k : Nat} (hk : k < l) (h4 : E (R k).toNat 0 ≠ ps E R a k) : cer n m E a b l R = 9 := by
  unfold cer; rw [if_neg (by omega), if_neg h2, if_pos h3, if_neg]
  rintro ⟨q, _⟩; exact h4 ((okP_iff E R a l).1 q k hk)
theorem cer_9e {n : Int} {m : Nat} {E : Tab} {a b : Int} {l : Nat} {R : Nat → Int} (h : en n m E a b = 0) (h2 : ¬ 8192 < l) (h3 : okI m R l = true) (h4 : ps E R a l ≠ b) : cer n m E a b l R = 9 := by
  unfold cer; rw [if_neg (by omega), if_neg h2, if_pos h3, if_neg]
  rintro ⟨_, q⟩; exact h4 q
theorem cer_0 {n : Int} {m : Nat} {E : Tab} {a b : Int} {l : Nat} {R : Nat → Int} (h : en n m E a b = 0) (h2 : ¬ 8192 < l) (h3 : okI m R l = true) (h4 : okP E R a l = true) (h5 : ps E R a l = b) : cer n m E a b l R = 0 := by
  unfold cer; rw [if_neg (by omega), if_neg h2, if_pos h3, if_pos ⟨h4, h5⟩]
theorem cst_no {n : Int} {m : Nat} {E : Tab} {a b : Int} {l : Nat} {R : Nat → Int} (h : cer n m E a b l R ≠ 0) : cst n m E a b l R = 0 := if_neg h
theorem cst_yes {n : Int} {m : Nat} {E : Tab} {a b : Int} {l : Nat} {R : Nat → Int} (h : cer n m E a b l R = 0) : cst n m E a b l R = csum E R l := if_pos h
theorem csum_bd {n : Int} {m : Nat} {E : Tab} {R : Nat → Int} (O : Ok n m E) : ∀ {l : Nat}, (∀ k, k < l → 0 ≤ R k ∧ R k < m) → 0 ≤ csum E R l ∧ csum E R l ≤ l * 1099511627776
  | 0, _ => by simp [csum, sm]
  | l + 1, h => by
    have ih := csum_bd O (l := l) (fun k hk => h k (by omega))
    have hr := h l (by omega)
    have he := O.e (R l).toNat (by omega)
    have h0 := he.c0
    have h1 := he.c1
    unfold csum at ih ⊢
    rw [sm]
    omega
theorem ps_bd {n : Int} {m : Nat} {E : Tab} {R : Nat → Int} {a : Int} (O : Ok n m E) (a0 : 0 ≤ a) (a1 : a < n) {l : Nat} (h : ∀ k, k < l → 0 ≤ R k ∧ R k < m) : ∀ k, k ≤ l → 0 ≤ ps E R a k ∧ ps E R a k < n
  | 0, _ => ⟨a0, a1⟩
  | k + 1, hk => by
    have hr := h k (by omega)
    have he := O.e (R k).toNat (by omega)
    exact ⟨he.t0, he.t1⟩
/-! The first index -/
def fi (p : Nat → Bool) : Nat → Int
  | 0 => -1
  | k + 1 => if 0 ≤ fi p k then fi p k else if p k = true then k else -1
theorem fi_bd (p : Nat → Bool) : ∀ m, -1 ≤ fi p m ∧ fi p m < m
  | 0 => by simp [fi]
  | k + 1 => by
    have := fi_bd p k
    rw [fi]
    split
    · omega
    · split <;> omega
theorem fi_no (p : Nat → Bool) : ∀ m, fi p m = -1 ↔ ∀ i, i < m → p i = false
  | 0 => by simp [fi]
  | k + 1 => by
    have hb := fi_bd p k
    have ih := fi_no p k
    rw [fi]
    constructor
    · intro h i hi
      split at h
      · omega
      · rename_i h1
        split at h
        · omega
        · rename_i h2
          by_cases e : i = k
          · subst e; simpa using h2
          · exact ih.1 (by omega) i (by omega)
    · intro h
      have h1 := ih.2 fun i hi => h i (by omega)
      rw [if_neg (by omega), if_neg (by rw [h k (by omega)]; simp)]
theorem fi_hit {p : Nat → Bool} {k : Nat} (h : ∀ i, i < k → p i = false) (hp : p k = true) : ∀ m, k < m → fi p m = k
  | 0, hm => by omega
  | m + 1, hm => by
    rw [fi]
    by_cases e : m = k
    · subst e
      have := (fi_no p m).2 h
      rw [if_neg (by omega), if_pos hp]
    · have := fi_hit h hp m (by omega)
      rw [if_pos (by omega), this]
theorem fi_yes {p : Nat → Bool} : ∀ {m : Nat}, 0 ≤ fi p m → p (fi p m).toNat = true
  | 0, h => by simp [fi] at h
  | k + 1, h => by
    rw [fi] at h ⊢
    split at h
    · rename_i h1
      rw [if_pos h1]
      exact fi_yes h1
    · rename_i h1
      rw [if_neg h1]
      split at h
      · rename_i h2
        rw [if_pos h2]
        simpa using h2
      · omega
theorem fi_congr {p q : Nat → Bool} : ∀ {m : Nat}, (∀ i, i < m → p i = q i) → fi p m = fi q m
  | 0, _ => rfl
  | k + 1, h => by rw [fi, fi, fi_congr (m := k) (fun i hi => h i (by omega)), h k (by omega)]
/-! Potentials -/
def okR (P : Nat → Int) : Nat → Bool
  | 0 => true
  | k + 1 => okR P k && decide (-1152921504606846976 ≤ P k ∧ P k ≤ 1152921504606846976)
theorem okR_iff (P : Nat → Int) : ∀ l, okR P l = true ↔ ∀ k, k < l → -1152921504606846976 ≤ P k ∧ P k ≤ 1152921504606846976
  | 0 => by simp [okR]
  | l + 1 => by
    rw [okR, Bool.and_eq_true, okR_iff P l, decide_eq_true_iff]
    constructor
    · rintro ⟨h, h2⟩ i hi
      by_cases e : i = l
      · subst e; exact h2
      · exact h i (by omega)
    · intro h
      exact ⟨fun i hi => h i (by omega), h l (by omega)⟩
def ver (n : Int) (m : Nat) (E : Tab) (l : Nat) (P : Nat → Int) : Int := if ck n m E ≠ 0 then ck n m E else if (l : Int) ≠ n then 1 else if okR P l = true then 0 else 2
def vp (E : Tab) (P : Nat → Int) (i : Nat) : Bool := decide (E i 2 < P (E i 1).toNat - P (E i 0).toNat)
def vix (n : Int) (m : Nat) (E : Tab) (l : Nat) (P : Nat → Int) : Int := if ver n m E l P = 0 then fi (vp E P) m else 0
structure Pk (n : Int) (m : Nat) (E : Tab) (l : Nat) (P : Nat → Int) : Prop where
  ok : Ok n m E
  hl : (l : Int) = n
  r : ∀ k, k < l → -1152921504606846976 ≤ P k ∧ P k ≤ 1152921504606846976
theorem ver_ok {n : Int} {m : Nat} {E : Tab} {l : Nat} {P : Nat → Int} : ver n m E l P = 0 ↔ Pk n m E l P := by
  unfold ver
  constructor
  · intro h
    split at h
    · omega
    · rename_i h1
      split at h
      · omega
      · split at h
        · rename_i h2 h3
          exact ⟨ck_ok.1 (by omega), by omega, (okR_iff P l).1 h3⟩
        · omega
  · intro h
    rw [if_neg (by rw [ck_ok.2 h.ok]; omega), if_neg (by have := h.hl; omega), if_pos ((okR_iff P l).2 h.r)]
theorem ver_ck {n : Int} {m : Nat} {E : Tab} {l : Nat} {P : Nat → Int} (h : ck n m E ≠ 0) : ver n m E l P = ck n m E := if_pos h
theorem ver_1 {n : Int} {m : Nat} {E : Tab} {l : Nat} {P : Nat → Int} (h : ck n m E = 0) (h2 : (l : Int) ≠ n) : ver n m E l P = 1 := by unfold ver; rw [if_neg (by omega), if_pos h2]
theorem ver_2 {n : Int} {m : Nat} {E : Tab} {l : Nat} {P : Nat → Int} (h : ck n m E = 0) (h2 : (l : Int) = n) {k : Nat} (hk : k < l) (h3 : ¬ (-1152921504606846976 ≤ P k ∧ P k ≤ 1152921504606846976)) : ver n m E l P = 2 := by
  unfold ver; rw [if_neg (by omega), if_neg (by omega), if_neg]
  intro q; exact h3 ((okR_iff P l).1 q k hk)
theorem ver_0 {n : Int} {m : Nat} {E : Tab} {l : Nat} {P : Nat → Int} (h : ck n m E = 0) (h2 : (l : Int) = n) (h3 : okR P l = true) : ver n m E l P = 0 := by
  unfold ver; rw [if_neg (by omega), if_neg (by omega), if_pos h3]
theorem vix_no {n : Int} {m : Nat} {E : Tab} {l : Nat} {P : Nat → Int} (h : ver n m E l P ≠ 0) : vix n m E l P = 0 := if_neg h
theorem vix_yes {n : Int} {m : Nat} {E : Tab} {l : Nat} {P : Nat → Int} (h : ver n m E l P = 0) : vix n m E l P = fi (vp E P) m := if_pos h
def ber (n : Int) (m : Nat) (E : Tab) (a b : Int) (l : Nat) (P : Nat → Int) : Int :=
  if en n m E a b ≠ 0 then en n m E a b else if ver n m E l P ≠ 0 then ver n m E l P else if 0 ≤ fi (vp E P) m then 9 else 0
def bnd (n : Int) (m : Nat) (E : Tab) (a b : Int) (l : Nat) (P : Nat → Int) : Int := if ber n m E a b l P = 0 then P b.toNat - P a.toNat else 0
theorem ber_ok {n : Int} {m : Nat} {E : Tab} {a b : Int} {l : Nat} {P : Nat → Int} : ber n m E a b l P = 0 ↔ En n m E a b ∧ Pk n m E l P ∧ ∀ i, i < m → P (E i 1).toNat - P (E i 0).toNat ≤ E i 2 := by
  have hf : fi (vp E P) m < 0 ↔ ∀ i, i < m → P (E i 1).toNat - P (E i 0).toNat ≤ E i 2 := by
    have hb := fi_bd (vp E P) m
    rw [show (fi (vp E P) m < 0) = (fi (vp E P) m = -1) from propext (by omega), fi_no]
    constructor
    · intro h i hi
      have := h i hi
      unfold vp at this
      rw [decide_eq_false_iff_not] at this
      omega
    · intro h i hi
      have := h i hi
      unfold vp
      rw [decide_eq_false_iff_not]
      omega
  unfold ber
  constructor
  · intro h
    split at h
    · omega
    · split at h
      · omega
      · split at h
        · omega
        · rename_i h1 h2 h3
          exact ⟨en_ok.1 (by omega), ver_ok.1 (by omega), hf.1 (by omega)⟩
  · rintro ⟨h1, h2, h3⟩
    have := hf.2 h3
    rw [if_neg (by rw [en_ok.2 h1]; omega), if_neg (by rw [ver_ok.2 h2]; omega), if_neg (by omega)]
theorem ber_en {n : Int} {m : Nat} {E : Tab} {a b : Int} {l : Nat} {P : Nat → Int} (h : en n m E a b ≠ 0) : ber n m E a b l P = en n m E a b := if_pos h
theorem ber_ver {n : Int} {m : Nat} {E : Tab} {a b : Int} {l : Nat} {P : Nat → Int} (h : en n m E a b = 0) (h2 : ver n m E l P ≠ 0) : ber n m E a b l P = ver n m E l P := by
  unfold ber; rw [if_neg (by omega), if_pos h2]
theorem ber_9 {n : Int} {m : Nat} {E : Tab} {a b : Int} {l : Nat} {P : Nat → Int} (h : en n m E a b = 0) (h2 : ver n m E l P = 0) (h3 : 0 ≤ fi (vp E P) m) : ber n m E a b l P = 9 := by
  unfold ber; rw [if_neg (by omega), if_neg (by omega), if_pos h3]
theorem ber_0 {n : Int} {m : Nat} {E : Tab} {a b : Int} {l : Nat} {P : Nat → Int} (h : en n m E a b = 0) (h2 : ver n m E l P = 0) (h3 : fi (vp E P) m < 0) : ber n m E a b l P = 0 := by
  unfold ber; rw [if_neg (by omega), if_neg (by omega), if_neg (by omega)]
theorem bnd_no {n : Int} {m : Nat} {E : Tab} {a b : Int} {l : Nat} {P : Nat → Int} (h : ber n m E a b l P ≠ 0) : bnd n m E a b l P = 0 := if_neg h
theorem bnd_yes {n : Int} {m : Nat} {E : Tab} {a b : Int} {l : Nat} {P : Nat → Int} (h : ber n m E a b l P = 0) : bnd n m E a b l P = P b.toNat - P a.toNat := if_pos h
/-- The verdict on a route with potentials. -/
def acc (n : Int) (m : Nat) (E : Tab) (a b : Int) (l : Nat) (P : Nat → Int) (r : Nat) (R : Nat → Int) : Int :=
  if cer n m E a b r R ≠ 0 then cer n m E a b r R else if ber n m E a b l P ≠ 0 then ber n m E a b l P else if bnd n m E a b l P < cst n m E a b r R then 11 else 0
/-- What potentials prove: no route costs less. -/
theorem below {n : Int} {m : Nat} {E : Tab} {a : Int} {P R : Nat → Int} (hv : ∀ i, i < m → P (E i 1).toNat - P (E i 0).toNat ≤ E i 2) : ∀ {l : Nat}, (∀ k, k < l → 0 ≤ R k ∧ R k < m) → (∀ k, k < l → E (R k).toNat 0 = ps E R a k) → P (ps E R a l).toNat - P a.toNat ≤ csum E R l
  | 0, _, _ => by simp [ps, csum, sm]
  | l + 1, h, hp => by
    have ih := below (P := P) (n := n) hv (l := l) (fun k hk => h k (by omega)) (fun k hk => hp k (by omega))
    have hr := h l (by omega)
    have he := hv (R l).toNat (by omega)
    rw [hp l (by omega)] at he
    unfold csum at ih ⊢
    rw [sm, ps]
    omega
end Ce
end Go.Proofs.Ytbmfkncfenkjoaa
