/-
  The law of chains, second part: smallest conflicts, mirrored chains, opened windows, the reference's tight windows; no program in sight.
-/
import Derived.Test.YtpipjpgcnbpllaaPlain2
namespace Go.Proofs.Ytpipjpgcnbpllaa
set_option linter.unusedVariables false
set_option linter.unusedSimpArgs false
namespace Co
/-- Windows without a restriction. -/
def frN : Tab := fun _ f => if f = 0 then -1099511627776 else 1099511627776
theorem frN_0 (k : Nat) : frN k 0 = -1099511627776 := rfl
theorem frN_1 (k : Nat) : frN k 1 = 1099511627776 := rfl
def Bd (n : Nat) (N : Tab) : Prop := ∀ i, i < n → (-1099511627776 ≤ N i 0 ∧ N i 0 ≤ 1099511627776) ∧ (-1099511627776 ≤ N i 1 ∧ N i 1 ≤ 1099511627776)
theorem Ok.bd {n m : Nat} {N S : Tab} (h : Ok n N m S) : Bd n N := fun i hi => ⟨h.w0 i hi, h.w1 i hi⟩
theorem Ok.of_bd {n m : Nat} {N N' S : Tab} (h : Ok n N m S) (b : Bd n N') : Ok n N' m S := ⟨h.hn, h.hm, fun i hi => (b i hi).1, fun i hi => (b i hi).2, h.s0, h.s1⟩
theorem bd_fr (n : Nat) : Bd n frN := fun i _ => by rw [frN_0, frN_1]; omega
theorem Bd.set {n : Nat} {N : Tab} (h : Bd n N) {i : Nat} {a b : Int} (ha : -1099511627776 ≤ a ∧ a ≤ 1099511627776) (hb : -1099511627776 ≤ b ∧ b ≤ 1099511627776) : Bd n (setW N i a b) := fun k hk => by
  by_cases e : k = i
  · subst e; rw [setW_0, setW_1]; exact ⟨ha, hb⟩
  · rw [setW_ne _ _ _ _ e, setW_ne _ _ _ _ e]; exact h k hk
theorem one_free {n m : Nat} {N S : Tab} (h : Ok n N m S) {k : Nat} (hk : k < n) (hw : N k 0 ≤ N k 1) : ck n (setW frN k (N k 0) (N k 1)) m S = 0 ∧ cB n (setW frN k (N k 0) (N k 1)) S = false := by
  have bd : Bd n (setW frN k (N k 0) (N k 1)) := (bd_fr n).set (h.w0 k hk) (h.w1 k hk)
  refine ⟨ck_ok.2 (h.of_bd bd), cB_false.2 fun a c ha hc => ?_⟩
  have d := dd_nonneg h.pos (k := c) (i := a) (by omega) (by omega)
  have ba := bd a ha
  have bc := bd c hc
  by_cases ea : a = k
  · subst ea
    by_cases ec : c = a
    · subst ec; rw [setW_0, setW_1, dd_self]; omega
    · rw [setW_ne _ _ _ 1 ec, frN_1]; omega
  · rw [setW_ne _ _ _ 0 ea, frN_0]; omega
theorem two_free {n m : Nat} {N S : Tab} (h : Ok n N m S) {i j : Nat} (hij : i ≤ j) (hj : j < n) (hx : 0 < ex N S i j) :
    ck n (setW (setW frN i (N i 0) (N i 1)) j (N j 0) (N j 1)) m S = 0 ∧ cB n (setW (setW frN i (N i 0) (N i 1)) j (N j 0) (N j 1)) S = true ∧
    cI n (setW (setW frN i (N i 0) (N i 1)) j (N j 0) (N j 1)) S = i ∧ cJ n (setW (setW frN i (N i 0) (N i 1)) j (N j 0) (N j 1)) S = j := by
  generalize hM : setW (setW frN i (N i 0) (N i 1)) j (N j 0) (N j 1) = M
  have bd : Bd n M := by rw [← hM]; exact ((bd_fr n).set (h.w0 i (by omega)) (h.w1 i (by omega))).set (h.w0 j hj) (h.w1 j hj)
  have mj : ∀ f, M j f = N j f ∨ 1 < f := fun f => by
    rw [← hM]; match f with | 0 => exact .inl (setW_0 _ _ _ _) | 1 => exact .inl (setW_1 _ _ _ _) | f + 2 => exact .inr (by omega)
  have mi : ∀ f, M i f = N i f ∨ 1 < f := fun f => by
    by_cases e : i = j
    · subst e; exact mj f
    · rw [← hM, setW_ne _ _ _ _ e]; match f with | 0 => exact .inl (setW_0 _ _ _ _) | 1 => exact .inl (setW_1 _ _ _ _) | f + 2 => exact .inr (by omega)
  have mj0 : M j 0 = N j 0 := (mj 0).resolve_right (by omega)
  have mj1 : M j 1 = N j 1 := (mj 1).resolve_right (by omega)
  have mi0 : M i 0 = N i 0 := (mi 0).resolve_right (by omega)
  have mi1 : M i 1 = N i 1 := (mi 1).resolve_right (by omega)
  have mo : ∀ k, k ≠ i → k ≠ j → M k 0 = -1099511627776 ∧ M k 1 = 1099511627776 := fun k h1 h2 => by
    rw [← hM, setW_ne _ _ _ _ h2, setW_ne _ _ _ _ h1, setW_ne _ _ _ _ h2, setW_ne _ _ _ _ h1]; exact ⟨rfl, rfl⟩
  clear hM mj mi
  refine ⟨ck_ok.2 (h.of_bd bd), c_only hij hj ?_ fun a b hab hb hp => ?_⟩
  · by_cases e : i = j
    · subst e; rw [ex_self] at hx ⊢; omega
    · obtain ⟨p1, p2⟩ := ex_pos (by omega) hx
      rw [ex_lt N S (by omega) p1 p2] at hx
      rw [ex_lt M S (by omega) (by omega) (by omega)]; omega
  · by_cases eij : i = j
    · subst eij
      rw [ex_self] at hx
      by_cases e : a = b
      · subst e
        by_cases q : a = i
        · exact ⟨q, q⟩
        · rw [ex_self] at hp; obtain ⟨m1, m2⟩ := mo a q q; omega
      · obtain ⟨p1, p2⟩ := ex_pos (by omega) hp
        have qa : a ≠ i := by rintro rfl; omega
        have qb : b ≠ i := by rintro rfl; omega
        obtain ⟨m1, m2⟩ := mo a qa qa
        obtain ⟨m3, m4⟩ := mo b qb qb
        have d1 := dd_nonneg h.pos (k := a) (i := b) (by omega) (by omega)
        have d2 := dd_nonneg h.pos (k := b) (i := a) (by omega) (by omega)
        rw [ex_lt M S (by omega) p1 p2] at hp
        omega
    · obtain ⟨n1, n2⟩ := ex_pos (by omega) hx
      by_cases e : a = b
      · subst e
        rw [ex_self] at hp
        by_cases q : a = i
        · subst q; omega
        · by_cases q2 : a = j
          · subst q2; omega
          · obtain ⟨m1, m2⟩ := mo a q q2; omega
      · obtain ⟨p1, p2⟩ := ex_pos (by omega) hp
        have d1 := dd_nonneg h.pos (k := a) (i := b) (by omega) (by omega)
        have d2 := dd_nonneg h.pos (k := b) (i := a) (by omega) (by omega)
        rw [ex_lt M S (by omega) p1 p2] at hp
        have ba := bd a (by omega)
        have bb := bd b hb
        by_cases qa : a = i ∨ a = j
        · by_cases qb : b = i ∨ b = j
          · omega
          · obtain ⟨m3, m4⟩ := mo b (by omega) (by omega); omega
        · obtain ⟨m1, m2⟩ := mo a (by omega) (by omega); omega
/-- A chain read from its end. -/
def mrN (n : Nat) (N : Tab) : Tab := fun i f => N (n - 1 - i) f
def mrS (m : Nat) (S : Tab) : Tab := fun i f => if f = 0 then S (m - 1 - i) 1 else S (m - 1 - i) 0
theorem mr_ck (n : Nat) (N : Tab) (m : Nat) (S : Tab) : ck n (mrN n N) m (mrS m S) = ck n N m S := by
  unfold ck
  have e : (okW (mrN n N) n = true ∧ okS (mrS m S) m = true) = (okW N n = true ∧ okS S m = true) := by
    apply propext
    rw [okW_iff, okW_iff, okS_iff, okS_iff]
    constructor
    · rintro ⟨a, b⟩
      refine ⟨fun i hi => ?_, fun i hi => ?_⟩
      · have := a (n - 1 - i) (by omega)
        simp only [mrN] at this
        rw [show n - 1 - (n - 1 - i) = i from by omega] at this; exact this
      · have := b (m - 1 - i) (by omega)
        simp only [mrS, if_true, if_neg (show ¬ (1 : Nat) = 0 by omega)] at this
        rw [show m - 1 - (m - 1 - i) = i from by omega] at this; exact ⟨this.2, this.1⟩
    · rintro ⟨a, b⟩
      refine ⟨fun i hi => a (n - 1 - i) (by omega), fun i hi => ?_⟩
      have := b (m - 1 - i) (by omega)
      simp only [mrS, if_true, if_neg (show ¬ (1 : Nat) = 0 by omega)]
      exact ⟨this.2, this.1⟩
  simp only [e]
theorem mr_pf (m : Nat) (S : Tab) : ∀ i, i ≤ m → pf (mrS m S) 0 i = pf S 1 m - pf S 1 (m - i) ∧ pf (mrS m S) 1 i = pf S 0 m - pf S 0 (m - i)
  | 0, _ => by simp [pf, sm]
  | i + 1, h => by
    obtain ⟨a, b⟩ := mr_pf m S i (by omega)
    rw [pf_succ, pf_succ, a, b, show m - i = (m - (i + 1)) + 1 from by omega, pf_succ, pf_succ]
    simp only [mrS, if_true, if_neg (show ¬ (1 : Nat) = 0 by omega)]
    rw [show m - 1 - i = m - (i + 1) from by omega]
    omega
theorem mr_dd {n : Nat} (S : Tab) {k i : Nat} (hk : k < n) (hi : i < n) : dd (mrS (n - 1) S) k i = dd S (n - 1 - k) (n - 1 - i) := by
  unfold dd
  rw [(mr_pf (n - 1) S i (by omega)).1, (mr_pf (n - 1) S k (by omega)).1, (mr_pf (n - 1) S k (by omega)).2, (mr_pf (n - 1) S i (by omega)).2]
  by_cases a : k ≤ i <;> by_cases b : n - 1 - k ≤ n - 1 - i <;> simp only [a, b, if_true, if_false]
  · have : i = k := by omega
    subst this; omega
  · omega
  · omega
  · omega
theorem mr_noC {n : Nat} {N S : Tab} : NoC n (mrN n N) (mrS (n - 1) S) ↔ NoC n N S := by
  constructor
  · intro h i k hi hk
    have := h (n - 1 - i) (n - 1 - k) (by omega) (by omega)
    rw [mr_dd S (by omega) (by omega)] at this
    simp only [mrN] at this
    rw [show n - 1 - (n - 1 - i) = i from by omega, show n - 1 - (n - 1 - k) = k from by omega] at this
    exact this
  · intro h i k hi hk
    rw [mr_dd S hk hi]
    exact h (n - 1 - i) (n - 1 - k) (by omega) (by omega)
theorem mr_pos {n : Nat} {S : Tab} (h : Pos (n - 1) S) : Pos (n - 1) (mrS (n - 1) S) := fun i hi => by
  have := h (n - 1 - 1 - i) (by omega)
  simp only [mrS, if_true, if_neg (show ¬ (1 : Nat) = 0 by omega)]
  exact ⟨this.2, this.1⟩
theorem mr_thi {n : Nat} {N S : Tab} (h : Pos (n - 1) S) {i : Nat} (hi : i < n) : thi n (mrN n N) (mrS (n - 1) S) (n - 1 - i) = thi n N S i := by
  refine (thi_is (N := mrN n N) (mr_pos h) (show n - 1 - i < n by omega)).uniq ?_
  obtain ⟨a, l, hl, el⟩ := thi_is (N := N) h hi
  constructor
  · intro k hk
    rw [mr_dd S hk (by omega), show n - 1 - (n - 1 - i) = i from by omega]
    exact a (n - 1 - k) (by omega)
  · refine ⟨n - 1 - l, by omega, ?_⟩
    rw [mr_dd S (by omega) (by omega), show n - 1 - (n - 1 - i) = i from by omega, el]
    simp only [mrN]
    rw [show n - 1 - (n - 1 - l) = l from by omega]
theorem mr_tlo {n : Nat} {N S : Tab} (h : Pos (n - 1) S) {i : Nat} (hi : i < n) : tlo n (mrN n N) (mrS (n - 1) S) (n - 1 - i) = tlo n N S i := by
  refine (tlo_is (N := mrN n N) (mr_pos h) (show n - 1 - i < n by omega)).uniq ?_
  obtain ⟨a, l, hl, el⟩ := tlo_is (N := N) h hi
  constructor
  · intro k hk
    rw [mr_dd S (by omega) hk, show n - 1 - (n - 1 - i) = i from by omega]
    exact a (n - 1 - k) (by omega)
  · refine ⟨n - 1 - l, by omega, ?_⟩
    rw [mr_dd S (by omega) (by omega), show n - 1 - (n - 1 - i) = i from by omega, el]
    simp only [mrN]
    rw [show n - 1 - (n - 1 - l) = l from by omega]
theorem mr_tgE (n : Nat) (N : Tab) (m : Nat) (S : Tab) : tgE n (mrN n N) m (mrS m S) = tgE n N m S := by
  unfold tgE
  rw [mr_ck]
  by_cases h : ck n N m S = 0
  · have o := ck_ok.1 h
    have hm := o.hm
    subst hm
    have e : cB n (mrN n N) (mrS (n - 1) S) = cB n N S := by
      cases q : cB n N S
      · exact cB_false.2 (mr_noC.2 (cB_false.1 q))
      · cases q2 : cB n (mrN n N) (mrS (n - 1) S)
        · rw [cB_false.2 (mr_noC.1 (cB_false.1 q2))] at q; cases q
        · rfl
    rw [e]
  · rw [if_pos h, if_pos h]
/-- A window that is opened by a conflict's excess. -/
theorem eased {n m : Nat} {N S : Tab} (h : Ok n N m S) {i j : Nat} (hij : i ≤ j) (hj : j < n) {x : Int} (ex_ : ex N S i j = x) (hx : 0 < x) :
    (ex (setW N j (max (N j 0 - x) (-1099511627776)) (N j 1)) S i j ≤ 0 ∨ ex (setW N j (N j 0) (min (N j 1 + x) 1099511627776)) S i j ≤ 0) ∧
    0 < ex (setW N j (max (N j 0 - (x - 1)) (-1099511627776)) (N j 1)) S i j ∧ 0 < ex (setW N j (N j 0) (min (N j 1 + (x - 1)) 1099511627776)) S i j := by
  have b0 := h.w0 j hj
  have b1 := h.w1 j hj
  by_cases e : i = j
  · subst e
    rw [ex_self] at ex_
    simp only [ex_self, setW_0, setW_1]
    omega
  · have hlt : i < j := by omega
    rw [← ex_] at hx
    obtain ⟨p1, p2⟩ := ex_pos hlt hx
    rw [ex_lt N S hlt p1 p2] at ex_ hx
    have d1 := dd_nonneg h.pos (k := i) (i := j) (by omega) (by omega)
    have d2 := dd_nonneg h.pos (k := j) (i := i) (by omega) (by omega)
    have c0 := h.w0 i (by omega)
    have c1 := h.w1 i (by omega)
    have f0 : ∀ a b f, setW N j a b i f = N i f := fun a b f => setW_ne N a b f e
    refine ⟨?_, ?_, ?_⟩
    · by_cases q : N i 0 - dd S j i - N j 1 ≤ N j 0 - (N i 1 + dd S i j)
      · left
        rw [ex_lt _ S hlt (by rw [f0, f0]; exact p1) (by rw [setW_0, setW_1]; omega)]
        simp only [f0, setW_0, setW_1]; omega
      · right
        rw [ex_lt _ S hlt (by rw [f0, f0]; exact p1) (by rw [setW_0, setW_1]; omega)]
        simp only [f0, setW_0, setW_1]; omega
    · rw [ex_lt _ S hlt (by rw [f0, f0]; exact p1) (by rw [setW_0, setW_1]; omega)]
      simp only [f0, setW_0, setW_1]; omega
    · rw [ex_lt _ S hlt (by rw [f0, f0]; exact p1) (by rw [setW_0, setW_1]; omega)]
      simp only [f0, setW_0, setW_1]; omega
/-- The reference's tight windows: node i against the first c nodes. -/
def rhi (N S : Tab) (i : Nat) : Nat → Int
  | 0 => N i 1
  | k + 1 => if k < i then min (rhi N S i k) (N k 1 + sm S 0 k (i - k)) else if i < k then min (rhi N S i k) (N k 1 + sm S 1 i (k - i)) else rhi N S i k
def rlo (N S : Tab) (i : Nat) : Nat → Int
  | 0 => N i 0
  | k + 1 => if k < i then max (rlo N S i k) (N k 0 - sm S 1 k (i - k)) else if i < k then max (rlo N S i k) (N k 0 - sm S 0 i (k - i)) else rlo N S i k
theorem sm_dd0 {S : Tab} {k i : Nat} (h : k < i) : sm S 0 k (i - k) = dd S k i ∧ sm S 1 k (i - k) = dd S i k := by
  rw [sm_pf, sm_pf, show k + (i - k) = i from by omega]; unfold dd
  rw [if_pos (by omega), if_neg (by omega)]; exact ⟨rfl, rfl⟩
theorem rhi_is (N S : Tab) (i : Nat) : ∀ c, (∀ k, (k < c ∨ k = i) → rhi N S i c ≤ N k 1 + dd S k i) ∧ ∃ k, (k < c ∨ k = i) ∧ rhi N S i c = N k 1 + dd S k i
  | 0 => ⟨fun k hk => by
      obtain rfl : k = i := by omega
      rw [dd_self, rhi]; omega, i, .inr rfl, by rw [dd_self, rhi]; omega⟩
  | c + 1 => by
    obtain ⟨h1, l, hl, el⟩ := rhi_is N S i c
    rw [rhi]
    by_cases a : c < i
    · rw [if_pos a, (sm_dd0 a).1]
      constructor
      · intro k hk
        by_cases e : k = c
        · subst e; omega
        · have := h1 k (by omega); omega
      · by_cases q : rhi N S i c ≤ N c 1 + dd S c i
        · exact ⟨l, by omega, by omega⟩
        · exact ⟨c, by omega, by omega⟩
    · rw [if_neg a]
      by_cases b : i < c
      · rw [if_pos b, (sm_dd0 b).2]
        constructor
        · intro k hk
          by_cases e : k = c
          · subst e; omega
          · have := h1 k (by omega); omega
        · by_cases q : rhi N S i c ≤ N c 1 + dd S c i
          · exact ⟨l, by omega, by omega⟩
          · exact ⟨c, by omega, by omega⟩
      · rw [if_neg b]
        exact ⟨fun k hk => h1 k (by omega), l, by omega, el⟩
theorem rlo_is (N S : Tab) (i : Nat) : ∀ c, (∀ k, (k < c ∨ k = i) → N k 0 - dd S i k ≤ rlo N S i c) ∧ ∃ k, (k < c ∨ k = i) ∧ rlo N S i c = N k 0 - dd S i k
  | 0 => ⟨fun k hk => by
      obtain rfl : k = i := by omega
      rw [dd_self, rlo]; omega, i, .inr rfl, by rw [dd_self, rlo]; omega⟩
  | c + 1 => by
    obtain ⟨h1, l, hl, el⟩ := rlo_is N S i c
    rw [rlo]
    by_cases a : c < i
    · rw [if_pos a, (sm_dd0 a).2]
      constructor
      · intro k hk
        by_cases e : k = c
        · subst e; omega
        · have := h1 k (by omega); omega
      · by_cases q : N c 0 - dd S i c ≤ rlo N S i c
        · exact ⟨l, by omega, by omega⟩
        · exact ⟨c, by omega, by omega⟩
    · rw [if_neg a]
      by_cases b : i < c
      · rw [if_pos b, (sm_dd0 b).1]
        constructor
        · intro k hk
          by_cases e : k = c
          · subst e; omega
          · have := h1 k (by omega); omega
        · by_cases q : N c 0 - dd S i c ≤ rlo N S i c
          · exact ⟨l, by omega, by omega⟩
          · exact ⟨c, by omega, by omega⟩
      · rw [if_neg b]
        exact ⟨fun k hk => h1 k (by omega), l, by omega, el⟩
theorem rhi_thi {n : Nat} {N S : Tab} (h : Pos (n - 1) S) {i : Nat} (hi : i < n) : rhi N S i n = thi n N S i := by
  obtain ⟨a, l, hl, el⟩ := rhi_is N S i n
  exact IsHi.uniq ⟨fun k hk => a k (.inl hk), l, by omega, el⟩ (thi_is h hi)
theorem rlo_tlo {n : Nat} {N S : Tab} (h : Pos (n - 1) S) {i : Nat} (hi : i < n) : rlo N S i n = tlo n N S i := by
  obtain ⟨a, l, hl, el⟩ := rlo_is N S i n
  exact IsLo.uniq ⟨fun k hk => a k (.inl hk), l, by omega, el⟩ (tlo_is h hi)
/-- Windows below wishes. -/
def lwN (N : Tab) (v : Nat → Int) : Tab := fun i f => if f = 1 then min (N i 1) (v i) else N i f
theorem lw_bd {n : Nat} {N : Tab} {v : Nat → Int} (h : Bd n N) (hv : ∀ i, i < n → -1099511627776 ≤ v i ∧ v i ≤ 1099511627776) : Bd n (lwN N v) := fun i hi => by
  have := h i hi
  have := hv i hi
  simp only [lwN, if_true, if_neg (show ¬ (0 : Nat) = 1 by omega)]
  omega
/-- No value of the greatest profile can be one unit greater. -/
theorem top_more {n m : Nat} {N S : Tab} (h : Ok n N m S) (hb : cB n N S = false) {i : Nat} (hi : i < n) (hl : thi n N S i < N i 1) :
    ck n (setW N i (thi n N S i + 1) (N i 1)) m S = 0 ∧ cB n (setW N i (thi n N S i + 1) (N i 1)) S = true := by
  have F := feas_hi h.pos (cB_false.1 hb)
  have w := F.win i hi
  have b0 := h.w0 i hi
  have b1 := h.w1 i hi
  refine ⟨ck_ok.2 (h.set (by omega) b1), ?_⟩
  cases e : cB n (setW N i (thi n N S i + 1) (N i 1)) S
  · exfalso
    have nc := cB_false.1 e
    obtain ⟨k, hk, ek⟩ := (thi_is (N := N) h.pos hi).ex
    have := nc i k hi hk
    by_cases q : k = i
    · subst q; rw [dd_self] at ek; omega
    · rw [setW_0, setW_ne _ _ _ _ q] at this; omega
  · rfl
/-- Bounds of sums and of tight values, for the walks. -/
theorem sm_bd {m : Nat} {S : Tab} {f : Nat} (h : ∀ k, k < m → 0 ≤ S k f ∧ S k f ≤ 1099511627776) (i : Nat) : ∀ c, i + c ≤ m → 0 ≤ sm S f i c ∧ sm S f i c ≤ c * 1099511627776
  | 0, _ => by simp [sm]
  | c + 1, hc => by
    have := sm_bd h i c (by omega)
    have := h (i + c) (by omega)
    rw [sm]; omega
end Co
end Go.Proofs.Ytpipjpgcnbpllaa
