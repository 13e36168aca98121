/-
  The law of chains: distances, tight windows, conflicts; no program in sight.
-/
import Derived.Test.YtpipjpgcnbpllaaPlain
namespace Go.Proofs.Ytpipjpgcnbpllaa
set_option linter.unusedVariables false
set_option linter.unusedSimpArgs false
namespace Co
/-- Sums from the first row on. -/
def pf (S : Tab) (f : Nat) (i : Nat) : Int := sm S f 0 i
theorem pf_succ (S : Tab) (f i : Nat) : pf S f (i + 1) = pf S f i + S i f := by unfold pf; rw [sm, Nat.zero_add]
theorem sm_pf (S : Tab) (f i : Nat) : ∀ c, sm S f i c = pf S f (i + c) - pf S f i
  | 0 => by simp [sm]
  | c + 1 => by rw [sm, sm_pf S f i c, show i + (c + 1) = (i + c) + 1 from rfl, pf_succ]; omega
/-- How much a value may rise from node k to node i. -/
def dd (S : Tab) (k i : Nat) : Int := if k ≤ i then pf S 0 i - pf S 0 k else pf S 1 k - pf S 1 i
def Pos (m : Nat) (S : Tab) : Prop := ∀ i, i < m → 0 ≤ S i 0 ∧ 0 ≤ S i 1
theorem pf_mono {m : Nat} {S : Tab} {f : Nat} (h : ∀ i, i < m → 0 ≤ S i f) {a b : Nat} (hab : a ≤ b) (hb : b ≤ m) : pf S f a ≤ pf S f b := by
  induction b with
  | zero => have : a = 0 := by omega
            subst this; exact Int.le_refl _
  | succ b ih =>
    by_cases e : a = b + 1
    · subst e; exact Int.le_refl _
    · have := ih (by omega) (by omega)
      rw [pf_succ]
      have := h b (by omega)
      omega
theorem dd_self (S : Tab) (i : Nat) : dd S i i = 0 := by unfold dd; rw [if_pos (Nat.le_refl _)]; omega
theorem dd_up (S : Tab) (i : Nat) : dd S i (i + 1) = S i 0 := by unfold dd; rw [if_pos (by omega), pf_succ]; omega
theorem dd_down (S : Tab) (i : Nat) : dd S (i + 1) i = S i 1 := by unfold dd; rw [if_neg (by omega), pf_succ]; omega
theorem dd_tri {m : Nat} {S : Tab} (h : Pos m S) {k j i : Nat} (hk : k ≤ m) (hj : j ≤ m) (hi : i ≤ m) : dd S k i ≤ dd S k j + dd S j i := by
  have u : ∀ a b, a ≤ b → b ≤ m → pf S 0 a ≤ pf S 0 b := fun a b => pf_mono fun x hx => (h x hx).1
  have d : ∀ a b, a ≤ b → b ≤ m → pf S 1 a ≤ pf S 1 b := fun a b => pf_mono fun x hx => (h x hx).2
  unfold dd
  by_cases a : k ≤ i <;> by_cases b : k ≤ j <;> by_cases c : j ≤ i <;> simp only [a, b, c, if_true, if_false]
  · omega
  · have := u i j (by omega) hj; have := d i j (by omega) hj; omega
  · have := u j k (by omega) hk; have := d j k (by omega) hk; omega
  · omega
  · omega
  · have := u k j (by omega) hj; have := d k j (by omega) hj; omega
  · have := u j i (by omega) hi; have := d j i (by omega) hi; omega
  · omega
theorem dd_nonneg {m : Nat} {S : Tab} (h : Pos m S) {k i : Nat} (hk : k ≤ m) (hi : i ≤ m) : 0 ≤ dd S k i := by
  unfold dd
  split
  · have := pf_mono (f := 0) (fun x hx => (h x hx).1) (by assumption : k ≤ i) hi; omega
  · have := pf_mono (f := 1) (fun x hx => (h x hx).2) (by omega : i ≤ k) hk; omega
theorem dd_step {S : Tab} {k i : Nat} (h : i + 1 ≤ k) : dd S k i = dd S k (i + 1) + S i 1 := by
  unfold dd
  rw [if_neg (by omega)]
  by_cases e : k = i + 1
  · subst e; rw [if_pos (by omega), pf_succ]; omega
  · rw [if_neg (by omega), pf_succ]; omega
theorem dd_step0 {S : Tab} {k i : Nat} (h : k ≤ i) : dd S k (i + 1) = dd S k i + S i 0 := by
  unfold dd; rw [if_pos (by omega), if_pos h, pf_succ]; omega
/-- The tight greatest value: the least of all bounds. -/
structure IsHi (n : Nat) (N S : Tab) (i : Nat) (x : Int) : Prop where
  le : ∀ k, k < n → x ≤ N k 1 + dd S k i
  ex : ∃ k, k < n ∧ x = N k 1 + dd S k i
structure IsLo (n : Nat) (N S : Tab) (i : Nat) (x : Int) : Prop where
  le : ∀ k, k < n → N k 0 - dd S i k ≤ x
  ex : ∃ k, k < n ∧ x = N k 0 - dd S i k
theorem IsHi.uniq {n : Nat} {N S : Tab} {i : Nat} {x y : Int} (h : IsHi n N S i x) (g : IsHi n N S i y) : x = y := by
  obtain ⟨k, hk, ek⟩ := h.ex
  obtain ⟨l, hl, el⟩ := g.ex
  have := h.le l hl
  have := g.le k hk
  omega
theorem IsLo.uniq {n : Nat} {N S : Tab} {i : Nat} {x y : Int} (h : IsLo n N S i x) (g : IsLo n N S i y) : x = y := by
  obtain ⟨k, hk, ek⟩ := h.ex
  obtain ⟨l, hl, el⟩ := g.ex
  have := h.le l hl
  have := g.le k hk
  omega
theorem fhi_is (N S : Tab) : ∀ i, (∀ k, k ≤ i → fhi N S i ≤ N k 1 + dd S k i) ∧ ∃ k, k ≤ i ∧ fhi N S i = N k 1 + dd S k i
  | 0 => ⟨fun k hk => by have : k = 0 := by omega
                         subst this; rw [dd_self, fhi]; omega, 0, Nat.le_refl _, by rw [dd_self, fhi]; omega⟩
  | i + 1 => by
    obtain ⟨h1, l, hl, el⟩ := fhi_is N S i
    rw [fhi]
    constructor
    · intro k hk
      by_cases e : k = i + 1
      · subst e; rw [dd_self]; omega
      · have := h1 k (by omega)
        rw [dd_step0 (by omega)]; omega
    · by_cases c : N (i + 1) 1 ≤ fhi N S i + S i 0
      · exact ⟨i + 1, Nat.le_refl _, by rw [dd_self]; omega⟩
      · exact ⟨l, by omega, by rw [dd_step0 hl]; omega⟩
theorem bhi_is {n : Nat} {N S : Tab} (hp : Pos (n - 1) S) (hn : 0 < n) : ∀ c, c < n → IsHi n N S (n - 1 - c) (bhi n N S c)
  | 0 => fun _ => by
    obtain ⟨h1, l, hl, el⟩ := fhi_is N S (n - 1)
    exact ⟨fun k hk => h1 k (by omega), l, by omega, el⟩
  | c + 1 => fun hc => by
    obtain ⟨g1, l, hl, el⟩ := bhi_is (N := N) hp hn c (by omega)
    obtain ⟨h1, j, hj, ej⟩ := fhi_is N S (n - 1 - (c + 1))
    generalize hi : n - 1 - (c + 1) = i at *
    have e1 : n - 1 - c = i + 1 := by omega
    rw [e1] at g1 el
    rw [bhi, hi]
    have le : ∀ k, k < n → min (fhi N S i) (bhi n N S c + S i 1) ≤ N k 1 + dd S k i := by
      intro k hk
      by_cases e : k ≤ i
      · have := h1 k e; omega
      · have := g1 k hk
        rw [dd_step (by omega)]; omega
    refine ⟨le, ?_⟩
    by_cases q : fhi N S i ≤ bhi n N S c + S i 1
    · exact ⟨j, by omega, by omega⟩
    · refine ⟨l, hl, ?_⟩
      have a := le l hl
      have b := dd_tri hp (k := l) (j := i + 1) (i := i) (by omega) (by omega) (by omega)
      rw [dd_down] at b
      omega
theorem thi_is {n : Nat} {N S : Tab} (hp : Pos (n - 1) S) {i : Nat} (hi : i < n) : IsHi n N S i (thi n N S i) := by
  have := bhi_is (N := N) hp (by omega) (n - 1 - i) (by omega)
  rw [show n - 1 - (n - 1 - i) = i from by omega] at this
  exact this
/-- The chain upside down. -/
def ngN (N : Tab) : Tab := fun i f => if f = 0 then -N i 1 else -N i 0
def ngS (S : Tab) : Tab := fun i f => if f = 0 then S i 1 else S i 0
theorem sm_ng (S : Tab) (i : Nat) : ∀ c, sm (ngS S) 0 i c = sm S 1 i c ∧ sm (ngS S) 1 i c = sm S 0 i c
  | 0 => ⟨rfl, rfl⟩
  | c + 1 => by
    obtain ⟨a, b⟩ := sm_ng S i c
    exact ⟨by rw [sm, sm, a]; rfl, by rw [sm, sm, b]; rfl⟩
theorem dd_ng (S : Tab) (k i : Nat) : dd (ngS S) k i = dd S i k := by
  unfold dd pf
  rw [(sm_ng S 0 i).1, (sm_ng S 0 k).1, (sm_ng S 0 k).2, (sm_ng S 0 i).2]
  by_cases a : k ≤ i <;> by_cases b : i ≤ k <;> simp only [a, b, if_true, if_false]
  · have : i = k := by omega
    subst this; omega
  · omega
theorem flo_ng (N S : Tab) : ∀ i, fhi (ngN N) (ngS S) i = -flo N S i
  | 0 => rfl
  | i + 1 => by rw [fhi, flo, flo_ng N S i]; simp only [ngN, ngS, if_true, if_neg (show ¬ (1 : Nat) = 0 by omega)]; omega
theorem blo_ng (n : Nat) (N S : Tab) : ∀ c, bhi n (ngN N) (ngS S) c = -blo n N S c
  | 0 => by rw [bhi, blo, flo_ng]
  | c + 1 => by rw [bhi, blo, blo_ng n N S c, flo_ng]; simp only [ngS, if_neg (show ¬ (1 : Nat) = 0 by omega)]; omega
theorem tlo_is {n : Nat} {N S : Tab} (hp : Pos (n - 1) S) {i : Nat} (hi : i < n) : IsLo n N S i (tlo n N S i) := by
  have hp' : Pos (n - 1) (ngS S) := fun x hx => ⟨(hp x hx).2, (hp x hx).1⟩
  obtain ⟨h1, k, hk, ek⟩ := thi_is (N := ngN N) hp' hi
  have e : thi n (ngN N) (ngS S) i = -tlo n N S i := blo_ng n N S _
  rw [e, dd_ng] at ek
  have ek' : -tlo n N S i = -N k 0 + dd S i k := ek
  refine ⟨fun j hj => ?_, k, hk, by omega⟩
  have := h1 j hj
  rw [e, dd_ng] at this
  have : -tlo n N S i ≤ -N j 0 + dd S i j := this
  omega
/-- No window excludes another one. -/
def NoC (n : Nat) (N S : Tab) : Prop := ∀ i k, i < n → k < n → N i 0 ≤ N k 1 + dd S k i
theorem ex_self (N S : Tab) (i : Nat) : ex N S i i = N i 0 - N i 1 := by unfold ex; rw [if_pos rfl]
theorem ex_lt (N S : Tab) {i j : Nat} (h : i < j) (hi : N i 0 ≤ N i 1) (hj : N j 0 ≤ N j 1) : ex N S i j = max (N j 0 - (N i 1 + dd S i j)) (N i 0 - dd S j i - N j 1) := by
  unfold ex
  rw [if_neg (by omega), if_neg (by omega), sm_pf, sm_pf, show i + (j - i) = j from by omega]
  unfold dd
  rw [if_pos (by omega), if_neg (by omega)]
theorem ex_pos {N S : Tab} {i j : Nat} (h : i < j) (hx : 0 < ex N S i j) : N i 0 ≤ N i 1 ∧ N j 0 ≤ N j 1 := by
  unfold ex at hx
  rw [if_neg (by omega)] at hx
  split at hx
  · omega
  · omega
theorem noC_iff {n : Nat} {N S : Tab} : NoC n N S ↔ ∀ i j, i ≤ j → j < n → ex N S i j ≤ 0 := by
  constructor
  · intro h i j hij hj
    have w : ∀ a, a < n → N a 0 ≤ N a 1 := fun a ha => by have := h a a ha ha; rw [dd_self] at this; omega
    by_cases e : i = j
    · subst e; rw [ex_self]; have := w i hj; omega
    · rw [ex_lt N S (by omega) (w i (by omega)) (w j hj)]
      have := h i j (by omega) hj
      have := h j i hj (by omega)
      omega
  · intro h i k hi hk
    have w : ∀ a, a < n → N a 0 ≤ N a 1 := fun a ha => by have := h a a (Nat.le_refl _) ha; rw [ex_self] at this; omega
    by_cases e : i = k
    · subst e; rw [dd_self]; have := w i hi; omega
    · by_cases l : i < k
      · have := h i k (by omega) hk
        rw [ex_lt N S l (w i hi) (w k hk)] at this; omega
      · have := h k i (by omega) hi
        rw [ex_lt N S (by omega) (w k hk) (w i hi)] at this; omega
theorem mem_sgl {N S : Tab} {c : Nat × Nat} : ∀ n, c ∈ sgl N S n ↔ ∃ i, i < n ∧ 0 < ex N S i i ∧ c = (i, i)
  | 0 => by simp [sgl]
  | n + 1 => by
    rw [sgl, List.mem_append, mem_sgl n]
    constructor
    · rintro (⟨i, h1, h2, h3⟩ | h)
      · exact ⟨i, by omega, h2, h3⟩
      · split at h
        · exact ⟨n, by omega, by assumption, by simpa using h⟩
        · cases h
    · rintro ⟨i, h1, h2, h3⟩
      by_cases e : i = n
      · subst e; right; rw [if_pos h2]; simpa using h3
      · exact Or.inl ⟨i, by omega, h2, h3⟩
theorem mem_prr {N S : Tab} {i : Nat} {c : Nat × Nat} : ∀ n, c ∈ prr N S i n ↔ ∃ j, i < j ∧ j < i + 1 + n ∧ 0 < ex N S i j ∧ c = (i, j)
  | 0 => by simp [prr]; intro j h1 h2; omega
  | n + 1 => by
    rw [prr, List.mem_append, mem_prr n]
    constructor
    · rintro (⟨j, h1, h2, h3⟩ | h)
      · exact ⟨j, h1, by omega, h3⟩
      · split at h
        · exact ⟨i + 1 + n, by omega, by omega, by assumption, by simpa using h⟩
        · cases h
    · rintro ⟨j, h1, h2, h3, h4⟩
      by_cases e : j = i + 1 + n
      · subst e; right; rw [if_pos h3]; simpa using h4
      · exact Or.inl ⟨j, h1, by omega, h3, h4⟩
theorem mem_prs {n : Nat} {N S : Tab} {c : Nat × Nat} : ∀ k, k ≤ n → (c ∈ prs N S n k ↔ ∃ i j, i < k ∧ i < j ∧ j < n ∧ 0 < ex N S i j ∧ c = (i, j))
  | 0 => by simp [prs]
  | k + 1 => fun hk => by
    rw [prs, List.mem_append, mem_prs k (by omega), mem_prr]
    constructor
    · rintro (⟨i, j, h1, h2⟩ | ⟨j, h1, h2, h3⟩)
      · exact ⟨i, j, by omega, h2⟩
      · exact ⟨k, j, by omega, h1, by omega, h3⟩
    · rintro ⟨i, j, h1, h2, h3, h4⟩
      by_cases e : i = k
      · subst e; exact Or.inr ⟨j, h2, by omega, h4⟩
      · exact Or.inl ⟨i, j, by omega, h2, h3, h4⟩
theorem mem_cfs {n : Nat} {N S : Tab} {c : Nat × Nat} : c ∈ cfs n N S ↔ ∃ i j, i ≤ j ∧ j < n ∧ 0 < ex N S i j ∧ c = (i, j) := by
  unfold cfs
  rw [List.mem_append, mem_sgl, mem_prs n (Nat.le_refl _)]
  constructor
  · rintro (⟨i, h1, h2, h3⟩ | ⟨i, j, _, h2, h3, h4⟩)
    · exact ⟨i, i, Nat.le_refl _, h1, h2, h3⟩
    · exact ⟨i, j, by omega, h3, h4⟩
  · rintro ⟨i, j, h1, h2, h3, h4⟩
    by_cases e : i = j
    · subst e; exact Or.inl ⟨i, h2, h3, h4⟩
    · exact Or.inr ⟨i, j, by omega, by omega, h2, h3, h4⟩
theorem cB_false {n : Nat} {N S : Tab} : cB n N S = false ↔ NoC n N S := by
  have e : cB n N S = false ↔ cfs n N S = [] := by
    unfold cB; split
    · rename_i h; simp [h]
    · rename_i h; simp [h]
  rw [e, noC_iff, List.eq_nil_iff_forall_not_mem]
  constructor
  · intro h i j hij hj
    by_cases q : 0 < ex N S i j
    · exact absurd (mem_cfs.2 ⟨i, j, hij, hj, q, rfl⟩) (h _)
    · omega
  · intro h c hc
    obtain ⟨i, j, h1, h2, h3, _⟩ := mem_cfs.1 hc
    have := h i j h1 h2
    omega
theorem cB_true {n : Nat} {N S : Tab} (h : cB n N S = true) : ∃ i j, i ≤ j ∧ j < n ∧ 0 < ex N S i j ∧ cI n N S = i ∧ cJ n N S = j := by
  have hm : ∃ c l, cfs n N S = c :: l := by
    unfold cB at h; split at h
    · cases h
    · rename_i c l hc; exact ⟨c, l, hc⟩
  obtain ⟨c, l, hc⟩ := hm
  obtain ⟨i, j, h1, h2, h3, rfl⟩ := mem_cfs.1 (show c ∈ cfs n N S by rw [hc]; exact List.mem_cons_self)
  exact ⟨i, j, h1, h2, h3, by unfold cI; rw [hc], by unfold cJ; rw [hc]⟩
theorem cIJ_none {n : Nat} {N S : Tab} (h : cB n N S = false) : cI n N S = 0 ∧ cJ n N S = 0 := by
  unfold cB at h; unfold cI cJ
  split at h
  · exact ⟨rfl, rfl⟩
  · cases h
theorem c_only {n : Nat} {N S : Tab} {i j : Nat} (h1 : i ≤ j) (h2 : j < n) (h3 : 0 < ex N S i j) (h : ∀ a b, a ≤ b → b < n → 0 < ex N S a b → a = i ∧ b = j) : cB n N S = true ∧ cI n N S = i ∧ cJ n N S = j := by
  have hb : cB n N S = true := by
    cases e : cB n N S
    · have := noC_iff.1 (cB_false.1 e) i j h1 h2
      omega
    · rfl
  obtain ⟨a, b, g1, g2, g3, g4, g5⟩ := cB_true hb
  obtain ⟨rfl, rfl⟩ := h a b g1 g2 g3
  exact ⟨hb, g4, g5⟩
/-- Values that meet windows and steps. -/
structure Feas (n : Nat) (N S : Tab) (v : Nat → Int) : Prop where
  win : ∀ i, i < n → N i 0 ≤ v i ∧ v i ≤ N i 1
  stp : ∀ i, i + 1 < n → -S i 1 ≤ v (i + 1) - v i ∧ v (i + 1) - v i ≤ S i 0
theorem dd_back {S : Tab} {i k : Nat} (h : i ≤ k) : dd S (k + 1) i = dd S k i + S k 1 := by
  unfold dd
  rw [if_neg (by omega), pf_succ]
  by_cases q : i = k
  · subst q; rw [if_pos (by omega)]; omega
  · rw [if_neg (by omega)]; omega
theorem Feas.up {n : Nat} {N S : Tab} {v : Nat → Int} (h : Feas n N S v) : ∀ c i j, j = i + c → j < n → v j - v i ≤ dd S i j ∧ v i - v j ≤ dd S j i
  | 0, i, j, e, _ => by
    obtain rfl : j = i := e
    rw [dd_self]; omega
  | c + 1, i, j, e, hj => by
    obtain ⟨k, rfl⟩ : ∃ k, j = k + 1 := ⟨i + c, by omega⟩
    obtain ⟨a, b⟩ := h.up c i k (by omega) (by omega)
    have s := h.stp k hj
    have e1 : Co.dd S i (k + 1) = Co.dd S i k + S k 0 := dd_step0 (by omega)
    have e2 : Co.dd S (k + 1) i = Co.dd S k i + S k 1 := dd_back (by omega)
    omega
theorem Feas.dist {n : Nat} {N S : Tab} {v : Nat → Int} (h : Feas n N S v) {i k : Nat} (hi : i < n) (hk : k < n) : v i ≤ v k + dd S k i := by
  by_cases c : k ≤ i
  · have := (h.up (i - k) k i (by omega) hi).1
    omega
  · have := (h.up (k - i) i k (by omega) hk).2
    omega
theorem Feas.noC {n : Nat} {N S : Tab} {v : Nat → Int} (h : Feas n N S v) : NoC n N S := fun i k hi hk => by
  have := h.dist hi hk
  have := h.win i hi
  have := h.win k hk
  omega
theorem Feas.tight {n : Nat} {N S : Tab} {v : Nat → Int} (h : Feas n N S v) (hp : Pos (n - 1) S) {i : Nat} (hi : i < n) : tlo n N S i ≤ v i ∧ v i ≤ thi n N S i := by
  obtain ⟨k, hk, ek⟩ := (thi_is (N := N) hp hi).ex
  obtain ⟨l, hl, el⟩ := (tlo_is (N := N) hp hi).ex
  have := h.dist hi hk
  have := h.dist hl hi
  have := h.win k hk
  have := h.win l hl
  omega
theorem feas_hi {n : Nat} {N S : Tab} (hp : Pos (n - 1) S) (h : NoC n N S) : Feas n N S (thi n N S) := by
  refine ⟨fun i hi => ?_, fun i hi => ?_⟩
  · obtain ⟨g, k, hk, ek⟩ := thi_is (N := N) hp hi
    have := g i hi
    rw [dd_self] at this
    have := h i k hi hk
    omega
  · obtain ⟨g, k, hk, ek⟩ := thi_is (N := N) hp (show i < n by omega)
    obtain ⟨g', l, hl, el⟩ := thi_is (N := N) hp (show i + 1 < n by omega)
    have a := g' k hk
    have b := g l hl
    have c := dd_tri hp (k := k) (j := i) (i := i + 1) (by omega) (by omega) (by omega)
    have d := dd_tri hp (k := l) (j := i + 1) (i := i) (by omega) (by omega) (by omega)
    rw [dd_up] at c
    rw [dd_down] at d
    omega
theorem feas_lo {n : Nat} {N S : Tab} (hp : Pos (n - 1) S) (h : NoC n N S) : Feas n N S (tlo n N S) := by
  refine ⟨fun i hi => ?_, fun i hi => ?_⟩
  · obtain ⟨g, k, hk, ek⟩ := tlo_is (N := N) hp hi
    have := g i hi
    rw [dd_self] at this
    have := h k i hk hi
    omega
  · obtain ⟨g, k, hk, ek⟩ := tlo_is (N := N) hp (show i < n by omega)
    obtain ⟨g', l, hl, el⟩ := tlo_is (N := N) hp (show i + 1 < n by omega)
    have a := g' k hk
    have b := g l hl
    have c := dd_tri hp (k := i + 1) (j := i) (i := k) (by omega) (by omega) (by omega)
    have d := dd_tri hp (k := i) (j := i + 1) (i := l) (by omega) (by omega) (by omega)
    rw [dd_down] at c
    rw [dd_up] at d
    omega
theorem Ok.pos {n m : Nat} {N S : Tab} (h : Ok n N m S) : Pos (n - 1) S := fun i hi => ⟨(h.s0 i (by rw [h.hm]; exact hi)).1, (h.s1 i (by rw [h.hm]; exact hi)).1⟩
theorem mtW_iff (N : Tab) (v : Nat → Int) : ∀ n, mtW N v n = true ↔ ∀ i, i < n → N i 0 ≤ v i ∧ v i ≤ N i 1
  | 0 => by simp [mtW]
  | k + 1 => by
    rw [mtW, Bool.and_eq_true, mtW_iff N v k, decide_eq_true_iff]
    constructor
    · rintro ⟨h, h2⟩ i hi
      by_cases e : i = k
      · subst e; exact h2
      · exact h i (by omega)
    · intro h
      exact ⟨fun i hi => h i (by omega), h k (by omega)⟩
theorem mtS_iff (S : Tab) (v : Nat → Int) : ∀ n, mtS S v n = true ↔ ∀ i, i < n → -S i 1 ≤ v (i + 1) - v i ∧ v (i + 1) - v i ≤ S i 0
  | 0 => by simp [mtS]
  | k + 1 => by
    rw [mtS, Bool.and_eq_true, mtS_iff S v k, Co.stp, decide_eq_true_iff]
    constructor
    · rintro ⟨h, h2⟩ i hi
      by_cases e : i = k
      · subst e; exact h2
      · exact h i (by omega)
    · intro h
      exact ⟨fun i hi => h i (by omega), h k (by omega)⟩
theorem mt_iff {n m l : Nat} {N S : Tab} {v : Nat → Int} : mt n N m S l v = true ↔ Ok n N m S ∧ l = n ∧ Feas n N S v := by
  unfold mt
  rw [Bool.and_eq_true, Bool.and_eq_true, Bool.and_eq_true, decide_eq_true_iff, decide_eq_true_iff, ck_ok, mtW_iff, mtS_iff]
  constructor
  · rintro ⟨⟨⟨a, b⟩, c⟩, d⟩
    exact ⟨a, b, c, fun i hi => d i (by have := a.hm; omega)⟩
  · rintro ⟨a, b, c, d⟩
    exact ⟨⟨⟨a, b⟩, c⟩, fun i hi => d i (by have := a.hm; omega)⟩
theorem mt_no_w {n m l k : Nat} {N S : Tab} {v : Nat → Int} (hk : k < n) (h : wi (v k) (N k 0) (N k 1) = false) : mt n N m S l v = false := by
  cases e : mt n N m S l v
  · rfl
  · have := (mt_iff.1 e).2.2.win k hk
    unfold wi at h
    rw [decide_eq_false_iff_not] at h
    exact absurd this h
theorem mt_no_s {n m l j : Nat} {N S : Tab} {v : Nat → Int} (hk : j + 1 < n) (h : ¬ (-S j 1 ≤ v (j + 1) - v j ∧ v (j + 1) - v j ≤ S j 0)) : mt n N m S l v = false := by
  cases e : mt n N m S l v
  · rfl
  · exact absurd ((mt_iff.1 e).2.2.stp j hk) h
theorem mt_no_l {n m l : Nat} {N S : Tab} {v : Nat → Int} (h : l ≠ n) : mt n N m S l v = false := by
  cases e : mt n N m S l v
  · rfl
  · exact absurd (mt_iff.1 e).2.1 h
theorem mt_no_c {n m l : Nat} {N S : Tab} {v : Nat → Int} (h : ck n N m S ≠ 0) : mt n N m S l v = false := by
  cases e : mt n N m S l v
  · rfl
  · exact absurd (ck_ok.2 (mt_iff.1 e).1) h
theorem mt_yes {n m : Nat} {N S : Tab} {v : Nat → Int} (o : Ok n N m S) (h1 : mtW N v n = true) (h2 : mtS S v (n - 1) = true) : mt n N m S n v = true := by
  unfold mt
  rw [ck_ok.2 o, h1, o.hm, h2]; simp
theorem mtW_at {N : Tab} {v : Nat → Int} {n k : Nat} (h : mtW N v n = true) (hk : k < n) : N k 0 ≤ v k ∧ v k ≤ N k 1 := (mtW_iff N v n).1 h k hk
theorem mtW_succ {N : Tab} {v : Nat → Int} {k : Nat} (h : mtW N v k = true) (h2 : N k 0 ≤ v k ∧ v k ≤ N k 1) : mtW N v (k + 1) = true := by rw [mtW, h, decide_eq_true h2]; rfl
theorem mtS_succ {S : Tab} {v : Nat → Int} {k : Nat} (h : mtS S v k = true) (h2 : -S k 1 ≤ v (k + 1) - v k ∧ v (k + 1) - v k ≤ S k 0) : mtS S v (k + 1) = true := by rw [mtS, h, stp, decide_eq_true h2]; rfl
theorem wi_true {a lo hi : Int} : wi a lo hi = true ↔ lo ≤ a ∧ a ≤ hi := decide_eq_true_iff
theorem wi_false {a lo hi : Int} : wi a lo hi = false ↔ ¬ (lo ≤ a ∧ a ≤ hi) := decide_eq_false_iff_not
theorem mt_hi {n m : Nat} {N S : Tab} (h : Ok n N m S) (hb : cB n N S = false) : mt n N m S n (thi n N S) = true := mt_iff.2 ⟨h, rfl, feas_hi h.pos (cB_false.1 hb)⟩
theorem mt_lo {n m : Nat} {N S : Tab} (h : Ok n N m S) (hb : cB n N S = false) : mt n N m S n (tlo n N S) = true := mt_iff.2 ⟨h, rfl, feas_lo h.pos (cB_false.1 hb)⟩
theorem mt_bad {n m l : Nat} {N S : Tab} {v : Nat → Int} (hb : ck n N m S ≠ 0 ∨ cB n N S = true) : mt n N m S l v = false := by
  cases e : mt n N m S l v
  · rfl
  · obtain ⟨a, _, c⟩ := mt_iff.1 e
    rcases hb with hb | hb
    · exact absurd (ck_ok.2 a) hb
    · rw [cB_false.2 c.noC] at hb; cases hb
theorem mt_tight {n m l : Nat} {N S : Tab} {v : Nat → Int} (h : mt n N m S l v = true) {i : Nat} (hi : i < n) : tlo n N S i ≤ v i ∧ v i ≤ thi n N S i := by
  obtain ⟨a, _, c⟩ := mt_iff.1 h
  exact c.tight a.pos hi
/-- One row replaced. -/
def setW (N : Tab) (i : Nat) (a b : Int) : Tab := fun k f => if k = i then (if f = 0 then a else b) else N k f
theorem setW_0 (N : Tab) (i : Nat) (a b : Int) : setW N i a b i 0 = a := by simp [setW]
theorem setW_1 (N : Tab) (i : Nat) (a b : Int) : setW N i a b i 1 = b := by simp [setW]
theorem setW_ne (N : Tab) {i k : Nat} (a b : Int) (f : Nat) (h : k ≠ i) : setW N i a b k f = N k f := by simp [setW, h]
theorem Ok.set {n m : Nat} {N S : Tab} (h : Ok n N m S) {i : Nat} {a b : Int} (ha : -1099511627776 ≤ a ∧ a ≤ 1099511627776) (hb : -1099511627776 ≤ b ∧ b ≤ 1099511627776) : Ok n (setW N i a b) m S := by
  refine ⟨h.hn, h.hm, fun k hk => ?_, fun k hk => ?_, h.s0, h.s1⟩
  · by_cases e : k = i
    · subst e; rw [setW_0]; exact ha
    · rw [setW_ne _ _ _ _ e]; exact h.w0 k hk
  · by_cases e : k = i
    · subst e; rw [setW_1]; exact hb
    · rw [setW_ne _ _ _ _ e]; exact h.w1 k hk
/-- Exactly the values of a tight window occur. -/
theorem each {n m : Nat} {N S : Tab} (h : Ok n N m S) (hb : cB n N S = false) {i : Nat} (hi : i < n) {v : Int} (hv : -1099511627776 ≤ v ∧ v ≤ 1099511627776)
    (hc : (tlo n N S i ≤ v ∧ v ≤ thi n N S i) ∨ (N i 0 ≤ v ∧ v ≤ N i 1)) :
    ck n (setW N i v v) m S = 0 ∧ cB n (setW N i v v) S = decide (v < tlo n N S i ∨ thi n N S i < v) := by
  refine ⟨ck_ok.2 (h.set hv hv), ?_⟩
  have nc := cB_false.1 hb
  have H := thi_is (N := N) h.pos hi
  have L := tlo_is (N := N) h.pos hi
  by_cases q : tlo n N S i ≤ v ∧ v ≤ thi n N S i
  · rw [decide_eq_false (by omega), cB_false]
    intro a k ha hk
    by_cases ea : a = i <;> by_cases ek : k = i
    · subst ea; subst ek; rw [setW_0, setW_1, dd_self]; omega
    · subst ea; rw [setW_0, setW_ne _ _ _ _ ek]; have := H.le k hk; omega
    · subst ek; rw [setW_1, setW_ne _ _ _ _ ea]; have := L.le a ha; omega
    · rw [setW_ne _ _ _ _ ea, setW_ne _ _ _ _ ek]; exact nc a k ha hk
  · rw [decide_eq_true (by omega)]
    cases e : cB n (setW N i v v) S
    · exfalso
      have nc2 := cB_false.1 e
      obtain ⟨w1, w2⟩ : N i 0 ≤ v ∧ v ≤ N i 1 := by rcases hc with hc | hc; exact absurd hc q; exact hc
      obtain ⟨k, hk, ek⟩ := H.ex
      obtain ⟨l, hl, el⟩ := L.ex
      apply q
      constructor
      · by_cases c : l = i
        · subst c; rw [dd_self] at el; omega
        · have := nc2 l i hl hi
          rw [setW_1, setW_ne _ _ _ _ c] at this; omega
      · by_cases c : k = i
        · subst c; rw [dd_self] at ek; omega
        · have := nc2 i k hi hk
          rw [setW_0, setW_ne _ _ _ _ c] at this; omega
    · rfl
end Co
end Go.Proofs.Ytpipjpgcnbpllaa
