/-
  Words and contracts, put together: OGp, Plain, Plain2, OGq, Plain4, Plain5, OS, OFp, OIp, OXp, OX0.
-/
import Derived.Test.YtoeklllahpegfaaM01
import Derived.Deep.MidRow
/-
  Plain: what a problem without an error holds; the cost of a leg and of choices; no program in sight.
-/
namespace Go.Proofs.Ytoeklllahpegfaa
set_option linter.unusedVariables false
set_option linter.unusedSimpArgs false
open Go.RowKit
namespace Oz
theorem fst_0 {b : Bool} {c : Int} {t : List (Bool × Int)} (hc : c ≠ 0) (h : fst ((b, c) :: t) = 0) : b = true ∧ fst t = 0 := by
  cases b
  · exact absurd h hc
  · exact ⟨rfl, h⟩
theorem fste_0 {b : Bool} {c e : Int} {t : List (Bool × Int)} (hc : c ≠ 0) (h : fste ((b, c) :: t) e = 0) : b = true ∧ fste t e = 0 := by
  cases b
  · exact absurd h hc
  · exact ⟨rfl, h⟩
theorem as_iff {n : Nat} {v : Nat → Int} (h : asB n v = true) : ∀ i, i + 1 < n → v i < v (i + 1) := fun i hi => by
  have := of_decide_eq_true ((pre_iff _ _).1 h (i + 1) hi)
  rcases this with q | q
  · omega
  · exact q
/-- Tables without an error, as far as the flow of a cruise goes. -/
structure POk (P : PD) : Prop where
  na1 : 2 ≤ P.na
  na2 : P.na ≤ 12
  nM1 : 2 ≤ P.nM
  nM2 : P.nM ≤ 6
  nR : P.nR = P.na
  lR : ∀ i, i < P.na → P.lR i = P.nM
  al : ∀ i, i + 1 < P.na → P.al i < P.al (i + 1)
  ma : ∀ i, i + 1 < P.nM → P.ma i < P.ma (i + 1)
  alb : ∀ i, i < P.na → -200000 ≤ P.al i ∧ P.al i ≤ 6000000
  mab : ∀ i, i < P.nM → 1 ≤ P.ma i ∧ P.ma i ≤ 3000000000
  tR : ∀ i j, i < P.na → j < P.nM → 0 ≤ P.tR i j ∧ P.tR i j ≤ 50000
  rf : 1 ≤ P.rf ∧ P.rf ≤ 1000
  xt : 0 ≤ P.xt ∧ P.xt ≤ 100
theorem pck_ok {P : PD} (h : pck P = 0) : POk P := by
  unfold pck at h
  obtain ⟨_, h⟩ := fst_0 (by decide) h
  obtain ⟨_, h⟩ := fst_0 (by decide) h
  obtain ⟨_, h⟩ := fst_0 (by decide) h
  obtain ⟨a1, h⟩ := fst_0 (by decide) h
  obtain ⟨a2, h⟩ := fst_0 (by decide) h
  obtain ⟨a3, h⟩ := fst_0 (by decide) h
  obtain ⟨a4, h⟩ := fst_0 (by decide) h
  obtain ⟨_, h⟩ := fst_0 (by decide) h
  obtain ⟨_, h⟩ := fst_0 (by decide) h
  obtain ⟨a5, h⟩ := fst_0 (by decide) h
  obtain ⟨_, h⟩ := fst_0 (by decide) h
  obtain ⟨_, h⟩ := fst_0 (by decide) h
  obtain ⟨_, h⟩ := fst_0 (by decide) h
  obtain ⟨_, h⟩ := fst_0 (by decide) h
  obtain ⟨a6, h⟩ := fst_0 (by decide) h
  obtain ⟨a7, h⟩ := fst_0 (by decide) h
  obtain ⟨a8, h⟩ := fst_0 (by decide) h
  obtain ⟨_, h⟩ := fst_0 (by decide) h
  obtain ⟨a9, h⟩ := fst_0 (by decide) h
  obtain ⟨_, h⟩ := fst_0 (by decide) h
  obtain ⟨_, h⟩ := fst_0 (by decide) h
  obtain ⟨_, h⟩ := fst_0 (by decide) h
  obtain ⟨a10, h⟩ := fst_0 (by decide) h
  obtain ⟨_, h⟩ := fst_0 (by decide) h
  obtain ⟨_, h⟩ := fst_0 (by decide) h
  obtain ⟨_, h⟩ := fst_0 (by decide) h
  obtain ⟨a11, h⟩ := fst_0 (by decide) h
  obtain ⟨a12, _⟩ := fst_0 (by decide) h
  have b4 := of_decide_eq_true a4
  refine ⟨of_decide_eq_true a1, of_decide_eq_true a2, of_decide_eq_true a3, b4, sh_n a5, sh_ln' a5, as_iff a6, as_iff a7, alB_iff.1 a8, alB_iff.1 a9, fun i j hi hj => ?_, inB_iff.1 a11, inB_iff.1 a12⟩
  have := alB_iff.1 ((pre_iff _ _).1 a10 i (by rw [sh_n a5]; exact hi)) j (by rw [sh_ln' a5 i hi]; exact hj)
  exact this
/-- A problem without an error. -/
structure ZOk (Z : ZD) : Prop where
  nd1 : 1 ≤ Z.nd
  nd2 : Z.nd ≤ 24
  nl1 : 1 ≤ Z.nl
  nl2 : Z.nl ≤ 8
  ns1 : 1 ≤ Z.ns
  ns2 : Z.ns ≤ 6
  nt : Z.nt = Z.nd
  nm : Z.nm = Z.nd
  fi : 0 ≤ Z.fi ∧ Z.fi < Z.nl
  la : 0 ≤ Z.la ∧ Z.la < Z.nl
  lt : ∀ i, i < Z.nd → Z.lt i = Z.nl
  ds : ∀ i, i < Z.nd → 0 ≤ Z.ds i ∧ Z.ds i ≤ 8000000
  lv : ∀ i, i < Z.nl → -200000 ≤ Z.lv i ∧ Z.lv i ≤ 6000000
  sp : ∀ i, i < Z.ns → 1 ≤ Z.sp i ∧ Z.sp i ≤ 1000
  ms : ∀ i, i < Z.nd → 1 ≤ Z.ms i ∧ Z.ms i ≤ 3000000000
  tl : ∀ i j, i < Z.nd → j < Z.nl → -400 ≤ Z.tl i j ∧ Z.tl i j ≤ 400
  ix : 0 ≤ Z.ix ∧ Z.ix ≤ 1000
  cc : 0 ≤ Z.cc ∧ Z.cc ≤ 1073741824
  pk : pck Z.P = 0
theorem zck_ok {Z : ZD} (h : zck Z = 0) : ZOk Z := by
  unfold zck at h
  obtain ⟨a1, h⟩ := fste_0 (by decide) h
  obtain ⟨a2, h⟩ := fste_0 (by decide) h
  obtain ⟨a3, h⟩ := fste_0 (by decide) h
  obtain ⟨a4, h⟩ := fste_0 (by decide) h
  obtain ⟨a5, h⟩ := fste_0 (by decide) h
  obtain ⟨a6, h⟩ := fste_0 (by decide) h
  obtain ⟨a7, h⟩ := fste_0 (by decide) h
  obtain ⟨_, h⟩ := fste_0 (by decide) h
  obtain ⟨_, h⟩ := fste_0 (by decide) h
  obtain ⟨a8, h⟩ := fste_0 (by decide) h
  rw [Bool.and_eq_true] at a7 a8
  obtain ⟨b1, b2⟩ := a7
  obtain ⟨c1, c2⟩ := a8
  unfold s0 ixB at b1
  unfold o0 at c1
  simp only [Bool.and_eq_true, decide_eq_true_iff] at b1 c1
  obtain ⟨⟨⟨d1, d2⟩, d3⟩, d4⟩ := b1
  obtain ⟨⟨⟨⟨⟨e1, e2⟩, e3⟩, e4⟩, e5⟩, e6⟩ := c1
  have lt : ∀ i, i < Z.nd → Z.lt i = Z.nl := fun i hi => of_decide_eq_true ((pre_iff _ _).1 b2 i (by omega))
  have ms := alB_iff.1 e4
  rw [d2] at ms
  refine ⟨of_decide_eq_true a1, of_decide_eq_true a2, of_decide_eq_true a3, of_decide_eq_true a4, of_decide_eq_true a5, of_decide_eq_true a6, d1, d2, d3, d4, lt, alB_iff.1 e1, alB_iff.1 e2, alB_iff.1 e3, ms, fun i j hi hj => ?_, alB_iff.1 e5 0 (by omega), alB_iff.1 e6 0 (by omega), h⟩
  exact alB_iff.1 ((pre_iff _ _).1 c2 i (by omega)) j (by rw [lt i hi]; exact hj)
/-! The value of a list -/
theorem fk_fix {al : Nat → Int} {x : Int} : ∀ n, fk al x (fk al x n) = fk al x n
  | 0 => rfl
  | m + 1 => by
    rw [fk]
    split
    · rename_i h; rw [fk, if_pos h]
    · exact fk_fix m
theorem fk_not {al : Nat → Int} {x : Int} : ∀ {n}, fk al x n < n → ¬ al (fk al x n) < x
  | 0, h => by omega
  | m + 1, h => by
    rw [fk] at h ⊢
    split
    · rename_i q; rw [if_pos q] at h; omega
    · rename_i q
      by_cases e : fk al x m = m
      · rw [e]; exact fun q2 => q ⟨e, q2⟩
      · have := fk_le al x m
        exact fk_not (by omega)
theorem lin {a t d : Int} (h : 0 < t) (h2 : t ≤ d) : (0 ≤ a → 0 ≤ a * t / d ∧ a * t / d ≤ a) ∧ (a ≤ 0 → a ≤ a * t / d ∧ a * t / d ≤ 0) := by
  have hd : 0 < d := by omega
  refine ⟨fun ha => ⟨Int.ediv_nonneg (Int.mul_nonneg ha (by omega)) (by omega), Int.ediv_le_of_le_mul hd (Int.mul_le_mul_of_nonneg_left h2 ha)⟩, fun ha => ⟨(Int.le_ediv_iff_mul_le hd).2 (Int.mul_le_mul_of_nonpos_left ha h2), Int.ediv_le_of_le_mul hd ?_⟩⟩
  have := Int.mul_nonpos_of_nonpos_of_nonneg ha (show 0 ≤ t by omega)
  omega
theorem vW_bd {n : Nat} {al l : Nat → Int} {x lo hi : Int} (hn : 1 ≤ n) (hl : ∀ i, i < n → lo ≤ l i ∧ l i ≤ hi) : lo ≤ vW n al l x ∧ vW n al l x ≤ hi := by
  have hle := fk_le al x n
  rcases Nat.eq_zero_or_pos (fk al x n) with h0 | h0
  · rw [vW_0 h0]; exact hl 0 (by omega)
  · obtain ⟨j, hj⟩ : ∃ j, fk al x n = j + 1 := ⟨fk al x n - 1, by omega⟩
    by_cases hjn : n = j + 1
    · rw [vW_n hj hjn]; exact hl j (by omega)
    · rw [vW_m hj (fun e => hjn e.symm)]
      have hf := fk_fix (al := al) (x := x) n
      rw [hj] at hf
      have h1 := (fk_prev hf).2
      have h2 := fk_not (al := al) (x := x) (n := n) (by omega)
      rw [hj] at h2
      have := lin (a := l (j + 1) - l j) (t := x - al j) (d := al (j + 1) - al j) (by omega) (by omega)
      have a1 := hl j (by omega)
      have a2 := hl (j + 1) (by omega)
      rcases Int.le_total 0 (l (j + 1) - l j) with q | q
      · have := this.1 q; omega
      · have := this.2 q; omega
/-! The flow of a cruise, the cost of a leg -/
def tabW (P : PD) (T : Nat → Nat → Int) (alt mass : Int) : Int := vW P.nM P.ma (fun j => vW P.na P.al (fun i => T i j) alt) mass
def xtr (P : PD) (tas : Int) : Int := 1000 + P.xt * (if P.rf < tas then tas - P.rf else 0)
def flo (P : PD) (alt mass tas : Int) : Int := if 50000 < tabW P P.tR alt mass * xtr P tas / 1000 then 50000 else tabW P P.tR alt mass * xtr P tas / 1000
theorem tabW_bd {P : PD} (O : POk P) (alt mass : Int) : 0 ≤ tabW P P.tR alt mass ∧ tabW P P.tR alt mass ≤ 50000 :=
  vW_bd (by have := O.nM1; omega) fun j hj => vW_bd (by have := O.na1; omega) fun i hi => O.tR i j hi hj
theorem xtr_bd {P : PD} (O : POk P) {tas : Int} (h : tas ≤ 4000) : 1000 ≤ xtr P tas ∧ xtr P tas ≤ 401000 := by
  unfold xtr
  have := O.xt
  have := O.rf
  split
  · rename_i q
    have h0 : 0 ≤ P.xt * (tas - P.rf) := Int.mul_nonneg (by omega) (by omega)
    have h1 : P.xt * (tas - P.rf) ≤ 100 * 4000 := Int.mul_le_mul (by omega) (by omega) (by omega) (by omega)
    omega
  · omega
theorem flo_bd {P : PD} (O : POk P) (alt mass : Int) {tas : Int} (h : tas ≤ 4000) : 0 ≤ flo P alt mass tas ∧ flo P alt mass tas ≤ 50000 := by
  have a := tabW_bd O alt mass
  have b := xtr_bd O h
  have c : 0 ≤ tabW P P.tR alt mass * xtr P tas / 1000 := Int.ediv_nonneg (Int.mul_nonneg a.1 (by omega)) (by omega)
  unfold flo
  split <;> omega
def gr (Z : ZD) (k j s : Nat) : Int := Z.sp s + Z.tl k j
def okc (Z : ZD) (k j s : Nat) : Bool := decide (1 ≤ gr Z k j s)
def tk (Z : ZD) (k j s : Nat) : Int := (Z.ds k + gr Z k j s - 1) / gr Z k j s
def cs (Z : ZD) (k j s : Nat) : Int := tk Z k j s * (flo Z.P (Z.lv j) (Z.ms k) (Z.sp s) + Z.ix)
def coV (Z : ZD) (k j s : Nat) : Int := if okc Z k j s = true then cs Z k j s else 0
def coE (Z : ZD) (k j s : Nat) : Int := if okc Z k j s = true then 0 else 10
theorem coE_t {Z : ZD} {k j s : Nat} (h : okc Z k j s = true) : coE Z k j s = 0 ∧ coV Z k j s = cs Z k j s := ⟨if_pos h, if_pos h⟩
theorem coE_f {Z : ZD} {k j s : Nat} (h : okc Z k j s = false) : coE Z k j s = 10 ∧ coV Z k j s = 0 := ⟨if_neg (by rw [h]; simp), if_neg (by rw [h]; simp)⟩
theorem tk_bd {Z : ZD} (O : ZOk Z) {k j s : Nat} (hk : k < Z.nd) (h : okc Z k j s = true) : 0 ≤ tk Z k j s ∧ tk Z k j s ≤ 8000000 := by
  have h1 : 1 ≤ gr Z k j s := of_decide_eq_true h
  have := O.ds k hk
  unfold tk
  refine ⟨Int.ediv_nonneg (by omega) (by omega), Int.ediv_le_of_le_mul (by omega) ?_⟩
  omega
theorem cs_bd {Z : ZD} (O : ZOk Z) {k j s : Nat} (hk : k < Z.nd) (hs : s < Z.ns) (h : okc Z k j s = true) : 0 ≤ cs Z k j s ∧ cs Z k j s ≤ 408000000000 := by
  have a := tk_bd O hk h
  have b := flo_bd (pck_ok O.pk) (Z.lv j) (Z.ms k) (tas := Z.sp s) (by have := O.sp s hs; omega)
  have c := O.ix
  unfold cs
  have e : tk Z k j s * (flo Z.P (Z.lv j) (Z.ms k) (Z.sp s) + Z.ix) ≤ 8000000 * 51000 := Int.mul_le_mul a.2 (by omega) (by omega) (by omega)
  exact ⟨Int.mul_nonneg a.1 (by omega), by omega⟩
theorem coV_bd {Z : ZD} (O : ZOk Z) {k j s : Nat} (hk : k < Z.nd) (hs : s < Z.ns) : 0 ≤ coV Z k j s ∧ coV Z k j s ≤ 408000000000 := by
  cases h : okc Z k j s
  · rw [(coE_f h).2]; omega
  · rw [(coE_t h).2]; exact cs_bd O hk hs h
theorem dfW_nn (i j : Int) : 0 ≤ dfW i j := by unfold dfW; split <;> omega
theorem dfW_at {i j : Int} (h : dfW i j ≤ 1) : i - 1 ≤ j ∧ j ≤ i + 1 := by unfold dfW at h; split at h <;> omega
theorem dfW_le {i j : Int} (h1 : i - 1 ≤ j) (h2 : j ≤ i + 1) : dfW i j ≤ 1 := by unfold dfW; split <;> omega
theorem dfW_lt {i j n : Int} (h1 : 0 ≤ i) (h2 : i < n) (h3 : 0 ≤ j) (h4 : j < n) : dfW i j < n := by unfold dfW; split <;> omega
/-! The cost of choices -/
/-- The level ahead of leg p. -/
def atL (Z : ZD) (L : Nat → Int) : Nat → Int
  | 0 => Z.fi
  | p + 1 => L p
/-- The error of leg p. -/
def eLg (Z : ZD) (L S : Nat → Int) (p : Nat) : Int := if knB Z (L p) (S p) = true then (if 1 < dfW (atL Z L p) (L p) then 9 else coE Z p (L p).toNat (S p).toNat) else 1
def eFi (Z : ZD) (L S : Nat → Int) : Nat → Int
  | 0 => 0
  | p + 1 => if eFi Z L S p = 0 then eLg Z L S p else eFi Z L S p
def cLg (Z : ZD) (L S : Nat → Int) (p : Nat) : Int := cs Z p (L p).toNat (S p).toNat + Z.cc * dfW (atL Z L p) (L p)
def cSm (Z : ZD) (L S : Nat → Int) : Nat → Int
  | 0 => 0
  | p + 1 => cSm Z L S p + cLg Z L S p
/-- The error and the cost of l choices. -/
def qE (Z : ZD) (l : Nat) (L S : Nat → Int) : Int :=
  if zck Z ≠ 0 then zck Z else if l ≠ Z.nd then 1 else if eFi Z L S Z.nd ≠ 0 then eFi Z L S Z.nd else if 1 < dfW (atL Z L Z.nd) Z.la then 9 else 0
def qV (Z : ZD) (l : Nat) (L S : Nat → Int) : Int := if qE Z l L S = 0 then cSm Z L S Z.nd + Z.cc * dfW (atL Z L Z.nd) Z.la else 0
theorem eFi_0 {Z : ZD} {L S : Nat → Int} : ∀ {p}, eFi Z L S p = 0 ↔ ∀ i, i < p → eLg Z L S i = 0
  | 0 => by simp [eFi]
  | p + 1 => by
    rw [eFi]
    constructor
    · intro h i hi
      split at h
      · rename_i h1
        by_cases e : i = p
        · subst e; exact h
        · exact eFi_0.1 h1 i (by omega)
      · omega
    · intro h
      rw [if_pos (eFi_0.2 fun i hi => h i (by omega))]
      exact h p (by omega)
theorem eFi_next {Z : ZD} {L S : Nat → Int} {p : Nat} (h : eFi Z L S p = 0) (h2 : eLg Z L S p = 0) : eFi Z L S (p + 1) = 0 := by rw [eFi, if_pos h, h2]
theorem eFi_stop {Z : ZD} {L S : Nat → Int} {p : Nat} (h : eFi Z L S p = 0) (h2 : eLg Z L S p ≠ 0) : ∀ {m}, p < m → eFi Z L S m = eLg Z L S p
  | 0, hm => by omega
  | m + 1, hm => by
    rw [eFi]
    by_cases e : m = p
    · subst e; rw [if_pos h]
    · have := eFi_stop h h2 (m := m) (by omega)
      rw [if_neg (by omega), this]
theorem qE_z {Z : ZD} {l : Nat} {L S : Nat → Int} (h : zck Z ≠ 0) : qE Z l L S = zck Z := if_pos h
theorem qE_l {Z : ZD} {l : Nat} {L S : Nat → Int} (h : zck Z = 0) (h2 : l ≠ Z.nd) : qE Z l L S = 1 := by unfold qE; rw [if_neg (by omega), if_pos h2]
theorem qE_p {Z : ZD} {L S : Nat → Int} (h : zck Z = 0) {p : Nat} (hp : p < Z.nd) (h2 : eFi Z L S p = 0) (h3 : eLg Z L S p ≠ 0) : qE Z Z.nd L S = eLg Z L S p := by
  unfold qE; rw [if_neg (by omega), if_neg (by omega), eFi_stop h2 h3 hp, if_pos h3]
theorem qE_9 {Z : ZD} {L S : Nat → Int} (h : zck Z = 0) (h2 : eFi Z L S Z.nd = 0) (h3 : 1 < dfW (atL Z L Z.nd) Z.la) : qE Z Z.nd L S = 9 := by
  unfold qE; rw [if_neg (by omega), if_neg (by omega), if_neg (by omega), if_pos h3]
theorem qE_0 {Z : ZD} {L S : Nat → Int} (h : zck Z = 0) (h2 : eFi Z L S Z.nd = 0) (h3 : ¬ 1 < dfW (atL Z L Z.nd) Z.la) : qE Z Z.nd L S = 0 := by
  unfold qE; rw [if_neg (by omega), if_neg (by omega), if_neg (by omega), if_neg h3]
theorem qV_no {Z : ZD} {l : Nat} {L S : Nat → Int} (h : qE Z l L S ≠ 0) : qV Z l L S = 0 := if_neg h
theorem qV_yes {Z : ZD} {l : Nat} {L S : Nat → Int} (h : qE Z l L S = 0) : qV Z l L S = cSm Z L S Z.nd + Z.cc * dfW (atL Z L Z.nd) Z.la := if_pos h
/-- Choices without an error. -/
structure QOk (Z : ZD) (l : Nat) (L S : Nat → Int) : Prop where
  z : zck Z = 0
  l : l = Z.nd
  k : ∀ p, p < Z.nd → (0 ≤ L p ∧ L p < Z.nl) ∧ (0 ≤ S p ∧ S p < Z.ns)
  d : ∀ p, p < Z.nd → dfW (atL Z L p) (L p) ≤ 1
  c : ∀ p, p < Z.nd → okc Z p (L p).toNat (S p).toNat = true
  e : dfW (atL Z L Z.nd) Z.la ≤ 1
theorem kn_iff {Z : ZD} {a b : Int} : knB Z a b = true ↔ (0 ≤ a ∧ a < Z.nl) ∧ (0 ≤ b ∧ b < Z.ns) := by
  unfold knB ixB; rw [Bool.and_eq_true, decide_eq_true_iff, decide_eq_true_iff]
theorem eLg_0 {Z : ZD} {L S : Nat → Int} {p : Nat} : eLg Z L S p = 0 ↔ ((0 ≤ L p ∧ L p < Z.nl) ∧ (0 ≤ S p ∧ S p < Z.ns)) ∧ dfW (atL Z L p) (L p) ≤ 1 ∧ okc Z p (L p).toNat (S p).toNat = true := by
  unfold eLg
  constructor
  · intro h
    split at h
    · rename_i h1
      split at h
      · omega
      · rename_i h2
        refine ⟨kn_iff.1 h1, by omega, ?_⟩
        cases q : okc Z p (L p).toNat (S p).toNat
        · rw [(coE_f q).1] at h; omega
        · rfl
    · omega
  · rintro ⟨h1, h2, h3⟩
    rw [if_pos (kn_iff.2 h1), if_neg (by omega), (coE_t h3).1]
theorem qE_ok {Z : ZD} {l : Nat} {L S : Nat → Int} : qE Z l L S = 0 ↔ QOk Z l L S := by
  unfold qE
  constructor
  · intro h
    split at h
    · omega
    · split at h
      · omega
      · split at h
        · omega
        · split at h
          · omega
          · rename_i h1 h2 h3 h4
            have h3 := eFi_0.1 (by omega : eFi Z L S Z.nd = 0)
            exact ⟨by omega, by omega, fun p hp => (eLg_0.1 (h3 p hp)).1, fun p hp => (eLg_0.1 (h3 p hp)).2.1, fun p hp => (eLg_0.1 (h3 p hp)).2.2, by omega⟩
  · intro h
    have hz := h.z
    have hl := h.l
    have he := h.e
    have : eFi Z L S Z.nd = 0 := eFi_0.2 fun p hp => eLg_0.2 ⟨h.k p hp, h.d p hp, h.c p hp⟩
    rw [if_neg (by omega), if_neg (by omega), if_neg (by omega), if_neg (by omega)]
theorem cLg_bd {Z : ZD} (O : ZOk Z) {L S : Nat → Int} {p : Nat} (hp : p < Z.nd) (h : eLg Z L S p = 0) : 0 ≤ cLg Z L S p ∧ cLg Z L S p ≤ 500000000000 := by
  obtain ⟨⟨h1, h2⟩, h3, h4⟩ := eLg_0.1 h
  have a := cs_bd O hp (s := (S p).toNat) (by omega) h4
  have b := dfW_nn (atL Z L p) (L p)
  have c := O.cc
  have d : 0 ≤ Z.cc * dfW (atL Z L p) (L p) := Int.mul_nonneg c.1 b
  have e : Z.cc * dfW (atL Z L p) (L p) ≤ 1073741824 * 1 := Int.mul_le_mul c.2 h3 b (by omega)
  unfold cLg
  omega
theorem cSm_bd {Z : ZD} (O : ZOk Z) {L S : Nat → Int} : ∀ {p : Nat}, p ≤ Z.nd → eFi Z L S p = 0 → 0 ≤ cSm Z L S p ∧ cSm Z L S p ≤ p * 500000000000
  | 0, _, _ => by simp [cSm]
  | p + 1, hp, h => by
    have h1 := eFi_0.1 h
    have a := cSm_bd O (p := p) (by omega) (eFi_0.2 fun i hi => h1 i (by omega))
    have b := cLg_bd O (p := p) (by omega) (h1 p (by omega))
    rw [cSm]
    omega
end Oz
end Go.Proofs.Ytoeklllahpegfaa
/-
  Plain: graphs, routes, potentials; no program in sight.
-/
namespace Go.Proofs.Ytoeklllahpegfaa
set_option linter.unusedVariables false
set_option linter.unusedSimpArgs false
namespace Ce
/-- An edge's numbers: from, to, cost. -/
abbrev Tab := Nat → Nat → Int
def nd (n a : Int) : Bool := decide (0 ≤ a ∧ a < n)
def inC (c : Int) : Bool := decide (0 ≤ c ∧ c ≤ 1099511627776)
/-- The error of an edge. -/
def er1 (n a b c : Int) : Int := if (nd n a && nd n b) = true then (if inC c = true then 0 else 2) else 1
def erow (n : Int) (E : Tab) (i : Nat) : Int := er1 n (E i 0) (E i 1) (E i 2)
def ckE (n : Int) (E : Tab) : Nat → Int
  | 0 => 0
  | k + 1 => if ckE n E k = 0 then erow n E k else ckE n E k
def ck (n : Int) (m : Nat) (E : Tab) : Int := if n < 1 ∨ 512 < n ∨ 8192 < m then 3 else ckE n E m
theorem nd_iff {n a : Int} : nd n a = true ↔ 0 ≤ a ∧ a < n := by unfold nd; exact decide_eq_true_iff
theorem inC_iff {c : Int} : inC c = true ↔ 0 ≤ c ∧ c ≤ 1099511627776 := by unfold inC; exact decide_eq_true_iff
structure Eok (n : Int) (E : Tab) (i : Nat) : Prop where
  f0 : 0 ≤ E i 0
  f1 : E i 0 < n
  t0 : 0 ≤ E i 1
  t1 : E i 1 < n
  c0 : 0 ≤ E i 2
  c1 : E i 2 ≤ 1099511627776
structure Ok (n : Int) (m : Nat) (E : Tab) : Prop where
  n1 : 1 ≤ n
  n2 : n ≤ 512
  hm : m ≤ 8192
  e : ∀ i, i < m → Eok n E i
theorem erow_0 {n : Int} {E : Tab} {i : Nat} : erow n E i = 0 ↔ Eok n E i := by
  unfold erow er1
  constructor
  · intro h
    split at h
    · rename_i h1
      rw [Bool.and_eq_true, nd_iff, nd_iff] at h1
      split at h
      · rename_i h2
        rw [inC_iff] at h2
        exact ⟨h1.1.1, h1.1.2, h1.2.1, h1.2.2, h2.1, h2.2⟩
      · omega
    · omega
  · intro h
    rw [if_pos (by rw [Bool.and_eq_true, nd_iff, nd_iff]; exact ⟨⟨h.f0, h.f1⟩, h.t0, h.t1⟩), if_pos (by rw [inC_iff]; exact ⟨h.c0, h.c1⟩)]
theorem erow_1 {n : Int} {E : Tab} {i : Nat} (h : (nd n (E i 0) && nd n (E i 1)) = false) : erow n E i = 1 := by unfold erow er1; rw [h]; rfl
theorem erow_2 {n : Int} {E : Tab} {i : Nat} (h : (nd n (E i 0) && nd n (E i 1)) = true) (h2 : inC (E i 2) = false) : erow n E i = 2 := by unfold erow er1; rw [h, h2]; rfl
theorem ckE_0 (n : Int) (E : Tab) : ∀ m, ckE n E m = 0 ↔ ∀ i, i < m → Eok n E i
  | 0 => by simp [ckE]
  | k + 1 => by
    rw [ckE]
    constructor
    · intro h i hi
      split at h
      · rename_i h1
        by_cases e : i = k
        · subst e; exact erow_0.1 h
        · exact (ckE_0 n E k).1 h1 i (by omega)
      · omega
    · intro h
      rw [if_pos ((ckE_0 n E k).2 fun i hi => h i (by omega))]
      exact erow_0.2 (h k (by omega))
theorem ckE_stop {n : Int} {E : Tab} {k : Nat} (h : ckE n E k = 0) (h2 : erow n E k ≠ 0) : ∀ m, k < m → ckE n E m = erow n E k
  | 0, hm => by omega
  | m + 1, hm => by
    rw [ckE]
    by_cases e : m = k
    · subst e; rw [if_pos h]
    · have := ckE_stop h h2 m (by omega)
      rw [if_neg (by omega), this]
theorem ck_ok {n : Int} {m : Nat} {E : Tab} : ck n m E = 0 ↔ Ok n m E := by
  unfold ck
  constructor
  · intro h
    split at h
    · omega
    · rename_i h1
      exact ⟨by omega, by omega, by omega, (ckE_0 n E m).1 h⟩
  · intro h
    rw [if_neg (by have := h.n1; have := h.n2; have := h.hm; omega)]
    exact (ckE_0 n E m).2 h.e
theorem ck_3 {n : Int} {m : Nat} {E : Tab} (h : n < 1 ∨ 512 < n ∨ 8192 < m) : ck n m E = 3 := if_pos h
theorem ck_stop {n : Int} {m : Nat} {E : Tab} (h0 : ¬ (n < 1 ∨ 512 < n ∨ 8192 < m)) {k : Nat} (hk : k < m) (h : ckE n E k = 0) (h2 : erow n E k ≠ 0) : ck n m E = erow n E k := by
  unfold ck; rw [if_neg h0]; exact ckE_stop h h2 m hk
theorem ck_end {n : Int} {m : Nat} {E : Tab} (h0 : ¬ (n < 1 ∨ 512 < n ∨ 8192 < m)) (h : ckE n E m = 0) : ck n m E = 0 := by
  unfold ck; rw [if_neg h0]; exact h
theorem ckE_next {n : Int} {E : Tab} {k : Nat} (h : ckE n E k = 0) (h2 : erow n E k = 0) : ckE n E (k + 1) = 0 := by rw [ckE, if_pos h, h2]
/-- The error of a graph and two of its nodes. -/
def en (n : Int) (m : Nat) (E : Tab) (a b : Int) : Int := if ck n m E ≠ 0 then ck n m E else if (nd n a && nd n b) = true then 0 else 1
structure En (n : Int) (m : Nat) (E : Tab) (a b : Int) : Prop where
  ok : Ok n m E
  a0 : 0 ≤ a
  a1 : a < n
  b0 : 0 ≤ b
  b1 : b < n
theorem en_ok {n : Int} {m : Nat} {E : Tab} {a b : Int} : en n m E a b = 0 ↔ En n m E a b := by
  unfold en
  constructor
  · intro h
    split at h
    · omega
    · rename_i h1
      split at h
      · rename_i h2
        rw [Bool.and_eq_true, nd_iff, nd_iff] at h2
        exact ⟨ck_ok.1 (by omega), h2.1.1, h2.1.2, h2.2.1, h2.2.2⟩
      · omega
  · intro h
    rw [if_neg (by rw [ck_ok.2 h.ok]; omega), if_pos (by rw [Bool.and_eq_true, nd_iff, nd_iff]; exact ⟨⟨h.a0, h.a1⟩, h.b0, h.b1⟩)]
theorem en_ck {n : Int} {m : Nat} {E : Tab} {a b : Int} (h : ck n m E ≠ 0) : en n m E a b = ck n m E := if_pos h
theorem en_1 {n : Int} {m : Nat} {E : Tab} {a b : Int} (h : ck n m E = 0) (h2 : (nd n a && nd n b) = false) : en n m E a b = 1 := by
  unfold en; rw [if_neg (by omega), h2]; rfl
theorem en_0 {n : Int} {m : Nat} {E : Tab} {a b : Int} (h : ck n m E = 0) (h2 : (nd n a && nd n b) = true) : en n m E a b = 0 := by
  unfold en; rw [if_neg (by omega), h2]; rfl
/-! Sums and routes -/
def sm (f : Nat → Int) : Nat → Int
  | 0 => 0
  | k + 1 => sm f k + f k
/-- The node behind k edges of a route. -/
def ps (E : Tab) (R : Nat → Int) (a : Int) : Nat → Int
  | 0 => a
  | k + 1 => E (R k).toNat 1
/-- The first k indices are indices of edges. -/
def okI (m : Nat) (R : Nat → Int) : Nat → Bool
  | 0 => true
  | k + 1 => okI m R k && decide (0 ≤ R k ∧ R k < m)
def okP (E : Tab) (R : Nat → Int) (a : Int) : Nat → Bool
  | 0 => true
  | k + 1 => okP E R a k && decide (E (R k).toNat 0 = ps E R a k)
def csum (E : Tab) (R : Nat → Int) (k : Nat) : Int := sm (fun j => E (R j).toNat 2) k
def cer (n : Int) (m : Nat) (E : Tab) (a b : Int) (l : Nat) (R : Nat → Int) : Int :=
  if en n m E a b ≠ 0 then en n m E a b else if 8192 < l then 3 else if okI m R l = true then (if okP E R a l = true ∧ ps E R a l = b then 0 else 9) else 6
def cst (n : Int) (m : Nat) (E : Tab) (a b : Int) (l : Nat) (R : Nat → Int) : Int := if cer n m E a b l R = 0 then csum E R l else 0
theorem okI_iff (m : Nat) (R : Nat → Int) : ∀ l, okI m R l = true ↔ ∀ k, k < l → 0 ≤ R k ∧ R k < m
  | 0 => by simp [okI]
  | l + 1 => by
    rw [okI, Bool.and_eq_true, okI_iff m R l, decide_eq_true_iff]
    constructor
    · rintro ⟨h, h2⟩ i hi
      by_cases e : i = l
      · subst e; exact h2
      · exact h i (by omega)
    · intro h
      exact ⟨fun i hi => h i (by omega), h l (by omega)⟩
theorem okP_iff (E : Tab) (R : Nat → Int) (a : Int) : ∀ l, okP E R a l = true ↔ ∀ k, k < l → E (R k).toNat 0 = ps E R a k
  | 0 => by simp [okP]
  | l + 1 => by
    rw [okP, Bool.and_eq_true, okP_iff E R a l, decide_eq_true_iff]
    constructor
    · rintro ⟨h, h2⟩ i hi
      by_cases e : i = l
      · subst e; exact h2
      · exact h i (by omega)
    · intro h
      exact ⟨fun i hi => h i (by omega), h l (by omega)⟩
structure Rt (m : Nat) (E : Tab) (a b : Int) (l : Nat) (R : Nat → Int) : Prop where
  hl : l ≤ 8192
  i : ∀ k, k < l → 0 ≤ R k ∧ R k < m
  p : ∀ k, k < l → E (R k).toNat 0 = ps E R a k
  e : ps E R a l = b
theorem cer_ok {n : Int} {m : Nat} {E : Tab} {a b : Int} {l : Nat} {R : Nat → Int} : cer n m E a b l R = 0 ↔ En n m E a b ∧ Rt m E a b l R := by
  unfold cer
  constructor
  · intro h
    split at h
    · omega
    · rename_i h1
      split at h
      · omega
      · split at h
        · rename_i h2 h3
          split at h
          · rename_i h4
            exact ⟨en_ok.1 (by omega), ⟨by omega, (okI_iff m R l).1 h3, (okP_iff E R a l).1 h4.1, h4.2⟩⟩
          · omega
        · omega
  · rintro ⟨h, r⟩
    rw [if_neg (by rw [en_ok.2 h]; omega), if_neg (by have := r.hl; omega), if_pos ((okI_iff m R l).2 r.i), if_pos ⟨(okP_iff E R a l).2 r.p, r.e⟩]
theorem cer_en {n : Int} {m : Nat} {E : Tab} {a b : Int} {l : Nat} {R : Nat → Int} (h : en n m E a b ≠ 0) : cer n m E a b l R = en n m E a b := if_pos h
theorem cer_3 {n : Int} {m : Nat} {E : Tab} {a b : Int} {l : Nat} {R : Nat → Int} (h : en n m E a b = 0) (h2 : 8192 < l) : cer n m E a b l R = 3 := by
  unfold cer; rw [if_neg (by omega), if_pos h2]
theorem cer_6 {n : Int} {m : Nat} {E : Tab} {a b : Int} {l : Nat} {R : Nat → Int} (h : en n m E a b = 0) (h2 : ¬ 8192 < l) {k : Nat} (hk : k < l) (h3 : ¬ (0 ≤ R k ∧ R k < m)) : cer n m E a b l R = 6 := by
  unfold cer; rw [if_neg (by omega), if_neg h2, if_neg]
  intro q; exact h3 ((okI_iff m R l).1 q k hk)
theorem cer_9 {n : Int} {m : Nat} {E : Tab} {a b : Int} {l : Nat} {R : Nat → Int} (h : en n m E a b = 0) (h2 : ¬ 8192 < l) (h3 : okI m R l = true) {k : Nat} (hk : k < l) (h4 : E (R k).toNat 0 ≠ ps E R a k) : cer n m E a b l R = 9 := by
  unfold cer; rw [if_neg (by omega), if_neg h2, if_pos h3, if_neg]
  rintro ⟨q, _⟩; exact h4 ((okP_iff E R a l).1 q k hk)
theorem cer_9e {n : Int} {m : Nat} {E : Tab} {a b : Int} {l : Nat} {R : Nat → Int} (h : en n m E a b = 0) (h2 : ¬ 8192 < l) (h3 : okI m R l = true) (h4 : ps E R a l ≠ b) : cer n m E a b l R = 9 := by
  unfold cer; rw [if_neg (by omega), if_neg h2, if_pos h3, if_neg]
  rintro ⟨_, q⟩; exact h4 q
theorem cer_0 {n : Int} {m : Nat} {E : Tab} {a b : Int} {l : Nat} {R : Nat → Int} (h : en n m E a b = 0) (h2 : ¬ 8192 < l) (h3 : okI m R l = true) (h4 : okP E R a l = true) (h5 : ps E R a l = b) : cer n m E a b l R = 0 := by
  unfold cer; rw [if_neg (by omega), if_neg h2, if_pos h3, if_pos ⟨h4, h5⟩]
theorem cst_no {n : Int} {m : Nat} {E : Tab} {a b : Int} {l : Nat} {R : Nat → Int} (h : cer n m E a b l R ≠ 0) : cst n m E a b l R = 0 := if_neg h
theorem cst_yes {n : Int} {m : Nat} {E : Tab} {a b : Int} {l : Nat} {R : Nat → Int} (h : cer n m E a b l R = 0) : cst n m E a b l R = csum E R l := if_pos h
theorem csum_bd {n : Int} {m : Nat} {E : Tab} {R : Nat → Int} (O : Ok n m E) : ∀ {l : Nat}, (∀ k, k < l → 0 ≤ R k ∧ R k < m) → 0 ≤ csum E R l ∧ csum E R l ≤ l * 1099511627776
  | 0, _ => by simp [csum, sm]
  | l + 1, h => by
    have ih := csum_bd O (l := l) (fun k hk => h k (by omega))
    have hr := h l (by omega)
    have he := O.e (R l).toNat (by omega)
    have h0 := he.c0
    have h1 := he.c1
    unfold csum at ih ⊢
    rw [sm]
    omega
theorem ps_bd {n : Int} {m : Nat} {E : Tab} {R : Nat → Int} {a : Int} (O : Ok n m E) (a0 : 0 ≤ a) (a1 : a < n) {l : Nat} (h : ∀ k, k < l → 0 ≤ R k ∧ R k < m) : ∀ k, k ≤ l → 0 ≤ ps E R a k ∧ ps E R a k < n
  | 0, _ => ⟨a0, a1⟩
  | k + 1, hk => by
    have hr := h k (by omega)
    have he := O.e (R k).toNat (by omega)
    exact ⟨he.t0, he.t1⟩
/-! The first index -/
def fi (p : Nat → Bool) : Nat → Int
  | 0 => -1
  | k + 1 => if 0 ≤ fi p k then fi p k else if p k = true then k else -1
theorem fi_bd (p : Nat → Bool) : ∀ m, -1 ≤ fi p m ∧ fi p m < m
  | 0 => by simp [fi]
  | k + 1 => by
    have := fi_bd p k
    rw [fi]
    split
    · omega
    · split <;> omega
theorem fi_no (p : Nat → Bool) : ∀ m, fi p m = -1 ↔ ∀ i, i < m → p i = false
  | 0 => by simp [fi]
  | k + 1 => by
    have hb := fi_bd p k
    have ih := fi_no p k
    rw [fi]
    constructor
    · intro h i hi
      split at h
      · omega
      · rename_i h1
        split at h
        · omega
        · rename_i h2
          by_cases e : i = k
          · subst e; simpa using h2
          · exact ih.1 (by omega) i (by omega)
    · intro h
      have h1 := ih.2 fun i hi => h i (by omega)
      rw [if_neg (by omega), if_neg (by rw [h k (by omega)]; simp)]
theorem fi_hit {p : Nat → Bool} {k : Nat} (h : ∀ i, i < k → p i = false) (hp : p k = true) : ∀ m, k < m → fi p m = k
  | 0, hm => by omega
  | m + 1, hm => by
    rw [fi]
    by_cases e : m = k
    · subst e
      have := (fi_no p m).2 h
      rw [if_neg (by omega), if_pos hp]
    · have := fi_hit h hp m (by omega)
      rw [if_pos (by omega), this]
theorem fi_yes {p : Nat → Bool} : ∀ {m : Nat}, 0 ≤ fi p m → p (fi p m).toNat = true
  | 0, h => by simp [fi] at h
  | k + 1, h => by
    rw [fi] at h ⊢
    split at h
    · rename_i h1
      rw [if_pos h1]
      exact fi_yes h1
    · rename_i h1
      rw [if_neg h1]
      split at h
      · rename_i h2
        rw [if_pos h2]
        simpa using h2
      · omega
theorem fi_congr {p q : Nat → Bool} : ∀ {m : Nat}, (∀ i, i < m → p i = q i) → fi p m = fi q m
  | 0, _ => rfl
  | k + 1, h => by rw [fi, fi, fi_congr (m := k) (fun i hi => h i (by omega)), h k (by omega)]
/-! Potentials -/
def okR (P : Nat → Int) : Nat → Bool
  | 0 => true
  | k + 1 => okR P k && decide (-1152921504606846976 ≤ P k ∧ P k ≤ 1152921504606846976)
theorem okR_iff (P : Nat → Int) : ∀ l, okR P l = true ↔ ∀ k, k < l → -1152921504606846976 ≤ P k ∧ P k ≤ 1152921504606846976
  | 0 => by simp [okR]
  | l + 1 => by
    rw [okR, Bool.and_eq_true, okR_iff P l, decide_eq_true_iff]
    constructor
    · rintro ⟨h, h2⟩ i hi
      by_cases e : i = l
      · subst e; exact h2
      · exact h i (by omega)
    · intro h
      exact ⟨fun i hi => h i (by omega), h l (by omega)⟩
def ver (n : Int) (m : Nat) (E : Tab) (l : Nat) (P : Nat → Int) : Int := if ck n m E ≠ 0 then ck n m E else if (l : Int) ≠ n then 1 else if okR P l = true then 0 else 2
def vp (E : Tab) (P : Nat → Int) (i : Nat) : Bool := decide (E i 2 < P (E i 1).toNat - P (E i 0).toNat)
def vix (n : Int) (m : Nat) (E : Tab) (l : Nat) (P : Nat → Int) : Int := if ver n m E l P = 0 then fi (vp E P) m else 0
structure Pk (n : Int) (m : Nat) (E : Tab) (l : Nat) (P : Nat → Int) : Prop where
  ok : Ok n m E
  hl : (l : Int) = n
  r : ∀ k, k < l → -1152921504606846976 ≤ P k ∧ P k ≤ 1152921504606846976
theorem ver_ok {n : Int} {m : Nat} {E : Tab} {l : Nat} {P : Nat → Int} : ver n m E l P = 0 ↔ Pk n m E l P := by
  unfold ver
  constructor
  · intro h
    split at h
    · omega
    · rename_i h1
      split at h
      · omega
      · split at h
        · rename_i h2 h3
          exact ⟨ck_ok.1 (by omega), by omega, (okR_iff P l).1 h3⟩
        · omega
  · intro h
    rw [if_neg (by rw [ck_ok.2 h.ok]; omega), if_neg (by have := h.hl; omega), if_pos ((okR_iff P l).2 h.r)]
theorem ver_ck {n : Int} {m : Nat} {E : Tab} {l : Nat} {P : Nat → Int} (h : ck n m E ≠ 0) : ver n m E l P = ck n m E := if_pos h
theorem ver_1 {n : Int} {m : Nat} {E : Tab} {l : Nat} {P : Nat → Int} (h : ck n m E = 0) (h2 : (l : Int) ≠ n) : ver n m E l P = 1 := by unfold ver; rw [if_neg (by omega), if_pos h2]
theorem ver_2 {n : Int} {m : Nat} {E : Tab} {l : Nat} {P : Nat → Int} (h : ck n m E = 0) (h2 : (l : Int) = n) {k : Nat} (hk : k < l) (h3 : ¬ (-1152921504606846976 ≤ P k ∧ P k ≤ 1152921504606846976)) : ver n m E l P = 2 := by
  unfold ver; rw [if_neg (by omega), if_neg (by omega), if_neg]
  intro q; exact h3 ((okR_iff P l).1 q k hk)
theorem ver_0 {n : Int} {m : Nat} {E : Tab} {l : Nat} {P : Nat → Int} (h : ck n m E = 0) (h2 : (l : Int) = n) (h3 : okR P l = true) : ver n m E l P = 0 := by
  unfold ver; rw [if_neg (by omega), if_neg (by omega), if_pos h3]
theorem vix_no {n : Int} {m : Nat} {E : Tab} {l : Nat} {P : Nat → Int} (h : ver n m E l P ≠ 0) : vix n m E l P = 0 := if_neg h
theorem vix_yes {n : Int} {m : Nat} {E : Tab} {l : Nat} {P : Nat → Int} (h : ver n m E l P = 0) : vix n m E l P = fi (vp E P) m := if_pos h
def ber (n : Int) (m : Nat) (E : Tab) (a b : Int) (l : Nat) (P : Nat → Int) : Int :=
  if en n m E a b ≠ 0 then en n m E a b else if ver n m E l P ≠ 0 then ver n m E l P else if 0 ≤ fi (vp E P) m then 9 else 0
def bnd (n : Int) (m : Nat) (E : Tab) (a b : Int) (l : Nat) (P : Nat → Int) : Int := if ber n m E a b l P = 0 then P b.toNat - P a.toNat else 0
theorem ber_ok {n : Int} {m : Nat} {E : Tab} {a b : Int} {l : Nat} {P : Nat → Int} : ber n m E a b l P = 0 ↔ En n m E a b ∧ Pk n m E l P ∧ ∀ i, i < m → P (E i 1).toNat - P (E i 0).toNat ≤ E i 2 := by
  have hf : fi (vp E P) m < 0 ↔ ∀ i, i < m → P (E i 1).toNat - P (E i 0).toNat ≤ E i 2 := by
    have hb := fi_bd (vp E P) m
    rw [show (fi (vp E P) m < 0) = (fi (vp E P) m = -1) from propext (by omega), fi_no]
    constructor
    · intro h i hi
      have := h i hi
      unfold vp at this
      rw [decide_eq_false_iff_not] at this
      omega
    · intro h i hi
      have := h i hi
      unfold vp
      rw [decide_eq_false_iff_not]
      omega
  unfold ber
  constructor
  · intro h
    split at h
    · omega
    · split at h
      · omega
      · split at h
        · omega
        · rename_i h1 h2 h3
          exact ⟨en_ok.1 (by omega), ver_ok.1 (by omega), hf.1 (by omega)⟩
  · rintro ⟨h1, h2, h3⟩
    have := hf.2 h3
    rw [if_neg (by rw [en_ok.2 h1]; omega), if_neg (by rw [ver_ok.2 h2]; omega), if_neg (by omega)]
theorem ber_en {n : Int} {m : Nat} {E : Tab} {a b : Int} {l : Nat} {P : Nat → Int} (h : en n m E a b ≠ 0) : ber n m E a b l P = en n m E a b := if_pos h
theorem ber_ver {n : Int} {m : Nat} {E : Tab} {a b : Int} {l : Nat} {P : Nat → Int} (h : en n m E a b = 0) (h2 : ver n m E l P ≠ 0) : ber n m E a b l P = ver n m E l P := by
  unfold ber; rw [if_neg (by omega), if_pos h2]
theorem ber_9 {n : Int} {m : Nat} {E : Tab} {a b : Int} {l : Nat} {P : Nat → Int} (h : en n m E a b = 0) (h2 : ver n m E l P = 0) (h3 : 0 ≤ fi (vp E P) m) : ber n m E a b l P = 9 := by
  unfold ber; rw [if_neg (by omega), if_neg (by omega), if_pos h3]
theorem ber_0 {n : Int} {m : Nat} {E : Tab} {a b : Int} {l : Nat} {P : Nat → Int} (h : en n m E a b = 0) (h2 : ver n m E l P = 0) (h3 : fi (vp E P) m < 0) : ber n m E a b l P = 0 := by
  unfold ber; rw [if_neg (by omega), if_neg (by omega), if_neg (by omega)]
theorem bnd_no {n : Int} {m : Nat} {E : Tab} {a b : Int} {l : Nat} {P : Nat → Int} (h : ber n m E a b l P ≠ 0) : bnd n m E a b l P = 0 := if_neg h
theorem bnd_yes {n : Int} {m : Nat} {E : Tab} {a b : Int} {l : Nat} {P : Nat → Int} (h : ber n m E a b l P = 0) : bnd n m E a b l P = P b.toNat - P a.toNat := if_pos h
/-- The verdict on a route with potentials. -/
def acc (n : Int) (m : Nat) (E : Tab) (a b : Int) (l : Nat) (P : Nat → Int) (r : Nat) (R : Nat → Int) : Int :=
  if cer n m E a b r R ≠ 0 then cer n m E a b r R else if ber n m E a b l P ≠ 0 then ber n m E a b l P else if bnd n m E a b l P < cst n m E a b r R then 11 else 0
/-- What potentials prove: no route costs less. -/
theorem below {n : Int} {m : Nat} {E : Tab} {a : Int} {P R : Nat → Int} (hv : ∀ i, i < m → P (E i 1).toNat - P (E i 0).toNat ≤ E i 2) : ∀ {l : Nat}, (∀ k, k < l → 0 ≤ R k ∧ R k < m) → (∀ k, k < l → E (R k).toNat 0 = ps E R a k) → P (ps E R a l).toNat - P a.toNat ≤ csum E R l
  | 0, _, _ => by simp [ps, csum, sm]
  | l + 1, h, hp => by
    have ih := below (P := P) (n := n) hv (l := l) (fun k hk => h k (by omega)) (fun k hk => hp k (by omega))
    have hr := h l (by omega)
    have he := hv (R l).toNat (by omega)
    rw [hp l (by omega)] at he
    unfold csum at ih ⊢
    rw [sm, ps]
    omega
end Ce
end Go.Proofs.Ytoeklllahpegfaa
/-
  Plain: least costs and least numbers of edges are unique; no program in sight.
-/
namespace Go.Proofs.Ytoeklllahpegfaa
set_option linter.unusedVariables false
set_option linter.unusedSimpArgs false
namespace Ce
/-- The order of labels: by cost, then by the number of edges. -/
def le2 (a b c d : Int) : Prop := a < c ∨ (a = c ∧ b ≤ d)
def lt2 (a b c d : Int) : Prop := a < c ∨ (a = c ∧ b < d)
theorem le2_refl (a b : Int) : le2 a b a b := .inr ⟨rfl, Int.le_refl _⟩
theorem le2_trans {a b c d e f : Int} (h : le2 a b c d) (k : le2 c d e f) : le2 a b e f := by unfold le2 at *; omega
theorem le2_anti {a b c d : Int} (h : le2 a b c d) (k : le2 c d a b) : a = c ∧ b = d := by unfold le2 at *; omega
theorem le2_add {a b c d x y : Int} (h : le2 a b c d) : le2 (a + x) (b + y) (c + x) (d + y) := by unfold le2 at *; omega
/-- The nodes of an edge, as numbers. -/
def fr (E : Tab) (i : Nat) : Nat := (E i 0).toNat
def to (E : Tab) (i : Nat) : Nat := (E i 1).toNat
/-- Final labels: C the costs (negative: no route), D the numbers of edges. -/
structure Lab (n m : Nat) (E : Tab) (s : Nat) (C D : Nat → Int) : Prop where
  c0 : C s = 0
  d0 : D s = 0
  rng : ∀ v, v < n → C v = -1 ∨ (0 ≤ C v ∧ 0 ≤ D v ∧ C v ≤ D v * 1099511627776 ∧ D v + 1 ≤ n)
  tri : ∀ i, i < m → 0 ≤ C (fr E i) → 0 ≤ C (to E i) ∧ le2 (C (to E i)) (D (to E i)) (C (fr E i) + E i 2) (D (fr E i) + 1)
  pre : ∀ v, v < n → 0 ≤ C v → v ≠ s → ∃ i, i < m ∧ to E i = v ∧ 0 ≤ C (fr E i) ∧ C (fr E i) + E i 2 = C v ∧ D (fr E i) + 1 = D v
section
variable {n m s : Nat} {E : Tab} {C D C' D' : Nat → Int}
theorem Lab.least (O : Ok n m E) (h : Lab n m E s C D) (h' : Lab n m E s C' D') : ∀ (k : Nat) (v : Nat), v < n → 0 ≤ C v → D v ≤ k → 0 ≤ C' v ∧ le2 (C' v) (D' v) (C v) (D v)
  | k, v, hv, hc, hd => by
    by_cases e : v = s
    · subst e
      rw [h.c0, h.d0, h'.c0, h'.d0]
      exact ⟨Int.le_refl _, le2_refl _ _⟩
    · obtain ⟨i, hi, ht, hu, e1, e2⟩ := h.pre v hv hc e
      have he := O.e i hi
      have hul : fr E i < n := by unfold fr; have := he.f0; have := he.f1; omega
      have hdu : 0 ≤ D (fr E i) := by
        rcases h.rng _ hul with q | q
        · omega
        · exact q.2.1
      match k with
      | 0 => omega
      | k + 1 =>
        obtain ⟨g1, g2⟩ := Lab.least O h h' k (fr E i) hul hu (by omega)
        obtain ⟨g3, g4⟩ := h'.tri i hi g1
        rw [ht] at g3 g4
        refine ⟨g3, le2_trans g4 ?_⟩
        rw [← e1, ← e2]
        exact le2_add g2
theorem Lab.uniq (O : Ok n m E) (h : Lab n m E s C D) (h' : Lab n m E s C' D') {v : Nat} (hv : v < n) : C v = C' v ∧ (0 ≤ C v → D v = D' v) := by
  have f1 : 0 ≤ C v → 0 ≤ C' v ∧ le2 (C' v) (D' v) (C v) (D v) := fun q => Lab.least O h h' (D v).toNat v hv q (by omega)
  have f2 : 0 ≤ C' v → 0 ≤ C v ∧ le2 (C v) (D v) (C' v) (D' v) := fun q => Lab.least O h' h (D' v).toNat v hv q (by omega)
  rcases h.rng v hv with q | q
  · rcases h'.rng v hv with q' | q'
    · exact ⟨by omega, by omega⟩
    · have := (f2 q'.1).1; omega
  · obtain ⟨g1, g2⟩ := f1 q.1
    obtain ⟨g3, g4⟩ := f2 g1
    obtain ⟨e1, e2⟩ := le2_anti g4 g2
    exact ⟨e1, fun _ => e2⟩
theorem Lab.s_lt (h : Lab n m E s C D) (hs : s < n) : 0 ≤ C s := by rw [h.c0]; omega
/-- A node with a route has no edge on it exactly if it is the first one. -/
theorem Lab.d_pos (O : Ok n m E) (h : Lab n m E s C D) {v : Nat} (hv : v < n) (hc : 0 ≤ C v) (hne : v ≠ s) : 1 ≤ D v := by
  obtain ⟨i, hi, ht, hu, e1, e2⟩ := h.pre v hv hc hne
  have he := O.e i hi
  have hul : fr E i < n := by unfold fr; have := he.f0; have := he.f1; omega
  rcases h.rng _ hul with q | q <;> omega
/-- Every route's cost is at least the label's. -/
theorem Lab.route (O : Ok n m E) (h : Lab n m E s C D) (hs : s < n) {R : Nat → Int} : ∀ {l : Nat}, (∀ k, k < l → 0 ≤ R k ∧ R k < m) → (∀ k, k < l → E (R k).toNat 0 = ps E R s k) → 0 ≤ C (ps E R s l).toNat ∧ C (ps E R s l).toNat ≤ csum E R l
  | 0, _, _ => by simp [ps, csum, sm, h.c0]
  | l + 1, h1, h2 => by
    obtain ⟨g1, g2⟩ := Lab.route O h hs (l := l) (fun k hk => h1 k (by omega)) (fun k hk => h2 k (by omega))
    have hr := h1 l (by omega)
    have hf : fr E (R l).toNat = (ps E R s l).toNat := by unfold fr; rw [h2 l (by omega)]
    obtain ⟨g3, g4⟩ := h.tri (R l).toNat (by omega) (by rw [hf]; exact g1)
    rw [hf] at g4
    have ht : to E (R l).toNat = (ps E R s (l + 1)).toNat := rfl
    rw [ht] at g3 g4
    refine ⟨g3, ?_⟩
    unfold csum at g2 ⊢
    rw [sm]
    unfold le2 at g4
    omega
end
/-! The cheapest route, from its end -/
/-- Whether edge i can be the last one of a cheapest route to v. -/
def lastB (E : Tab) (C D : Nat → Int) (v : Int) (i : Nat) : Bool := decide (E i 1 = v ∧ 0 ≤ C (fr E i) ∧ C (fr E i) + E i 2 = C v.toNat ∧ D (fr E i) + 1 = D v.toNat)
def pk (m : Nat) (E : Tab) (C D : Nat → Int) (v : Int) : Int := fi (lastB E C D v) m
/-- The node j edges ahead of the end. -/
def bk (m : Nat) (E : Tab) (C D : Nat → Int) (b : Int) : Nat → Int
  | 0 => b
  | j + 1 => E (pk m E C D (bk m E C D b j)).toNat 0
/-- The edges of the route, from its end. -/
def rb (m : Nat) (E : Tab) (C D : Nat → Int) (b : Int) (j : Nat) : Int := pk m E C D (bk m E C D b j)
/-- The route, from its beginning. -/
def rt (m : Nat) (E : Tab) (C D : Nat → Int) (b : Int) (j : Nat) : Int := rb m E C D b ((D b.toNat).toNat - 1 - j)
section
variable {n m s : Nat} {E : Tab} {C D C' D' : Nat → Int}
theorem pk_ok (O : Ok n m E) (h : Lab n m E s C D) {v : Int} (v0 : 0 ≤ v) (v1 : v < n) (hc : 0 ≤ C v.toNat) (hne : v ≠ s) :
    0 ≤ pk m E C D v ∧ pk m E C D v < m ∧ E (pk m E C D v).toNat 1 = v ∧ 0 ≤ C (fr E (pk m E C D v).toNat) ∧ C (fr E (pk m E C D v).toNat) + E (pk m E C D v).toNat 2 = C v.toNat ∧ D (fr E (pk m E C D v).toNat) + 1 = D v.toNat := by
  have hb := fi_bd (lastB E C D v) m
  have h0 : 0 ≤ fi (lastB E C D v) m := by
    rcases Int.lt_or_le (fi (lastB E C D v) m) 0 with q | q
    · exfalso
      have q2 := (fi_no (lastB E C D v) m).1 (by omega)
      obtain ⟨i, hi, ht, hu, e1, e2⟩ := h.pre v.toNat (by omega) hc (by omega)
      have := q2 i hi
      unfold lastB at this
      rw [decide_eq_false_iff_not] at this
      have he := (O.e i hi).t0
      exact this ⟨by unfold to at ht; omega, hu, e1, e2⟩
    · exact q
  have hy := fi_yes h0
  unfold lastB at hy
  rw [decide_eq_true_iff] at hy
  exact ⟨h0, hb.2, hy⟩
/-- Going back from the end, edge by edge. -/
theorem bk_ok (O : Ok n m E) (h : Lab n m E s C D) {b : Int} (b0 : 0 ≤ b) (b1 : b < n) (hc : 0 ≤ C b.toNat) : ∀ j : Nat, (j : Int) ≤ D b.toNat →
    0 ≤ bk m E C D b j ∧ bk m E C D b j < n ∧ 0 ≤ C (bk m E C D b j).toNat ∧ D (bk m E C D b j).toNat = D b.toNat - j
  | 0, _ => ⟨b0, b1, hc, by simp [bk]⟩
  | j + 1, hj => by
    obtain ⟨g0, g1, g2, g3⟩ := bk_ok O h b0 b1 hc j (by omega)
    have hne : bk m E C D b j ≠ s := by
      intro q
      rw [q] at g3
      have := h.d0
      simp only [Int.toNat_natCast] at g3
      omega
    obtain ⟨p0, p1, p2, p3, p4, p5⟩ := pk_ok O h g0 g1 g2 hne
    have he := O.e (pk m E C D (bk m E C D b j)).toNat (by omega)
    rw [bk]
    exact ⟨he.f0, he.f1, p3, by unfold fr at p5; omega⟩
theorem bk_lt (O : Ok n m E) (h : Lab n m E s C D) {b : Int} (b0 : 0 ≤ b) (b1 : b < n) (hc : 0 ≤ C b.toNat) (j : Nat) (hj : (j : Int) < D b.toNat) :
    0 ≤ rb m E C D b j ∧ rb m E C D b j < m ∧ E (rb m E C D b j).toNat 1 = bk m E C D b j ∧ E (rb m E C D b j).toNat 0 = bk m E C D b (j + 1) ∧ bk m E C D b j ≠ s ∧
      C (bk m E C D b (j + 1)).toNat + E (rb m E C D b j).toNat 2 = C (bk m E C D b j).toNat := by
  obtain ⟨g0, g1, g2, g3⟩ := bk_ok O h b0 b1 hc j (by omega)
  have hne : bk m E C D b j ≠ s := by
    intro q
    rw [q] at g3
    have := h.d0
    simp only [Int.toNat_natCast] at g3
    omega
  obtain ⟨p0, p1, p2, p3, p4, p5⟩ := pk_ok O h g0 g1 g2 hne
  exact ⟨p0, p1, p2, rfl, hne, p4⟩
/-- The end of the way back is the first node. -/
theorem bk_end (O : Ok n m E) (h : Lab n m E s C D) {b : Int} (b0 : 0 ≤ b) (b1 : b < n) (hc : 0 ≤ C b.toNat) {j : Nat} (hj : (j : Int) = D b.toNat) : bk m E C D b j = s := by
  obtain ⟨g0, g1, g2, g3⟩ := bk_ok O h b0 b1 hc j (by omega)
  apply Classical.byContradiction
  intro q
  have := h.d_pos O (v := (bk m E C D b j).toNat) (by omega) g2 (by omega)
  omega
/-- The nodes of the route, from its beginning. -/
theorem rt_ps (O : Ok n m E) (h : Lab n m E s C D) {b : Int} (b0 : 0 ≤ b) (b1 : b < n) (hc : 0 ≤ C b.toNat) : ∀ k : Nat, (k : Int) ≤ D b.toNat → ps E (rt m E C D b) s k = bk m E C D b ((D b.toNat).toNat - k)
  | 0, _ => by
    have : 0 ≤ D b.toNat := by
      rcases h.rng b.toNat (by omega) with q | q <;> omega
    rw [ps, bk_end O h b0 b1 hc (by omega)]
  | k + 1, hk => by
    have := (bk_lt O h b0 b1 hc ((D b.toNat).toNat - 1 - k) (by omega)).2.2.1
    rw [ps, rt, this]
    congr 1
    omega
theorem rt_ok (O : Ok n m E) (h : Lab n m E s C D) {b : Int} (b0 : 0 ≤ b) (b1 : b < n) (hc : 0 ≤ C b.toNat) : Rt m E s b (D b.toNat).toNat (rt m E C D b) ∧ csum E (rt m E C D b) (D b.toNat).toNat = C b.toNat := by
  have hd : 0 ≤ D b.toNat ∧ D b.toNat + 1 ≤ n := by
    rcases h.rng b.toNat (by omega) with q | q <;> omega
  have hps := rt_ps O h b0 b1 hc
  refine ⟨⟨by have := O.n2; omega, fun k hk => ?_, fun k hk => ?_, ?_⟩, ?_⟩
  · have := bk_lt O h b0 b1 hc ((D b.toNat).toNat - 1 - k) (by omega)
    exact ⟨this.1, this.2.1⟩
  · rw [hps k (by omega)]
    have := (bk_lt O h b0 b1 hc ((D b.toNat).toNat - 1 - k) (by omega)).2.2.2.1
    rw [rt, this]
    congr 1
    omega
  · rw [hps _ (by omega), Nat.sub_self]
    rfl
  · have key : ∀ k : Nat, (k : Int) ≤ D b.toNat → csum E (rt m E C D b) k = C (bk m E C D b ((D b.toNat).toNat - k)).toNat := by
      intro k
      induction k with
      | zero =>
        intro _
        rw [Nat.sub_zero, bk_end O h b0 b1 hc (by omega)]
        simp [csum, sm, h.c0]
      | succ k ih =>
        intro hk
        have ih := ih (by omega)
        have := (bk_lt O h b0 b1 hc ((D b.toNat).toNat - 1 - k) (by omega)).2.2.2.2.2
        unfold csum at ih ⊢
        rw [sm, ih]
        rw [show (D b.toNat).toNat - 1 - k + 1 = (D b.toNat).toNat - k by omega] at this
        rw [show (D b.toNat).toNat - (k + 1) = (D b.toNat).toNat - 1 - k by omega, ← this]
        rfl
    rw [key _ (by omega), Nat.sub_self]
    rfl
/-- What a route from the end depends on. -/
theorem lastB_congr (O : Ok n m E) (hC : ∀ v, v < n → C v = C' v) (hD : ∀ v, v < n → 0 ≤ C v → D v = D' v) {v : Int} (v0 : 0 ≤ v) (v1 : v < n) (hc : 0 ≤ C v.toNat) {i : Nat} (hi : i < m) : lastB E C D v i = lastB E C' D' v i := by
  have he := O.e i hi
  have hf : fr E i < n := by unfold fr; have := he.f0; have := he.f1; omega
  unfold lastB
  rw [← hC _ hf, ← hC v.toNat (by omega), ← hD v.toNat (by omega) hc]
  by_cases q : 0 ≤ C (fr E i)
  · rw [← hD _ hf q]
  · simp [q]
theorem bk_congr (O : Ok n m E) (h : Lab n m E s C D) (hC : ∀ v, v < n → C v = C' v) (hD : ∀ v, v < n → 0 ≤ C v → D v = D' v) {b : Int} (b0 : 0 ≤ b) (b1 : b < n) (hc : 0 ≤ C b.toNat) : ∀ j : Nat, (j : Int) ≤ D b.toNat → bk m E C D b j = bk m E C' D' b j
  | 0, _ => rfl
  | j + 1, hj => by
    obtain ⟨g0, g1, g2, g3⟩ := bk_ok O h b0 b1 hc j (by omega)
    rw [bk, bk, ← bk_congr O h hC hD b0 b1 hc j (by omega)]
    unfold pk
    rw [fi_congr fun i hi => lastB_congr O hC hD g0 g1 g2 hi]
theorem rb_congr (O : Ok n m E) (h : Lab n m E s C D) (hC : ∀ v, v < n → C v = C' v) (hD : ∀ v, v < n → 0 ≤ C v → D v = D' v) {b : Int} (b0 : 0 ≤ b) (b1 : b < n) (hc : 0 ≤ C b.toNat) (j : Nat) (hj : (j : Int) ≤ D b.toNat) : rb m E C D b j = rb m E C' D' b j := by
  obtain ⟨g0, g1, g2, g3⟩ := bk_ok O h b0 b1 hc j hj
  unfold rb pk
  rw [← bk_congr O h hC hD b0 b1 hc j hj, fi_congr fun i hi => lastB_congr O hC hD g0 g1 g2 hi]
end
/-! The potentials of a solution -/
/-- The greatest cost, 0 if there is none. -/
def mst (C : Nat → Int) : Nat → Int
  | 0 => 0
  | k + 1 => if mst C k < C k then C k else mst C k
theorem mst_nn (C : Nat → Int) : ∀ k, 0 ≤ mst C k
  | 0 => Int.le_refl _
  | k + 1 => by have := mst_nn C k; rw [mst]; split <;> omega
theorem mst_ge (C : Nat → Int) : ∀ {k v : Nat}, v < k → C v ≤ mst C k
  | 0, v, h => by omega
  | k + 1, v, h => by
    rw [mst]
    by_cases e : v = k
    · subst e; split <;> omega
    · have := mst_ge C (k := k) (v := v) (by omega)
      split <;> omega
theorem mst_le {C : Nat → Int} {B : Int} (hB : 0 ≤ B) : ∀ {k : Nat}, (∀ v, v < k → C v ≤ B) → mst C k ≤ B
  | 0, _ => hB
  | k + 1, h => by
    have := mst_le hB (k := k) fun v hv => h v (by omega)
    have := h k (by omega)
    rw [mst]; split <;> omega
theorem mst_congr {C C' : Nat → Int} : ∀ {k : Nat}, (∀ v, v < k → C v = C' v) → mst C k = mst C' k
  | 0, _ => rfl
  | k + 1, h => by rw [mst, mst, mst_congr (k := k) fun v hv => h v (by omega), h k (by omega)]
def pot (n : Nat) (C : Nat → Int) (v : Nat) : Int := if C v < 0 then mst C n else C v
section
variable {n m s : Nat} {E : Tab} {C D C' D' : Nat → Int}
theorem Lab.cb (O : Ok n m E) (h : Lab n m E s C D) {v : Nat} (hv : v < n) : -1 ≤ C v ∧ C v ≤ 562949953421312 ∧ (0 ≤ C v → 0 ≤ D v ∧ D v < n) := by
  have := O.n2
  rcases h.rng v hv with q | q
  · omega
  · refine ⟨by omega, by omega, by omega⟩
theorem Lab.mb (O : Ok n m E) (h : Lab n m E s C D) {k : Nat} (hk : k ≤ n) : 0 ≤ mst C k ∧ mst C k ≤ 562949953421312 :=
  ⟨mst_nn C k, mst_le (by omega) fun v hv => (h.cb O (show v < n by omega)).2.1⟩
theorem Lab.potb (O : Ok n m E) (h : Lab n m E s C D) {v : Nat} (hv : v < n) : 0 ≤ pot n C v ∧ pot n C v ≤ 562949953421312 := by
  have := h.mb O (Nat.le_refl n)
  have := h.cb O hv
  unfold pot
  split <;> omega
theorem Lab.pv (O : Ok n m E) (h : Lab n m E s C D) : ∀ i, i < m → pot n C (E i 1).toNat - pot n C (E i 0).toNat ≤ E i 2 := by
  intro i hi
  have he := O.e i hi
  have hf : fr E i < n := by unfold fr; have := he.f0; have := he.f1; omega
  have ht : to E i < n := by unfold to; have := he.t0; have := he.t1; omega
  show pot n C (to E i) - pot n C (fr E i) ≤ E i 2
  have hc := he.c0
  have hb := h.potb O ht
  by_cases q : 0 ≤ C (fr E i)
  · obtain ⟨g1, g2⟩ := h.tri i hi q
    unfold pot
    rw [if_neg (by omega), if_neg (by omega)]
    unfold le2 at g2
    omega
  · have h1 : pot n C (fr E i) = mst C n := by unfold pot; rw [if_pos (by omega)]
    have h2 : pot n C (to E i) ≤ mst C n := by
      unfold pot
      split
      · omega
      · exact mst_ge C ht
    omega
end
end Ce
end Go.Proofs.Ytoeklllahpegfaa
/-
  Plain: the graph of a problem as a list of edges; its routes are the choices, and cost the same; no program in sight.
-/
namespace Go.Proofs.Ytoeklllahpegfaa
set_option linter.unusedVariables false
set_option linter.unusedSimpArgs false
open Go.RowKit
namespace Oz
/-- An edge with its choice (-1, -1: none). -/
structure Ed where
  (f t : Nat)
  (c l s : Int)
instance : Inhabited Ed := ⟨⟨0, 0, 0, 0, 0⟩⟩
def nod (Z : ZD) (k i : Nat) : Nat := match k with
  | 0 => 0
  | k + 1 => 1 + k * Z.nl + i
def ed (Z : ZD) (k i j s : Nat) : Ed := ⟨nod Z k i, 1 + k * Z.nl + j, cs Z k j s + Z.cc * dfW i j, j, s⟩
def fed (Z : ZD) (i : Nat) : Ed := ⟨1 + (Z.nd - 1) * Z.nl + i, 1 + Z.nd * Z.nl, Z.cc * dfW i Z.la, -1, -1⟩
def eS (Z : ZD) (k i j : Nat) : Nat → List Ed
  | 0 => []
  | s + 1 => eS Z k i j s ++ if okc Z k j s = true then [ed Z k i j s] else []
def eJ (Z : ZD) (k i : Nat) : Nat → List Ed
  | 0 => []
  | j + 1 => eJ Z k i j ++ if dfW i j ≤ 1 then eS Z k i j Z.ns else []
def eI (Z : ZD) (k : Nat) : Nat → List Ed
  | 0 => []
  | i + 1 => eI Z k i ++ if k = 0 ∧ (i : Int) ≠ Z.fi then [] else eJ Z k i Z.nl
def eK (Z : ZD) : Nat → List Ed
  | 0 => []
  | k + 1 => eK Z k ++ eI Z k Z.nl
def eF (Z : ZD) : Nat → List Ed
  | 0 => []
  | i + 1 => eF Z i ++ if dfW i Z.la ≤ 1 then [fed Z i] else []
def gL (Z : ZD) : List Ed := eK Z Z.nd ++ eF Z Z.nl
section
variable {Z : ZD} {e : Ed}
theorem mem_eS {k i j : Nat} : ∀ {d : Nat}, e ∈ eS Z k i j d ↔ ∃ s, s < d ∧ okc Z k j s = true ∧ e = ed Z k i j s
  | 0 => by simp [eS]
  | d + 1 => by
    rw [eS, List.mem_append, mem_eS]
    constructor
    · rintro (⟨s, h1, h2, h3⟩ | h)
      · exact ⟨s, by omega, h2, h3⟩
      · split at h
        · rename_i q; exact ⟨d, by omega, q, by simpa using h⟩
        · cases h
    · rintro ⟨s, h1, h2, h3⟩
      by_cases q : s = d
      · subst q; right; rw [if_pos h2]; simp [h3]
      · exact .inl ⟨s, by omega, h2, h3⟩
theorem mem_eJ {k i : Nat} : ∀ {d : Nat}, e ∈ eJ Z k i d ↔ ∃ j s, j < d ∧ s < Z.ns ∧ dfW i j ≤ 1 ∧ okc Z k j s = true ∧ e = ed Z k i j s
  | 0 => by simp [eJ]
  | d + 1 => by
    rw [eJ, List.mem_append, mem_eJ]
    constructor
    · rintro (⟨j, s, h1, h2⟩ | h)
      · exact ⟨j, s, by omega, h2⟩
      · split at h
        · rename_i q
          obtain ⟨s, a1, a2, a3⟩ := mem_eS.1 h
          exact ⟨d, s, by omega, a1, q, a2, a3⟩
        · cases h
    · rintro ⟨j, s, h1, h2, h3, h4, h5⟩
      by_cases q : j = d
      · subst q; right; rw [if_pos h3]; exact mem_eS.2 ⟨s, h2, h4, h5⟩
      · exact .inl ⟨j, s, by omega, h2, h3, h4, h5⟩
theorem mem_eI {k : Nat} : ∀ {d : Nat}, e ∈ eI Z k d ↔ ∃ i j s, i < d ∧ j < Z.nl ∧ s < Z.ns ∧ (k = 0 → (i : Int) = Z.fi) ∧ dfW i j ≤ 1 ∧ okc Z k j s = true ∧ e = ed Z k i j s
  | 0 => by simp [eI]
  | d + 1 => by
    rw [eI, List.mem_append, mem_eI]
    constructor
    · rintro (⟨i, j, s, h1, h2⟩ | h)
      · exact ⟨i, j, s, by omega, h2⟩
      · split at h
        · cases h
        · rename_i q
          obtain ⟨j, s, a1, a2, a3, a4, a5⟩ := mem_eJ.1 h
          exact ⟨d, j, s, by omega, a1, a2, fun hk => Classical.byContradiction fun h => q ⟨hk, h⟩, a3, a4, a5⟩
    · rintro ⟨i, j, s, h1, h2, h3, h4, h5, h6, h7⟩
      by_cases q : i = d
      · subst q; right; rw [if_neg (fun h => h.2 (h4 h.1))]; exact mem_eJ.2 ⟨j, s, h2, h3, h5, h6, h7⟩
      · exact .inl ⟨i, j, s, by omega, h2, h3, h4, h5, h6, h7⟩
theorem mem_eK : ∀ {d : Nat}, e ∈ eK Z d ↔ ∃ k i j s, k < d ∧ i < Z.nl ∧ j < Z.nl ∧ s < Z.ns ∧ (k = 0 → (i : Int) = Z.fi) ∧ dfW i j ≤ 1 ∧ okc Z k j s = true ∧ e = ed Z k i j s
  | 0 => by simp [eK]
  | d + 1 => by
    rw [eK, List.mem_append, mem_eK, mem_eI]
    constructor
    · rintro (⟨k, i, j, s, h1, h2⟩ | ⟨i, j, s, h2⟩)
      · exact ⟨k, i, j, s, by omega, h2⟩
      · exact ⟨d, i, j, s, by omega, h2⟩
    · rintro ⟨k, i, j, s, h1, h2⟩
      by_cases q : k = d
      · subst q; exact .inr ⟨i, j, s, h2⟩
      · exact .inl ⟨k, i, j, s, by omega, h2⟩
theorem mem_eF : ∀ {d : Nat}, e ∈ eF Z d ↔ ∃ i, i < d ∧ dfW i Z.la ≤ 1 ∧ e = fed Z i
  | 0 => by simp [eF]
  | d + 1 => by
    rw [eF, List.mem_append, mem_eF]
    constructor
    · rintro (⟨s, h1, h2, h3⟩ | h)
      · exact ⟨s, by omega, h2, h3⟩
      · split at h
        · rename_i q; exact ⟨d, by omega, q, by simpa using h⟩
        · cases h
    · rintro ⟨s, h1, h2, h3⟩
      by_cases q : s = d
      · subst q; right; rw [if_pos h2]; simp [h3]
      · exact .inl ⟨s, by omega, h2, h3⟩
/-- The two kinds of edges. -/
def inE (Z : ZD) (k i j s : Nat) : Prop := k < Z.nd ∧ i < Z.nl ∧ j < Z.nl ∧ s < Z.ns ∧ (k = 0 → (i : Int) = Z.fi) ∧ dfW i j ≤ 1 ∧ okc Z k j s = true
def fiE (Z : ZD) (i : Nat) : Prop := i < Z.nl ∧ dfW i Z.la ≤ 1
theorem mem_gL : e ∈ gL Z ↔ (∃ k i j s, inE Z k i j s ∧ e = ed Z k i j s) ∨ ∃ i, fiE Z i ∧ e = fed Z i := by
  unfold gL inE fiE
  rw [List.mem_append, mem_eK, mem_eF]
  simp only [and_assoc]
/-! How many edges -/
theorem len_eS (k i j : Nat) : ∀ d, (eS Z k i j d).length ≤ d
  | 0 => by simp [eS]
  | d + 1 => by
    have := len_eS k i j d
    rw [eS, List.length_append]
    split <;> simp <;> omega
theorem len_eJ (h : Z.ns ≤ 6) (k i : Nat) : ∀ d, (eJ Z k i d).length ≤ 6 * (min d (i + 2) - (i - 1))
  | 0 => by simp [eJ]
  | d + 1 => by
    have := len_eJ h k i d
    have h2 := len_eS (Z := Z) k i d Z.ns
    rw [eJ, List.length_append]
    split
    · rename_i q
      have := dfW_at q
      omega
    · simp; omega
theorem len_eI (h : Z.ns ≤ 6) (k : Nat) : ∀ d, (eI Z k d).length ≤ 18 * d
  | 0 => by simp [eI]
  | d + 1 => by
    have := len_eI h k d
    have h2 := len_eJ h k d Z.nl
    rw [eI, List.length_append]
    split
    · simp; omega
    · omega
theorem len_eK (h : Z.ns ≤ 6) (h2 : Z.nl ≤ 8) : ∀ d, (eK Z d).length ≤ 144 * d
  | 0 => by simp [eK]
  | d + 1 => by
    have := len_eK h h2 d
    have h2 := len_eI h d Z.nl
    rw [eK, List.length_append]
    omega
theorem len_eF : ∀ d, (eF Z d).length ≤ d
  | 0 => by simp [eF]
  | d + 1 => by
    have := len_eF d
    rw [eF, List.length_append]
    split <;> simp <;> omega
theorem len_gL (O : ZOk Z) : (gL Z).length ≤ 3464 := by
  have h1 := len_eK O.ns2 O.nl2 Z.nd
  have h2 := len_eF (Z := Z) Z.nl
  have := O.nd2
  have := O.nl2
  unfold gL
  rw [List.length_append]
  omega
/-! Parts of the loops that hold nothing -/
theorem eJ_low {k i : Nat} : ∀ {d : Nat}, d ≤ i - 1 → eJ Z k i d = []
  | 0, _ => rfl
  | d + 1, h => by
    rw [eJ, eJ_low (by omega), if_neg]; rfl
    intro q
    have := dfW_at q
    omega
theorem eJ_high {k i a : Nat} (ha : i + 2 ≤ a) : ∀ {d : Nat}, eJ Z k i (a + d) = eJ Z k i a
  | 0 => rfl
  | d + 1 => by
    show eJ Z k i (a + d + 1) = _
    rw [eJ, eJ_high ha, if_neg, List.append_nil]
    intro q
    have := dfW_at q
    omega
theorem eJ_end {k i a n : Nat} (ha : i + 2 ≤ a) (hn : a ≤ n) : eJ Z k i n = eJ Z k i a := by
  obtain ⟨d, rfl⟩ : ∃ d, n = a + d := ⟨n - a, by omega⟩
  exact eJ_high ha
theorem eF_low : ∀ {d : Nat}, (d : Int) ≤ Z.la - 1 → eF Z d = []
  | 0, _ => rfl
  | d + 1, h => by
    rw [eF, eF_low (by omega), if_neg]; rfl
    intro q
    have := dfW_at q
    omega
theorem eF_high {a : Nat} (ha : Z.la + 2 ≤ (a : Int)) : ∀ {d : Nat}, eF Z (a + d) = eF Z a
  | 0 => rfl
  | d + 1 => by
    show eF Z (a + d + 1) = _
    rw [eF, eF_high ha, if_neg, List.append_nil]
    intro q
    have := dfW_at q
    omega
theorem eF_end {a n : Nat} (ha : Z.la + 2 ≤ (a : Int)) (hn : a ≤ n) : eF Z n = eF Z a := by
  obtain ⟨d, rfl⟩ : ∃ d, n = a + d := ⟨n - a, by omega⟩
  exact eF_high ha
theorem eI_low : ∀ {d : Nat}, (d : Int) ≤ Z.fi → eI Z 0 d = []
  | 0, _ => rfl
  | d + 1, h => by rw [eI, eI_low (by omega), if_pos ⟨rfl, by omega⟩]; rfl
theorem eI_high {a : Nat} (ha : Z.fi + 1 ≤ (a : Int)) : ∀ {d : Nat}, eI Z 0 (a + d) = eI Z 0 a
  | 0 => rfl
  | d + 1 => by
    show eI Z 0 (a + d + 1) = _
    rw [eI, eI_high ha, if_pos ⟨rfl, by omega⟩, List.append_nil]
theorem eI_end {a n : Nat} (ha : Z.fi + 1 ≤ (a : Int)) (hn : a ≤ n) : eI Z 0 n = eI Z 0 a := by
  obtain ⟨d, rfl⟩ : ∃ d, n = a + d := ⟨n - a, by omega⟩
  exact eI_high ha
/-! The list as a table of numbers -/
def gA (Z : ZD) (i : Nat) : Ed := (gL Z).getD i default
def eN (L : List Ed) (i f : Nat) : Int := match f with
  | 0 => (L.getD i default).f
  | 1 => (L.getD i default).t
  | _ => (L.getD i default).c
def cN (L : List Ed) (i f : Nat) : Int := match f with
  | 0 => (L.getD i default).l
  | _ => (L.getD i default).s
/-- The reference's choices: (0, 0) where there is none. -/
def cR (L : List Ed) (i f : Nat) : Int := if cN L i f < 0 then 0 else cN L i f
def gN (Z : ZD) : Nat := 2 + Z.nd * Z.nl
def gE (Z : ZD) : Ce.Tab := eN (gL Z)
theorem gE_0 (i : Nat) : gE Z i 0 = ((gA Z i).f : Int) := rfl
theorem gE_1 (i : Nat) : gE Z i 1 = ((gA Z i).t : Int) := rfl
theorem gE_2 (i : Nat) : gE Z i 2 = (gA Z i).c := rfl
theorem gA_mem {i : Nat} (h : i < (gL Z).length) : gA Z i ∈ gL Z := by
  unfold gA
  rw [List.getD_eq_getElem?_getD, List.getElem?_eq_getElem h]
  exact List.getElem_mem h
theorem gA_at (h : e ∈ gL Z) : ∃ i, i < (gL Z).length ∧ gA Z i = e := by
  obtain ⟨i, hi, he⟩ := List.mem_iff_getElem.1 h
  refine ⟨i, hi, ?_⟩
  unfold gA
  rw [List.getD_eq_getElem?_getD, List.getElem?_eq_getElem hi]
  exact he
/-! Bounds of the nodes -/
theorem nod_lt {k i : Nat} (hk : k ≤ Z.nd) (hi : i < Z.nl) : nod Z k i ≤ Z.nd * Z.nl := by
  unfold nod
  split
  · exact Nat.zero_le _
  · rename_i k
    have := Nat.mul_le_mul_right Z.nl hk
    rw [Nat.succ_mul] at this
    omega
theorem to_lt {k j : Nat} (hk : k < Z.nd) (hj : j < Z.nl) : 1 + k * Z.nl + j ≤ Z.nd * Z.nl := by
  have := Nat.mul_le_mul_right Z.nl hk
  rw [Nat.succ_mul] at this
  omega
theorem nl_ab {n k p i a : Nat} (hi : i < n) (ha : a < n) (h : k * n + i = p * n + a) : k = p ∧ i = a := by
  rcases Nat.lt_trichotomy k p with q | q | q
  · have := Nat.mul_le_mul_right n q
    rw [Nat.succ_mul] at this
    omega
  · subst q; exact ⟨rfl, by omega⟩
  · have := Nat.mul_le_mul_right n q
    rw [Nat.succ_mul] at this
    omega
theorem nod_inj {k p i a : Nat} (hi : i < Z.nl) (ha : a < Z.nl) (h : nod Z k i = nod Z p a) : k = p ∧ (k ≠ 0 → i = a) := by
  match k, p with
  | 0, 0 => exact ⟨rfl, fun h => absurd rfl h⟩
  | 0, p + 1 => unfold nod at h; simp only at h; omega
  | k + 1, 0 => unfold nod at h; simp only at h; omega
  | k + 1, p + 1 =>
    unfold nod at h
    simp only at h
    have := nl_ab (n := Z.nl) (k := k) (p := p) hi ha (by omega)
    exact ⟨by omega, fun _ => this.2⟩
theorem g_nl (O : ZOk Z) : Z.nd * Z.nl ≤ 192 ∧ 1 ≤ Z.nd * Z.nl := by
  have h1 := Nat.mul_le_mul O.nd2 O.nl2
  have h2 := Nat.mul_le_mul O.nd1 O.nl1
  omega
theorem cc_bd (O : ZOk Z) {i j : Int} (h : dfW i j ≤ 1) : 0 ≤ Z.cc * dfW i j ∧ Z.cc * dfW i j ≤ 1073741824 := by
  have b := dfW_nn i j
  have c := O.cc
  have e : Z.cc * dfW i j ≤ 1073741824 * 1 := Int.mul_le_mul c.2 h b (by omega)
  exact ⟨Int.mul_nonneg c.1 b, by omega⟩
theorem g_mem (O : ZOk Z) (h : e ∈ gL Z) : e.f ≤ Z.nd * Z.nl ∧ e.t ≤ 1 + Z.nd * Z.nl ∧ 0 ≤ e.c ∧ e.c ≤ 500000000000 := by
  rcases mem_gL.1 h with ⟨k, i, j, s, ⟨h1, h2, h3, h4, h5, h6, h7⟩, rfl⟩ | ⟨i, ⟨h1, h2⟩, rfl⟩
  · have a := nod_lt (Z := Z) (k := k) (by omega) h2
    have b := to_lt (Z := Z) h1 h3
    have c := cs_bd O h1 h4 h7
    have d := cc_bd O h6
    unfold ed
    simp only
    omega
  · have d := cc_bd O h2
    have b := to_lt (Z := Z) (k := Z.nd - 1) (by have := O.nd1; omega) h1
    unfold fed
    simp only
    omega
theorem g_ok (O : ZOk Z) : Ce.Ok (gN Z : Int) (gL Z).length (gE Z) where
  n1 := by unfold gN; omega
  n2 := by have := g_nl O; unfold gN; omega
  hm := by have := len_gL O; omega
  e i hi := by
    have := g_mem O (gA_mem hi)
    have h0 := gE_0 (Z := Z) i
    have h1 := gE_1 (Z := Z) i
    have h2 := gE_2 (Z := Z) i
    unfold gN
    constructor <;> omega
theorem g_en (O : ZOk Z) : Ce.En (gN Z : Int) (gL Z).length (gE Z) 0 ((gN Z : Int) - 1) := ⟨g_ok O, by omega, by unfold gN; omega, by unfold gN; omega, by omega⟩
/-! Routes and choices -/
/-- The choices of a route. -/
def rL (Z : ZD) (R : Nat → Int) (p : Nat) : Int := (gA Z (R p).toNat).l
def rS (Z : ZD) (R : Nat → Int) (p : Nat) : Int := (gA Z (R p).toNat).s
section
variable {R : Nat → Int} {b : Int} {l : Nat}
/-- The first p edges of a route are those of the first p legs. -/
theorem route_at (O : ZOk Z) (h : Ce.Rt (gL Z).length (gE Z) 0 b l R) : ∀ p, p ≤ Z.nd → p ≤ l →
    (∃ i : Nat, i < Z.nl ∧ atL Z (rL Z R) p = i ∧ Ce.ps (gE Z) R 0 p = nod Z p i ∧ (p = 0 → (i : Int) = Z.fi)) ∧
    (p < Z.nd → p < l → ∃ i j s : Nat, atL Z (rL Z R) p = i ∧ inE Z p i j s ∧ gA Z (R p).toNat = ed Z p i j s)
  | p, hp, hl => by
    have hat : ∃ i : Nat, i < Z.nl ∧ atL Z (rL Z R) p = i ∧ Ce.ps (gE Z) R 0 p = nod Z p i ∧ (p = 0 → (i : Int) = Z.fi) := by
      match p with
      | 0 =>
        have := O.fi
        exact ⟨Z.fi.toNat, by omega, by show Z.fi = _; omega, rfl, fun _ => by omega⟩
      | p + 1 =>
        obtain ⟨i, j, s, h1, h2, h3⟩ := (route_at O h p (by omega) (by omega)).2 (by omega) (by omega)
        refine ⟨j, h2.2.2.1, ?_, ?_, by omega⟩
        · show rL Z R p = _
          unfold rL; rw [h3]; rfl
        · rw [Ce.ps, gE_1, h3]; rfl
    refine ⟨hat, fun hp2 hl2 => ?_⟩
    obtain ⟨i, hi, ha, hps, h0⟩ := hat
    have hr := h.i p hl2
    have he := h.p p hl2
    rw [hps, gE_0] at he
    have he : (gA Z (R p).toNat).f = nod Z p i := by omega
    rcases mem_gL.1 (gA_mem (Z := Z) (i := (R p).toNat) (by omega)) with ⟨k, i', j, s, hin, e1⟩ | ⟨i', hin, e1⟩
    · rw [e1] at he
      have hh := nod_inj (Z := Z) hin.2.1 hi he
      obtain ⟨rfl, hh⟩ := hh
      have : i' = i := by
        by_cases q : k = 0
        · have := hin.2.2.2.2.1 q
          have := h0 q
          omega
        · exact hh q
      subst this
      exact ⟨i', j, s, ha, hin, e1⟩
    · rw [e1] at he
      have hf : (fed Z i').f = nod Z Z.nd i' := by
        have := O.nd1
        obtain ⟨d, hd⟩ : ∃ d, Z.nd = d + 1 := ⟨Z.nd - 1, by omega⟩
        unfold fed nod
        rw [hd]
        rfl
      rw [hf] at he
      have := nod_inj (Z := Z) hin.1 hi he
      omega
theorem no_last (O : ZOk Z) {i : Nat} (h : i < (gL Z).length) : gE Z i 0 ≠ (1 + Z.nd * Z.nl : Nat) := by
  have := g_mem O (gA_mem h)
  rw [gE_0]; omega
/-- A route to the last node has an edge for each leg, and one more. -/
theorem route_len (O : ZOk Z) (h : Ce.Rt (gL Z).length (gE Z) 0 ((gN Z : Int) - 1) l R) : l = Z.nd + 1 ∧ ∃ i : Nat, atL Z (rL Z R) Z.nd = i ∧ fiE Z i ∧ gA Z (R Z.nd).toNat = fed Z i := by
  have hge : Z.nd + 1 ≤ l := by
    apply Classical.byContradiction
    intro q
    obtain ⟨i, hi, _, h1, _⟩ := (route_at O h l (by omega) (Nat.le_refl _)).1
    have := nod_lt (Z := Z) (k := l) (by omega) hi
    have he := h.e
    unfold gN at he
    omega
  obtain ⟨i, hi, ha, h1, _⟩ := (route_at O h Z.nd (Nat.le_refl _) (by omega)).1
  have hr := h.i Z.nd (by omega)
  have he := h.p Z.nd (by omega)
  rw [h1, gE_0] at he
  have he : (gA Z (R Z.nd).toNat).f = nod Z Z.nd i := by omega
  rcases mem_gL.1 (gA_mem (Z := Z) (i := (R Z.nd).toNat) (by omega)) with ⟨k, i', j, s, hin, e1⟩ | ⟨i', hin, e1⟩
  · rw [e1] at he
    have hh := nod_inj (Z := Z) hin.2.1 hi he
    have := hin.1
    omega
  · rw [e1] at he
    have hf : (fed Z i').f = nod Z Z.nd i' := by
      have := O.nd1
      obtain ⟨d, hd⟩ : ∃ d, Z.nd = d + 1 := ⟨Z.nd - 1, by omega⟩
      unfold fed nod
      rw [hd]
      rfl
    rw [hf] at he
    have hh := (nod_inj (Z := Z) hin.1 hi he).2 (by have := O.nd1; omega)
    subst hh
    refine ⟨?_, i', ha, hin, e1⟩
    apply Classical.byContradiction
    intro q
    have hr2 := h.i (Z.nd + 1) (by omega)
    have he2 := h.p (Z.nd + 1) (by omega)
    rw [Ce.ps, gE_1, e1] at he2
    exact no_last O (i := (R (Z.nd + 1)).toNat) (by omega) he2
theorem rd_in (O : ZOk Z) (h : Ce.Rt (gL Z).length (gE Z) 0 ((gN Z : Int) - 1) l R) {p : Nat} (hp : p < Z.nd) : ∃ i j s : Nat, atL Z (rL Z R) p = i ∧ inE Z p i j s ∧ gA Z (R p).toNat = ed Z p i j s ∧ rL Z R p = j ∧ rS Z R p = s := by
  obtain ⟨hl, _⟩ := route_len O h
  obtain ⟨i, j, s, h1, h2, h3⟩ := (route_at O h p (by omega) (by omega)).2 hp (by omega)
  exact ⟨i, j, s, h1, h2, h3, by unfold rL; rw [h3]; rfl, by unfold rS; rw [h3]; rfl⟩
/-- The choices of a route have no error, and cost what the route costs. -/
theorem route_ok (hz : zck Z = 0) (h : Ce.Rt (gL Z).length (gE Z) 0 ((gN Z : Int) - 1) l R) : QOk Z Z.nd (rL Z R) (rS Z R) ∧ Ce.csum (gE Z) R l = qV Z Z.nd (rL Z R) (rS Z R) := by
  have O := zck_ok hz
  obtain ⟨hl, i0, g1, g2, g3⟩ := route_len O h
  have hq : QOk Z Z.nd (rL Z R) (rS Z R) := by
    refine ⟨hz, rfl, fun p hp => ?_, fun p hp => ?_, fun p hp => ?_, by rw [g1]; exact g2.2⟩
    · obtain ⟨i, j, s, h1, h2, h3, h4, h5⟩ := rd_in O h hp
      have := h2.2.2.1
      have := h2.2.2.2.1
      omega
    · obtain ⟨i, j, s, h1, h2, h3, h4, h5⟩ := rd_in O h hp
      rw [h1, h4]; exact h2.2.2.2.2.2.1
    · obtain ⟨i, j, s, h1, h2, h3, h4, h5⟩ := rd_in O h hp
      rw [h4, h5]; exact h2.2.2.2.2.2.2
  refine ⟨hq, ?_⟩
  have key : ∀ p, p ≤ Z.nd → Ce.csum (gE Z) R p = cSm Z (rL Z R) (rS Z R) p := by
    intro p
    induction p with
    | zero => intro _; rfl
    | succ p ih =>
      intro hp
      obtain ⟨i, j, s, h1, h2, h3, h4, h5⟩ := rd_in O h (p := p) (by omega)
      have ih := ih (by omega)
      unfold Ce.csum at ih ⊢
      rw [Ce.sm, ih, cSm, cLg, h1, h4, h5, gE_2, h3]
      rfl
  rw [qV_yes (qE_ok.2 hq), hl]
  have k := key Z.nd (Nat.le_refl _)
  unfold Ce.csum at k ⊢
  rw [Ce.sm, k, gE_2, g3, g1]
  rfl
end
/-- Choices without an error are those of a route. -/
theorem choice_route {l : Nat} {L S : Nat → Int} (h : QOk Z l L S) : ∃ R, Ce.Rt (gL Z).length (gE Z) 0 ((gN Z : Int) - 1) (Z.nd + 1) R ∧ Ce.csum (gE Z) R (Z.nd + 1) = qV Z l L S := by
  have O := zck_ok h.z
  have hal : ∀ p, p ≤ Z.nd → 0 ≤ atL Z L p ∧ atL Z L p < Z.nl := by
    intro p hp
    match p with
    | 0 => exact O.fi
    | p + 1 => exact (h.k p (by omega)).1
  have hex : ∀ p, ∃ r : Nat, p ≤ Z.nd → r < (gL Z).length ∧ gA Z r = if p < Z.nd then ed Z p (atL Z L p).toNat (L p).toNat (S p).toNat else fed Z (atL Z L p).toNat := by
    intro p
    by_cases hp : p ≤ Z.nd
    · have ha := hal p hp
      have : (if p < Z.nd then ed Z p (atL Z L p).toNat (L p).toNat (S p).toNat else fed Z (atL Z L p).toNat) ∈ gL Z := by
        rw [mem_gL]
        by_cases hlt : p < Z.nd
        · rw [if_pos hlt]
          have hk := h.k p hlt
          refine .inl ⟨p, _, _, _, ⟨hlt, by omega, by omega, by omega, fun q => ?_, ?_, h.c p hlt⟩, rfl⟩
          · subst q; show ((Z.fi.toNat : Nat) : Int) = _; have := O.fi; omega
          · have := h.d p hlt
            rw [Int.toNat_of_nonneg ha.1, Int.toNat_of_nonneg hk.1.1]; exact this
        · rw [if_neg hlt]
          have : p = Z.nd := by omega
          subst this
          refine .inr ⟨_, ⟨by omega, ?_⟩, rfl⟩
          rw [Int.toNat_of_nonneg ha.1]; exact h.e
      obtain ⟨i, h1, h2⟩ := gA_at this
      exact ⟨i, fun _ => ⟨h1, h2⟩⟩
    · exact ⟨0, fun q => absurd q hp⟩
  have hf := fun p => Classical.choose_spec (hex p)
  let R : Nat → Int := fun p => (Classical.choose (hex p) : Nat)
  have hR : ∀ p, p ≤ Z.nd → 0 ≤ R p ∧ R p < (gL Z).length ∧ gA Z (R p).toNat = if p < Z.nd then ed Z p (atL Z L p).toNat (L p).toNat (S p).toNat else fed Z (atL Z L p).toNat := by
    intro p hp
    have := hf p hp
    refine ⟨Int.natCast_nonneg _, ?_, ?_⟩
    · show ((Classical.choose (hex p) : Nat) : Int) < _
      have := this.1
      omega
    · show gA Z ((Classical.choose (hex p) : Nat) : Int).toNat = _
      rw [Int.toNat_natCast]; exact this.2
  have hps : ∀ p, p ≤ Z.nd → Ce.ps (gE Z) R 0 p = nod Z p (atL Z L p).toNat := by
    intro p hp
    match p with
    | 0 => rfl
    | p + 1 =>
      have := (hR p (by omega)).2.2
      rw [if_pos (by omega)] at this
      rw [Ce.ps, gE_1, this]
      rfl
  have hfed : ∀ i, (fed Z i).f = nod Z Z.nd i := by
    intro i
    have := O.nd1
    obtain ⟨d, hd⟩ : ∃ d, Z.nd = d + 1 := ⟨Z.nd - 1, by omega⟩
    unfold fed nod
    rw [hd]
    rfl
  refine ⟨R, ⟨by have := O.nd2; omega, fun p hp => ⟨(hR p (by omega)).1, (hR p (by omega)).2.1⟩, fun p hp => ?_, ?_⟩, ?_⟩
  · rw [hps p (by omega), gE_0, (hR p (by omega)).2.2]
    by_cases q : p < Z.nd
    · rw [if_pos q]; rfl
    · have : p = Z.nd := by omega
      subst this
      rw [if_neg q, hfed]
  · have := (hR Z.nd (Nat.le_refl _)).2.2
    rw [if_neg (by omega)] at this
    rw [Ce.ps, gE_1, this]
    unfold fed gN
    simp only
    omega
  · have key : ∀ p, p ≤ Z.nd → Ce.csum (gE Z) R p = cSm Z L S p := by
      intro p
      induction p with
      | zero => intro _; rfl
      | succ p ih =>
        intro hp
        have ih := ih (by omega)
        have h1 := (hR p (by omega)).2.2
        rw [if_pos (by omega)] at h1
        have ha := hal p (by omega)
        have hk := h.k p (by omega)
        unfold Ce.csum at ih ⊢
        rw [Ce.sm, ih, cSm, cLg, gE_2, h1]
        unfold ed
        simp only
        rw [Int.toNat_of_nonneg ha.1, Int.toNat_of_nonneg hk.1.1]
    rw [qV_yes (qE_ok.2 h)]
    have k := key Z.nd (Nat.le_refl _)
    have h1 := (hR Z.nd (Nat.le_refl _)).2.2
    rw [if_neg (by omega)] at h1
    have ha := hal Z.nd (Nat.le_refl _)
    unfold Ce.csum at k ⊢
    rw [Ce.sm, k, gE_2, h1]
    unfold fed
    simp only
    rw [Int.toNat_of_nonneg ha.1]
end
end Oz
end Go.Proofs.Ytoeklllahpegfaa
/-
  Plain: routes and potentials out of unique labels.
-/
namespace Go.Proofs.Ytoeklllahpegfaa
set_option linter.unusedVariables false
set_option linter.unusedSimpArgs false
namespace Ce
section
variable {n m s : Nat} {E : Tab} {C D C' D' : Nat → Int}
theorem Lab.C_eq (O : Ok n m E) (h : Lab n m E s C D) (h' : Lab n m E s C' D') : ∀ v, v < n → C v = C' v := fun v hv => (h.uniq O h' hv).1
theorem Lab.D_eq (O : Ok n m E) (h : Lab n m E s C D) (h' : Lab n m E s C' D') : ∀ v, v < n → 0 ≤ C v → D v = D' v := fun v hv => (h.uniq O h' hv).2
theorem rt_congr (O : Ok n m E) (h : Lab n m E s C D) (h' : Lab n m E s C' D') {b : Int} (b0 : 0 ≤ b) (b1 : b < n) (hc : 0 ≤ C b.toNat) {j : Nat} (hj : j < (D b.toNat).toNat) : rt m E C D b j = rt m E C' D' b j := by
  have e := h.D_eq O h' b.toNat (by omega) hc
  unfold rt
  rw [← e]
  exact rb_congr O h (h.C_eq O h') (h.D_eq O h') b0 b1 hc _ (by omega)
theorem pot_congr (O : Ok n m E) (h : Lab n m E s C D) (h' : Lab n m E s C' D') {v : Nat} (hv : v < n) : pot n C v = pot n C' v := by
  have e := h.C_eq O h'
  unfold pot
  rw [mst_congr e, e v hv]
end
end Ce
end Go.Proofs.Ytoeklllahpegfaa
/-
  Plain: a cheapest route is accepted with its potentials.
-/
namespace Go.Proofs.Ytoeklllahpegfaa
set_option linter.unusedVariables false
set_option linter.unusedSimpArgs false
namespace Ce
theorem En.left {n : Int} {m : Nat} {E : Tab} {a b : Int} (h : En n m E a b) : En n m E a a := ⟨h.ok, h.a0, h.a1, h.a0, h.a1⟩
theorem en_aa {n : Int} {m : Nat} {E : Tab} {a b : Int} (h : en n m E a b = 0) : en n m E a a = 0 := en_ok.2 (en_ok.1 h).left
/-- If the first end is right, the error of both is that of the second. -/
theorem en_ab1 {n : Int} {m : Nat} {E : Tab} {a b : Int} (h : en n m E a a = 0) (h2 : en n m E a b ≠ 0) : en n m E a b = 1 := by
  have hk : ck n m E = 0 := ck_ok.2 (en_ok.1 h).ok
  unfold en at h2 ⊢
  rw [if_neg (by omega)] at h2 ⊢
  split
  · rename_i q; rw [if_pos q] at h2; exact absurd rfl h2
  · rfl
section
variable {n m s : Nat} {E : Tab} {C D : Nat → Int}
theorem prove_ok (O : Ok n m E) (h : Lab n m E s C D) (hs : s < n) {t : Nat} (ht : t < n) (hc : 0 ≤ C t) :
    cer n m E s t (D t).toNat (rt m E C D t) = 0 ∧ cst n m E s t (D t).toNat (rt m E C D t) = C t ∧ ber n m E s t n (pot n C) = 0 ∧ bnd n m E s t n (pot n C) = C t ∧ acc n m E s t n (pot n C) (D t).toNat (rt m E C D t) = 0 := by
  have hen : En n m E s t := ⟨O, by omega, by omega, by omega, by omega⟩
  obtain ⟨r1, r2⟩ := rt_ok O h (b := (t : Int)) (by omega) (by omega) (by simpa using hc)
  simp only [Int.toNat_natCast] at r1 r2
  have e1 : cer n m E s t (D t).toNat (rt m E C D t) = 0 := cer_ok.2 ⟨hen, r1⟩
  have e2 : cst n m E s t (D t).toNat (rt m E C D t) = C t := by rw [cst_yes e1, r2]
  have e3 : ber n m E s t n (pot n C) = 0 := ber_ok.2 ⟨hen, ⟨O, rfl, fun k hk => by have := h.potb O hk; omega⟩, h.pv O⟩
  have e4 : bnd n m E s t n (pot n C) = C t := by
    rw [bnd_yes e3, Int.toNat_natCast, Int.toNat_natCast]
    have p1 : pot n C t = C t := by unfold pot; rw [if_neg (by omega)]
    have p2 : pot n C s = 0 := by unfold pot; rw [h.c0, if_neg (by omega)]
    omega
  refine ⟨e1, e2, e3, e4, ?_⟩
  unfold acc
  rw [if_neg (by omega), if_neg (by omega), e2, e4, if_neg (by omega)]
/-- A walk's cost is the specified one, and not below the least one. -/
theorem least_ok (O : Ok n m E) (h : Lab n m E s C D) (hs : s < n) {x : Int} (x0 : 0 ≤ x) (x1 : x < n) {l : Nat} {R : Nat → Int} (hR : Rt m E s x l R) :
    cer n m E s x l R = 0 ∧ cst n m E s x l R = csum E R l ∧ 0 ≤ C x.toNat ∧ C x.toNat ≤ csum E R l := by
  have e1 : cer n m E s x l R = 0 := cer_ok.2 ⟨⟨O, by omega, by omega, x0, x1⟩, hR⟩
  have := h.route O hs hR.i hR.p
  rw [hR.e] at this
  exact ⟨e1, cst_yes e1, this⟩
theorem below_ok {n : Int} {a x : Int} (O : Ok n m E) (a0 : 0 ≤ a) (a1 : a < n) (x0 : 0 ≤ x) (x1 : x < n) {l : Nat} {R : Nat → Int} (hR : Rt m E a x l R) {k : Nat} {P : Nat → Int} (hk : Pk n m E k P) (hf : fi (vp E P) m = -1) :
    cer n m E a x l R = 0 ∧ cst n m E a x l R = csum E R l ∧ ber n m E a x k P = 0 ∧ bnd n m E a x k P = P x.toNat - P a.toNat ∧ P x.toNat - P a.toNat ≤ csum E R l := by
  have hen : En n m E a x := ⟨O, a0, a1, x0, x1⟩
  have e1 : cer n m E a x l R = 0 := cer_ok.2 ⟨hen, hR⟩
  have hv : ∀ i, i < m → P (E i 1).toNat - P (E i 0).toNat ≤ E i 2 := fun i hi => by
    have := (fi_no (vp E P) m).1 hf i hi
    unfold vp at this
    rw [decide_eq_false_iff_not] at this
    omega
  have e3 : ber n m E a x k P = 0 := ber_ok.2 ⟨hen, hk, hv⟩
  have := below (P := P) (n := n) (a := a) hv hR.i hR.p
  rw [hR.e] at this
  exact ⟨e1, cst_yes e1, e3, bnd_yes e3, this⟩
end
end Ce
end Go.Proofs.Ytoeklllahpegfaa
/-
  Plain: the solution of the graph is the cheapest choices; a dearer problem.
-/
namespace Go.Proofs.Ytoeklllahpegfaa
set_option linter.unusedVariables false
set_option linter.unusedSimpArgs false
open Go.RowKit

namespace Oz
section
variable {Z : ZD} {C D : Nat → Int}
theorem gN_1 (Z : ZD) : ((gN Z - 1 : Nat) : Int) = (gN Z : Int) - 1 := by unfold gN; omega
theorem gN_2 (Z : ZD) : 2 ≤ gN Z := by unfold gN; omega
/-- What a cheapest route is: choices without an error that cost what its label says. -/
theorem sol_ok (hz : zck Z = 0) (h : Ce.Lab (gN Z) (gL Z).length (gE Z) 0 C D) (hc : 0 ≤ C (gN Z - 1)) :
    Ce.Rt (gL Z).length (gE Z) 0 ((gN Z : Int) - 1) (D (gN Z - 1)).toNat (Ce.rt (gL Z).length (gE Z) C D ((gN Z - 1 : Nat) : Int)) ∧ Ce.csum (gE Z) (Ce.rt (gL Z).length (gE Z) C D ((gN Z - 1 : Nat) : Int)) (D (gN Z - 1)).toNat = C (gN Z - 1) ∧
      qE Z Z.nd (rL Z (Ce.rt (gL Z).length (gE Z) C D ((gN Z - 1 : Nat) : Int))) (rS Z (Ce.rt (gL Z).length (gE Z) C D ((gN Z - 1 : Nat) : Int))) = 0 ∧
      qV Z Z.nd (rL Z (Ce.rt (gL Z).length (gE Z) C D ((gN Z - 1 : Nat) : Int))) (rS Z (Ce.rt (gL Z).length (gE Z) C D ((gN Z - 1 : Nat) : Int))) = C (gN Z - 1) := by
  have O := g_ok (zck_ok hz)
  have n2 := gN_2 Z
  obtain ⟨r1, r2⟩ := Ce.rt_ok O h (b := ((gN Z - 1 : Nat) : Int)) (by omega) (by omega) (by rw [Int.toNat_natCast]; exact hc)
  rw [Int.toNat_natCast] at r1 r2
  have r1' : Ce.Rt (gL Z).length (gE Z) 0 ((gN Z : Int) - 1) (D (gN Z - 1)).toNat (Ce.rt (gL Z).length (gE Z) C D ((gN Z - 1 : Nat) : Int)) := by rw [← gN_1]; exact r1
  obtain ⟨q1, q2⟩ := route_ok hz r1'
  exact ⟨r1', r2, qE_ok.2 q1, q2.symm.trans r2⟩
/-- No choices cost less. -/
theorem sol_least (hz : zck Z = 0) (h : Ce.Lab (gN Z) (gL Z).length (gE Z) 0 C D) {l : Nat} {L S : Nat → Int} (q : qE Z l L S = 0) : 0 ≤ C (gN Z - 1) ∧ C (gN Z - 1) ≤ qV Z l L S := by
  have n2 := gN_2 Z
  obtain ⟨R, hR, hs⟩ := choice_route (qE_ok.1 q)
  have := h.route (g_ok (zck_ok hz)) (by omega) hR.i hR.p
  rw [show ((0 : Nat) : Int) = 0 from rfl, hR.e, hs, ← gN_1, Int.toNat_natCast] at this
  exact this
theorem sol_no (hz : zck Z = 0) (h : Ce.Lab (gN Z) (gL Z).length (gE Z) 0 C D) (hc : C (gN Z - 1) < 0) (l : Nat) (L S : Nat → Int) : qE Z l L S ≠ 0 := fun q => by
  have := (sol_least hz h q).1
  omega
theorem sol_prove (hz : zck Z = 0) (h : Ce.Lab (gN Z) (gL Z).length (gE Z) 0 C D) (hc : 0 ≤ C (gN Z - 1)) :
    Ce.ber (gN Z) (gL Z).length (gE Z) 0 ((gN Z : Int) - 1) (gN Z) (Ce.pot (gN Z) C) = 0 ∧ Ce.bnd (gN Z) (gL Z).length (gE Z) 0 ((gN Z : Int) - 1) (gN Z) (Ce.pot (gN Z) C) = C (gN Z - 1) ∧
      Ce.acc (gN Z) (gL Z).length (gE Z) 0 ((gN Z : Int) - 1) (gN Z) (Ce.pot (gN Z) C) (D (gN Z - 1)).toNat (Ce.rt (gL Z).length (gE Z) C D ((gN Z - 1 : Nat) : Int)) = 0 := by
  have n2 := gN_2 Z
  obtain ⟨_, _, e3, e4, e5⟩ := Ce.prove_ok (g_ok (zck_ok hz)) h (by omega) (t := gN Z - 1) (by omega) hc
  rw [gN_1] at e3 e4
  refine ⟨e3, e4, ?_⟩
  rw [← gN_1]
  exact e5
/-! A dearer problem -/
def dz (Z : ZD) (x y : Int) : ZD := { Z with ix := x, cc := y }
theorem zck_dz {x y : Int} (hz : zck Z = 0) (x0 : Z.ix ≤ x) (x1 : x ≤ 1000) (y0 : Z.cc ≤ y) (y1 : y ≤ 1073741824) : zck (dz Z x y) = 0 := by
  have hz' := hz
  unfold zck at hz
  obtain ⟨_, h⟩ := fste_0 (by decide) hz
  obtain ⟨_, h⟩ := fste_0 (by decide) h
  obtain ⟨_, h⟩ := fste_0 (by decide) h
  obtain ⟨_, h⟩ := fste_0 (by decide) h
  obtain ⟨_, h⟩ := fste_0 (by decide) h
  obtain ⟨_, h⟩ := fste_0 (by decide) h
  obtain ⟨_, h⟩ := fste_0 (by decide) h
  obtain ⟨_, h⟩ := fste_0 (by decide) h
  obtain ⟨_, h⟩ := fste_0 (by decide) h
  obtain ⟨a8, _⟩ := fste_0 (by decide) h
  rw [Bool.and_eq_true] at a8
  have O := zck_ok hz'
  have e : o0 (dz Z x y) = o0 Z := by
    rw [a8.1]
    have c1 := a8.1
    unfold o0 at c1 ⊢
    simp only [Bool.and_eq_true] at c1 ⊢
    obtain ⟨⟨⟨⟨⟨e1, e2⟩, e3⟩, e4⟩, e5⟩, e6⟩ := c1
    have ox := O.ix
    have oy := O.cc
    exact ⟨⟨⟨⟨⟨e1, e2⟩, e3⟩, e4⟩, alB_iff.2 fun _ _ => by show 0 ≤ x ∧ x ≤ 1000; omega⟩, alB_iff.2 fun _ _ => by show 0 ≤ y ∧ y ≤ 1073741824; omega⟩
  have e2 : zck (dz Z x y) = fste [(decide (1 ≤ Z.nd), 3), (decide (Z.nd ≤ 24), 3), (decide (1 ≤ Z.nl), 3), (decide (Z.nl ≤ 8), 3), (decide (1 ≤ Z.ns), 3), (decide (Z.ns ≤ 6), 3), (s0 Z && shT Z.nt Z.lt Z.nl, 1), (asB Z.nl Z.lv, 9), (asB Z.ns Z.sp, 9), (o0 (dz Z x y) && alT Z.nt Z.lt Z.tl (-400) 400, 2)] (pck Z.P) := rfl
  rw [e2, e]
  exact hz'
theorem qok_dz {x y : Int} {l : Nat} {L S : Nat → Int} (hd : zck (dz Z x y) = 0) (h : QOk Z l L S) : QOk (dz Z x y) l L S := ⟨hd, h.l, h.k, h.d, h.c, h.e⟩
theorem qok_zd {x y : Int} {l : Nat} {L S : Nat → Int} (hz : zck Z = 0) (h : QOk (dz Z x y) l L S) : QOk Z l L S := ⟨hz, h.l, h.k, h.d, h.c, h.e⟩
theorem cs_dz {x y : Int} (O : ZOk Z) (x0 : Z.ix ≤ x) {k j s : Nat} (hk : k < Z.nd) (h : okc Z k j s = true) : cs Z k j s ≤ cs (dz Z x y) k j s := by
  show tk Z k j s * (flo Z.P (Z.lv j) (Z.ms k) (Z.sp s) + Z.ix) ≤ tk Z k j s * (flo Z.P (Z.lv j) (Z.ms k) (Z.sp s) + x)
  exact Int.mul_le_mul_of_nonneg_left (by omega) (tk_bd O hk h).1
theorem cc_dz {y : Int} (y0 : Z.cc ≤ y) (i j : Int) : Z.cc * dfW i j ≤ y * dfW i j := Int.mul_le_mul_of_nonneg_right y0 (dfW_nn i j)
theorem qV_dz {x y : Int} (hz : zck Z = 0) (hd : zck (dz Z x y) = 0) (x0 : Z.ix ≤ x) (y0 : Z.cc ≤ y) {l : Nat} {L S : Nat → Int} (q : qE Z l L S = 0) : qV Z l L S ≤ qV (dz Z x y) l L S := by
  have h := qE_ok.1 q
  have O := zck_ok hz
  rw [qV_yes q, qV_yes (qE_ok.2 (qok_dz hd h))]
  have key : ∀ p, p ≤ Z.nd → cSm Z L S p ≤ cSm (dz Z x y) L S p := by
    intro p
    induction p with
    | zero => intro _; exact Int.le_refl _
    | succ p ih =>
      intro hp
      have ih := ih (by omega)
      rw [cSm, cSm]
      have a := cs_dz (y := y) O x0 (k := p) (by omega) (h.c p (by omega))
      have b := cc_dz y0 (atL Z L p) (L p)
      have e1 : cLg Z L S p = cs Z p (L p).toNat (S p).toNat + Z.cc * dfW (atL Z L p) (L p) := rfl
      have e2 : cLg (dz Z x y) L S p = cs (dz Z x y) p (L p).toNat (S p).toNat + y * dfW (atL Z L p) (L p) := rfl
      omega
  have k := key Z.nd (Nat.le_refl _)
  have b := cc_dz y0 (atL Z L Z.nd) Z.la
  show _ ≤ cSm (dz Z x y) L S Z.nd + y * dfW (atL Z L Z.nd) Z.la
  omega
/-- The potentials of a problem prove its cost in a dearer one. -/
theorem pot_dz {x y : Int} (hz : zck Z = 0) (hd : zck (dz Z x y) = 0) (x0 : Z.ix ≤ x) (y0 : Z.cc ≤ y) (h : Ce.Lab (gN Z) (gL Z).length (gE Z) 0 C D) :
    ∀ i, i < (gL (dz Z x y)).length → Ce.pot (gN Z) C (gE (dz Z x y) i 1).toNat - Ce.pot (gN Z) C (gE (dz Z x y) i 0).toNat ≤ gE (dz Z x y) i 2 := fun i hi => by
  have O := zck_ok hz
  have pv := h.pv (g_ok O)
  have key : ∃ e, e ∈ gL Z ∧ e.f = (gA (dz Z x y) i).f ∧ e.t = (gA (dz Z x y) i).t ∧ e.c ≤ (gA (dz Z x y) i).c := by
    rcases mem_gL.1 (gA_mem hi) with ⟨k, i', j, s, hE, he⟩ | ⟨i', hF, he⟩
    · refine ⟨ed Z k i' j s, mem_gL.2 (.inl ⟨k, i', j, s, hE, rfl⟩), by rw [he]; rfl, by rw [he]; rfl, ?_⟩
      rw [he]
      have a := cs_dz (y := y) O x0 (k := k) hE.1 hE.2.2.2.2.2.2
      have b := cc_dz y0 i' j
      show cs Z k j s + Z.cc * dfW i' j ≤ cs (dz Z x y) k j s + y * dfW i' j
      omega
    · refine ⟨fed Z i', mem_gL.2 (.inr ⟨i', hF, rfl⟩), by rw [he]; rfl, by rw [he]; rfl, ?_⟩
      rw [he]
      exact cc_dz y0 i' Z.la
  obtain ⟨e, he, h1, h2, h3⟩ := key
  obtain ⟨q, hq, rfl⟩ := gA_at he
  have := pv q hq
  rw [gE_0, gE_1, gE_2] at this ⊢
  rw [h1, h2] at this
  omega
theorem bound_dz {x y : Int} (hz : zck Z = 0) (hd : zck (dz Z x y) = 0) (x0 : Z.ix ≤ x) (y0 : Z.cc ≤ y) (h : Ce.Lab (gN Z) (gL Z).length (gE Z) 0 C D) (hc : 0 ≤ C (gN Z - 1)) :
    Ce.ber (gN Z) (gL (dz Z x y)).length (gE (dz Z x y)) 0 ((gN Z : Int) - 1) (gN Z) (Ce.pot (gN Z) C) = 0 ∧ Ce.bnd (gN Z) (gL (dz Z x y)).length (gE (dz Z x y)) 0 ((gN Z : Int) - 1) (gN Z) (Ce.pot (gN Z) C) = C (gN Z - 1) := by
  have O' : Ce.Ok (gN Z : Int) (gL (dz Z x y)).length (gE (dz Z x y)) := g_ok (zck_ok hd)
  have n2 := gN_2 Z
  have hen : Ce.En (gN Z : Int) (gL (dz Z x y)).length (gE (dz Z x y)) 0 ((gN Z : Int) - 1) := ⟨O', by omega, by omega, by omega, by omega⟩
  have e3 : Ce.ber (gN Z) (gL (dz Z x y)).length (gE (dz Z x y)) 0 ((gN Z : Int) - 1) (gN Z) (Ce.pot (gN Z) C) = 0 := Ce.ber_ok.2 ⟨hen, ⟨O', rfl, fun k hk => by have := h.potb (g_ok (zck_ok hz)) hk; omega⟩, pot_dz hz hd x0 y0 h⟩
  have p1 : Ce.pot (gN Z) C (gN Z - 1) = C (gN Z - 1) := by unfold Ce.pot; rw [if_neg (by omega)]
  have p2 : Ce.pot (gN Z) C 0 = 0 := by unfold Ce.pot; rw [h.c0, if_neg (by omega)]
  refine ⟨e3, ?_⟩
  rw [Ce.bnd_yes e3, ← gN_1, Int.toNat_natCast, show (0 : Int).toNat = 0 from rfl]; omega
theorem sol_dz {x y : Int} {C' D' : Nat → Int} (hz : zck Z = 0) (hd : zck (dz Z x y) = 0) (x0 : Z.ix ≤ x) (y0 : Z.cc ≤ y) (h : Ce.Lab (gN Z) (gL Z).length (gE Z) 0 C D) (hc : 0 ≤ C (gN Z - 1))
    (h' : Ce.Lab (gN Z) (gL (dz Z x y)).length (gE (dz Z x y)) 0 C' D') : 0 ≤ C' (gN Z - 1) ∧ C (gN Z - 1) ≤ C' (gN Z - 1) := by
  obtain ⟨_, _, q1, _⟩ := sol_ok hz h hc
  have g := sol_least (Z := dz Z x y) hd h' (qE_ok.2 (qok_dz hd (qE_ok.1 q1)))
  obtain ⟨_, _, q3, q4⟩ := sol_ok (Z := dz Z x y) hd h' g.1
  have q5 := qE_ok.2 (qok_zd hz (qE_ok.1 q3))
  have l1 := sol_least hz h q5
  have l2 := qV_dz hz hd x0 y0 q5
  refine ⟨g.1, Int.le_trans l1.2 (Int.le_trans l2 (Int.le_of_eq q4))⟩
/-- A choice beyond the bound costs not less, too. -/
theorem cost_dz {x y : Int} (hz : zck Z = 0) (hd : zck (dz Z x y) = 0) (x0 : Z.ix ≤ x) (y0 : Z.cc ≤ y) (h : Ce.Lab (gN Z) (gL Z).length (gE Z) 0 C D) {l : Nat} {L S : Nat → Int} (q : qE (dz Z x y) l L S = 0) : C (gN Z - 1) ≤ qV (dz Z x y) l L S := by
  have q5 := qE_ok.2 (qok_zd hz (qE_ok.1 q))
  exact Int.le_trans (sol_least hz h q5).2 (qV_dz hz hd x0 y0 q5)
end
end Oz
end Go.Proofs.Ytoeklllahpegfaa
/-
  Plain: the cost of a leg.
-/
namespace Go.Proofs.Ytoeklllahpegfaa
set_option linter.unusedVariables false
set_option linter.unusedSimpArgs false
open Go.RowKit

namespace Oz
/-- The error and the cost of a leg. -/
def lgE (Z : ZD) (i a b : Int) : Int := if zck Z ≠ 0 then zck Z else if (ixB i Z.nd && knB Z a b) = true then coE Z i.toNat a.toNat b.toNat else 1
def lgV (Z : ZD) (i a b : Int) : Int := if lgE Z i a b = 0 then coV Z i.toNat a.toNat b.toNat else 0
theorem lgE_z {Z : ZD} {i a b : Int} (h : zck Z ≠ 0) : lgE Z i a b = zck Z := if_pos h
theorem lgE_1 {Z : ZD} {i a b : Int} (h : zck Z = 0) (h2 : (ixB i Z.nd && knB Z a b) = false) : lgE Z i a b = 1 := by unfold lgE; rw [if_neg (by omega), h2]; rfl
theorem lgE_0 {Z : ZD} {i a b : Int} (h : zck Z = 0) (h2 : ixB i Z.nd = true) (h3 : knB Z a b = true) : lgE Z i a b = coE Z i.toNat a.toNat b.toNat := by unfold lgE; rw [if_neg (by omega), h2, h3]; rfl
theorem lgV_no {Z : ZD} {i a b : Int} (h : lgE Z i a b ≠ 0) : lgV Z i a b = 0 := if_neg h
theorem lgV_0 {Z : ZD} {i a b : Int} (h : zck Z = 0) (h2 : ixB i Z.nd = true) (h3 : knB Z a b = true) : lgV Z i a b = coV Z i.toNat a.toNat b.toNat := by
  unfold lgV
  rw [lgE_0 h h2 h3]
  cases q : okc Z i.toNat a.toNat b.toNat
  · rw [(coE_f q).1, (coE_f q).2]; rfl
  · rw [(coE_t q).1]; rfl
end Oz
namespace Oz
theorem cc_le {Z : ZD} (O : ZOk Z) {d : Int} (h0 : 0 ≤ d) (h1 : d ≤ 1) : 0 ≤ Z.cc * d ∧ Z.cc * d ≤ 1073741824 := by
  have c := O.cc
  have e : Z.cc * d ≤ 1073741824 * 1 := Int.mul_le_mul c.2 h1 h0 (by omega)
  exact ⟨Int.mul_nonneg c.1 h0, by omega⟩
end Oz
end Go.Proofs.Ytoeklllahpegfaa
/-
  Plain: the choices of a route.
-/
namespace Go.Proofs.Ytoeklllahpegfaa
set_option linter.unusedVariables false
set_option linter.unusedSimpArgs false
open Go.RowKit

namespace Oz
theorem gN_bd {Z : ZD} (O : ZOk Z) : 2 ≤ gN Z ∧ gN Z ≤ 194 := by have := g_nl O; unfold gN; omega
/-- The choices of a route, as a table. -/
def rC (Z : ZD) (R : Nat → Int) : Nat → Nat → Int := fun p f => cN (gL Z) (R p).toNat f
theorem rC_0 (Z : ZD) (R : Nat → Int) (p : Nat) : rC Z R p 0 = rL Z R p := rfl
theorem rC_1 (Z : ZD) (R : Nat → Int) (p : Nat) : rC Z R p 1 = rS Z R p := rfl
/-- The choice of an edge of a route: the last one has none. -/
theorem rC_in {Z : ZD} {R : Nat → Int} {l : Nat} (O : ZOk Z) (h : Ce.Rt (gL Z).length (gE Z) 0 ((gN Z : Int) - 1) l R) {p : Nat} (hp : p < Z.nd) : 0 ≤ rC Z R p 0 := by
  obtain ⟨i, j, s, _, _, _, h4, _⟩ := rd_in O h hp
  rw [rC_0, h4]; omega
theorem rC_no {Z : ZD} {R : Nat → Int} {l : Nat} (O : ZOk Z) (h : Ce.Rt (gL Z).length (gE Z) 0 ((gN Z : Int) - 1) l R) : rC Z R Z.nd 0 = -1 ∧ rC Z R Z.nd 1 = -1 := by
  obtain ⟨_, i, _, _, h4⟩ := route_len O h
  rw [rC_0, rC_1]
  unfold rL rS
  rw [h4]
  exact ⟨rfl, rfl⟩
end Oz
end Go.Proofs.Ytoeklllahpegfaa
/-
  Plain: the chapter's example, and what the program says of it.
-/
namespace Go.Proofs.Ytoeklllahpegfaa
set_option linter.unusedVariables false
set_option linter.unusedSimpArgs false
open Go.RowKit

namespace Oz
def two (a b : Int) : Nat → Int := fun i => match i with
  | 0 => a
  | _ => b
def exP : PD := { nm := ⟨#[74, 69, 84]⟩, em := 1000, fu := 1000000, rf := 400, xt := 0, ce := 3000000, na := 2, nM := 2, nD := 2, nI := 2, nX := 2, nN := 2, nC := 2, nF := 2, nR := 2, al := two 0 3000000, ma := two 1000 1000000, dD := two 1000 1000, dI := two 500 500, dX := two 340 300, dN := two 100 100, lC := fun _ => 2, lF := fun _ => 2, lR := fun _ => 2, tC := fun _ => two 1000 1000, tF := fun _ => two 1000 1000, tR := fun _ => two 1000 1000 }
def exZ : ZD := { nd := 1, nl := 2, ns := 2, nt := 1, nm := 1, ds := fun _ => 60000, lv := two 0 100, sp := two 100 200, ms := fun _ => 5000, lt := fun _ => 2, tl := fun _ => two 0 0, P := exP, ix := 0, cc := 0, fi := 0, la := 0 }
theorem ex_ok : zck exZ = 0 := by decide +kernel
theorem ex_n : gN exZ = 4 := rfl
theorem ex_m : (gL exZ).length = 6 := by decide +kernel
def exC : Nat → Int := fun v => if v = 0 then 0 else 300000
def exD : Nat → Int := fun v => if v = 0 then 0 else if v = 3 then 2 else 1
theorem ex_lab : Ce.Lab (gN exZ) (gL exZ).length (gE exZ) 0 exC exD := by
  rw [ex_n, ex_m]
  refine ⟨rfl, rfl, ?_, ?_, ?_⟩
  · decide +kernel
  · unfold Ce.le2
    decide +kernel
  · decide +kernel
theorem ex_rt : rC exZ (Ce.rt (gL exZ).length (gE exZ) exC exD ((gN exZ - 1 : Nat) : Int)) 0 0 = 0 ∧ rC exZ (Ce.rt (gL exZ).length (gE exZ) exC exD ((gN exZ - 1 : Nat) : Int)) 0 1 = 1 := by decide +kernel
/-- The example's cheapest choice. -/
theorem ex_sol {C D : Nat → Int} (h : Ce.Lab (gN exZ) (gL exZ).length (gE exZ) 0 C D) : C (gN exZ - 1) = 300000 ∧ rC exZ (Ce.rt (gL exZ).length (gE exZ) C D ((gN exZ - 1 : Nat) : Int)) 0 0 = 0 ∧ rC exZ (Ce.rt (gL exZ).length (gE exZ) C D ((gN exZ - 1 : Nat) : Int)) 0 1 = 1 := by
  have O := g_ok (zck_ok ex_ok)
  have e1 := ex_lab.C_eq O h 3 (by rw [ex_n]; omega)
  have e3 : Ce.rt (gL exZ).length (gE exZ) exC exD ((gN exZ - 1 : Nat) : Int) 0 = Ce.rt (gL exZ).length (gE exZ) C D ((gN exZ - 1 : Nat) : Int) 0 :=
    Ce.rt_congr O ex_lab h (b := ((gN exZ - 1 : Nat) : Int)) (by omega) (by rw [ex_n]; decide) (by decide +kernel) (by decide +kernel)
  obtain ⟨r1, r2⟩ := ex_rt
  unfold rC at r1 r2 ⊢
  rw [e3] at r1 r2
  exact ⟨e1.symm, r1, r2⟩
theorem ex_cost : qE exZ 1 (fun _ => 0) (fun _ => 0) = 0 ∧ qV exZ 1 (fun _ => 0) (fun _ => 0) = 600000 := by decide +kernel
theorem ex_leg : lgE exZ 0 1 1 = 0 ∧ lgV exZ 0 1 1 = 300000 := by decide +kernel
end Oz
end Go.Proofs.Ytoeklllahpegfaa
/-
  Words: many blocks made in a row; many cells stored in a row.
-/
namespace Go.Proofs.Ytoeklllahpegfaa
set_option linter.unusedVariables false
set_option linter.unusedSimpArgs false
open Go.RowKit
def allocs (w : World) : List (Array Value × TypeId) → World
  | [] => w
  | x :: L => allocs (w.alloc (.cells x.1 x.2)) L
theorem Blk.allocs {g : Nat} {t : TypeId} {cs : Array Value} : ∀ (L : List (Array Value × TypeId)) {w : World}, Blk w g t cs → Blk (Go.Proofs.Ytoeklllahpegfaa.allocs w L) g t cs
  | [], _, h => h
  | _ :: L, _, h => Blk.allocs L (h.alloc _)
theorem blk_allocs {t : TypeId} {cs : Array Value} : ∀ (L : List (Array Value × TypeId)) (w : World) (i : Nat), L[i]? = some (cs, t) → Blk (allocs w L) (w.heap.size + i) t cs
  | [], _, _, h => by simp at h
  | x :: L, w, 0, h => by
    simp at h
    subst h
    exact Blk.allocs L (Blk.new w t cs)
  | x :: L, w, i + 1, h => by
    have := blk_allocs L (w.alloc (.cells x.1 x.2)) i (by simpa using h)
    rw [show (w.alloc (.cells x.1 x.2)).heap.size + i = w.heap.size + (i + 1) by simp; omega] at this
    exact this
theorem below_allocs : ∀ (L : List (Array Value × TypeId)) {w w1 : World}, Below w.heap.size w w1 → Below w.heap.size w (allocs w1 L)
  | [], _, _, h => h
  | _ :: L, _, _, h => below_allocs L (bal h _)
theorem Blk.setCells {b g : Nat} {t : TypeId} {cs : Array Value} (hb : b ≠ g) : ∀ (L : List Value) (i : Nat) {w : World}, Blk w b t cs → Blk (w.setCells g i L) b t cs
  | [], _, _, h => h
  | _ :: L, i, _, h => Blk.setCells hb L (i + 1) (h.far (p := ⟨g, i, none⟩) hb _)
theorem below_setCells {g : Nat} : ∀ (L : List Value) (i : Nat) {w w1 : World}, w.heap.size ≤ g → Below w.heap.size w w1 → Below w.heap.size w (w1.setCells g i L)
  | [], _, _, _, _, h => h
  | _ :: L, i, _, _, hg, h => below_setCells L (i + 1) hg (bst h (p := ⟨g, i, none⟩) hg _)
theorem blk_setCells {g : Nat} {t : TypeId} : ∀ (L pre : List Value) (cs : List Value) (w : World), Blk w g t (pre ++ cs).toArray → cs.length = L.length → Blk (w.setCells g pre.length L) g t (pre ++ L).toArray
  | [], pre, cs, w, h, hl => by
    have : cs = [] := List.length_eq_zero_iff.1 (by simpa using hl)
    subst this; exact h
  | v :: L, pre, [], w, h, hl => by simp at hl
  | v :: L, pre, c :: cs, w, h, hl => by
    have h2 := h.set_ pre.length v
    have e : (pre ++ c :: cs).toArray.setIfInBounds pre.length v = ((pre ++ [v]) ++ cs).toArray := by simp
    rw [e] at h2
    have := blk_setCells L (pre ++ [v]) cs _ h2 (by simpa using hl)
    rw [World.setCells]
    simpa using this
theorem Blk.there {w : World} {g : Nat} {t : TypeId} {cs : Array Value} (h : Blk w g t cs) {n : Nat} (hn : n ≤ cs.size) : w.there g 0 n := fun j hj => by
  rw [h.cell, h.frozen]
  exact ⟨by rw [Nat.zero_add, Array.getElem?_eq_getElem (by omega)]; rfl, rfl⟩
/-- A store of a whole struct; the world behind it by its name. -/
theorem wpList_store_to {P : Program} {ops : Array Oper} {rest : List Oper} {op : Oper} {a : Act} {w wF : World} {Q : Exit → Act → World → Prop} (hgd : op.guard = none) (ty : TypeId) (x y : Operand) (ho : op.op = .store ty x y)
    (b o : Nat) (l : List Value) (hx : a.eval x = .pointer (some ⟨b, o, none⟩)) (hy : a.eval y = .agg l.toArray)
    (ht : w.there b o l.length) (hi : (P.info? ty).map (·.size) = some l.length) (h1 : l.all (·.oneCell') = true) (hF : w.setCells b o l = wF)
    (h : wpList P ops Q rest (a.put op.dst undef) wF) : wpList P ops Q (op :: rest) a w := by
  subst hF
  exact wpList_store_mid hgd ty x y ho b o l.toArray hx hy (by simpa using ht) (by simpa using hi) (by simpa using h1) (by simpa using h)
theorem infoP : (Try.prog.info? 27).map (·.size) = some 24 := by kernel_rfl
end Go.Proofs.Ytoeklllahpegfaa
