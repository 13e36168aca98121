/-
  Plain, second part: what a refused schedule tells; windows and distances of nodes; rows that lie apart; rows of seven words.
-/
import Derived.Test.YtpipjpgcnbpllaaTPlain
import Derived.Test.YtpipjpgcnbpllaaRd2
namespace Go.Proofs.Ytpipjpgcnbpllaa
set_option linter.unusedVariables false
set_option linter.unusedSimpArgs false
open Go.RowKit
namespace Sp
/-- The windows of speeds, and the distances behind the first node. -/
def nS (M : Tab) : Tab := fun i f => if f = 0 then M i 5 else M i 6
def nD (M : Tab) : Nat → Int := fun j => M (j + 1) 2
section
variable {n m : Nat} {N S : Tab}
theorem cB_same {N' : Tab} (h : ∀ i f, i < n → f < 2 → N i f = N' i f) : Co.cB n N S = Co.cB n N' S := by
  have key : Co.NoC n N S ↔ Co.NoC n N' S := by
    constructor
    · intro q i k hi hk
      have := q i k hi hk
      rw [h i 0 hi (by omega), h k 1 hk (by omega)] at this
      exact this
    · intro q i k hi hk
      have := q i k hi hk
      rw [← h i 0 hi (by omega), ← h k 1 hk (by omega)] at this
      exact this
  cases e1 : Co.cB n N S <;> cases e2 : Co.cB n N' S
  · rfl
  · have := Co.cB_false.2 (key.1 (Co.cB_false.1 e1)); rw [e2] at this; cases this
  · have := Co.cB_false.2 (key.2 (Co.cB_false.1 e2)); rw [e1] at this; cases this
  · rfl
theorem conf (h : plE n N m S n (fun _ => 1000) = 11) : Co.ck n N m S = 0 ∧ okP N n = true ∧ Co.cB n N S = true := by
  unfold plE at h
  split at h
  · unfold scE at h
    have := Co.ck_cases n N m S
    split at h
    · omega
    · split at h <;> omega
  · rename_i hs
    obtain ⟨hck, hok⟩ := sc_ok (by omega : scE n N m S = 0)
    refine ⟨hck, hok, ?_⟩
    unfold Co.blE at h
    rw [if_neg (by omega), if_neg (by omega)] at h
    split at h
    · unfold Co.tgE at h
      have := Co.ck_cases n (Co.lwN N fun _ => 1000) m S
      split at h
      · omega
      · split at h
        · rename_i hb
          rw [← hb]
          exact cB_same fun i f hi hf => (lw_same hok i f hi).symm
        · omega
    · omega
/-- The two that are named. -/
theorem named (h : plE n N m S n (fun _ => 1000) = 11) : ∃ i j : Nat, i ≤ j ∧ j < n ∧ Co.fB n N m S = true ∧ Co.fI n N m S = i ∧ Co.fJ n N m S = j ∧ Co.ck n N m S = 0 ∧ Co.xsE n N m S i j = 0 ∧ Co.xsV n N m S i j = Co.ex N S i j ∧ 0 < Co.ex N S i j ∧
    (i = j → N i 0 - N i 1 = Co.ex N S i j) ∧ (i < j → N j 0 - N i 1 - Co.sm S 0 i (j - i) = Co.ex N S i j ∨ N i 0 - N j 1 - Co.sm S 1 i (j - i) = Co.ex N S i j) := by
  obtain ⟨hck, hok, hcb⟩ := conf h
  obtain ⟨i, j, hij, hj, hx, hI, hJ⟩ := Co.cB_true hcb
  obtain ⟨f1, f2, f3⟩ := Co.f_yes hck hcb
  have e : Co.xsE n N m S i j = 0 := by
    unfold Co.xsE
    rw [if_neg (by omega), if_neg (by omega), Int.toNat_natCast, Int.toNat_natCast, if_neg (by omega)]
  have v : Co.xsV n N m S i j = Co.ex N S i j := by
    unfold Co.xsV
    rw [if_pos e, Int.toNat_natCast, Int.toNat_natCast]
  refine ⟨i, j, hij, hj, f1, by rw [f2, hI], by rw [f3, hJ], hck, e, v, hx, fun q => ?_, fun q => ?_⟩
  · subst q; rw [Co.ex_self]
  · obtain ⟨x1, x2⟩ := Co.ex_pos q hx
    rw [Co.ex_lt N S q x1 x2, (Co.sm_dd0 q).1, (Co.sm_dd0 q).2]
    omega
/-- The sums of steps are small. -/
theorem sm_small {l : Nat} {D : Nat → Int} {a b : Int} (h : stE l D a b = 0) {i c : Nat} (hc : i + c ≤ l) : (0 ≤ Co.sm (stT D a b) 0 i c ∧ Co.sm (stT D a b) 0 i c ≤ 87960930222080) ∧ (0 ≤ Co.sm (stT D a b) 1 i c ∧ Co.sm (stT D a b) 1 i c ≤ 87960930222080) ∧
    (∀ k, k < l → (0 ≤ stT D a b k 0 ∧ stT D a b k 0 ≤ 1333334) ∧ (0 ≤ stT D a b k 1 ∧ stT D a b k 1 ≤ 1333334)) := by
  unfold stE at h
  split at h
  · omega
  · rename_i hl
    split at h
    · rename_i hs
      split at h
      · rename_i hd
        rw [Bool.and_eq_true, spd_iff, spd_iff] at hs
        have hd := (okD_iff D l).1 hd
        have bd : ∀ k, k < l → (0 ≤ stT D a b k 0 ∧ stT D a b k 0 ≤ 1333334) ∧ (0 ≤ stT D a b k 1 ∧ stT D a b k 1 ≤ 1333334) := by
          intro k hk
          obtain ⟨d0, d1⟩ := hd k hk
          have m1 : 0 ≤ a * D k := Int.mul_nonneg hs.1.1 d0
          have m2 : 0 ≤ b * D k := Int.mul_nonneg hs.2.1 d0
          have m3 : a * D k ≤ 1000 * 8000000 := Int.mul_le_mul hs.1.2 d1 d0 (by omega)
          have m4 : b * D k ≤ 1000 * 8000000 := Int.mul_le_mul hs.2.2 d1 d0 (by omega)
          unfold stT
          rw [if_pos rfl, if_neg (by omega)]
          omega
        have g0 := Co.sm_bd (S := stT D a b) (f := 0) (m := l) (fun k hk => by have := bd k hk; omega) i c hc
        have g1 := Co.sm_bd (S := stT D a b) (f := 1) (m := l) (fun k hk => by have := bd k hk; omega) i c hc
        have hcc : (c : Int) * 1099511627776 ≤ 80 * 1099511627776 := Int.mul_le_mul_of_nonneg_right (by omega) (by omega)
        exact ⟨by omega, by omega, bd⟩
      · omega
    · omega
theorem lm_ok {n l : Nat} {h : Int} (q : lmE n l h = 0) : l = n := by
  unfold lmE at q
  split at q
  · omega
  · split at q
    · omega
    · omega
theorem st_ok {l : Nat} {D : Nat → Int} {a b : Int} (h : stE l D a b = 0) : (0 ≤ a ∧ a ≤ 1000) ∧ (0 ≤ b ∧ b ≤ 1000) ∧ ∀ k, k < l → 0 ≤ D k ∧ D k ≤ 8000000 := by
  unfold stE at h
  split at h
  · omega
  · split at h
    · rename_i hs
      split at h
      · rename_i hd
        rw [Bool.and_eq_true, spd_iff, spd_iff] at hs
        exact ⟨hs.1, hs.2, (okD_iff D l).1 hd⟩
      · omega
    · omega
end
end Sp
theorem Rd.s1' {w : World} {b off n c : Nat} {N : Nat → Int} (h : Rd w 1 (some ⟨b, off, none⟩) n c (nv N)) {k : Nat} (hk : k < n) : b < w.heap.size ∧ w.cell? ⟨b, off + k, none⟩ = some (.int .i64 (N k)) := by
  obtain ⟨b', off', e, hl, hc⟩ := h.at1 hk
  injection e with e
  injection e with e1 e2
  subst e1 e2
  exact ⟨hl, hc⟩
theorem Rd.s2' {w : World} {b off n c : Nat} {N : Nat → Nat → Int} (h : Rd w 2 (some ⟨b, off, none⟩) n c (iv N)) {k : Nat} (hk : k < n) : b < w.heap.size ∧ w.cell? ⟨b, off + k * 2, none⟩ = some (.int .i64 (N k 0)) ∧ w.cell? ⟨b, off + k * 2 + 1, none⟩ = some (.int .i64 (N k 1)) := by
  obtain ⟨b', off', e, hl, hc⟩ := h.at2 hk
  injection e with e
  injection e with e1 e2
  subst e1 e2
  exact ⟨hl, hc⟩
theorem Own.under {w : World} {B0 : Nat} {e : TypeId} {q n c : Nat} {A : Option Addr} {V : Nat → Nat → Value} (h : Own w B0 e q A n c V) : ∀ g, ob A = some g → g < w.heap.size := by
  intro g hg
  obtain ⟨_, _, ⟨rfl, _⟩ | ⟨g', rfl, _, hl⟩⟩ := h.form
  · cases hg
  · have : g' = g := by simpa [ob] using hg
    omega
/-- Two rows of the call's own lie apart. -/
def Dj (A A' : Option Addr) : Prop := ob A = none ∨ ob A' = none ∨ ob A ≠ ob A'
theorem Dj.symm {A A' : Option Addr} (h : Dj A A') : Dj A' A := by
  rcases h with h | h | h
  · exact .inr (.inl h)
  · exact .inl h
  · exact .inr (.inr (Ne.symm h))
theorem Dj.kept {A A' : Option Addr} (h : Dj A A') : ob A = none ∨ ob A ≠ ob A' := by
  rcases h with h | h | h
  · exact .inl h
  · cases e : ob A
    · exact .inl rfl
    · right; rw [h]; simp
  · exact .inr h
theorem Dj.grow {A A2 A' : Option Addr} {H : Nat} (h : Dj A A2) (hob : ob A' = ob A ∨ ob A' = some H) (h2 : ∀ g, ob A2 = some g → g < H) : Dj A' A2 := by
  rcases hob with e | e
  · unfold Dj; rw [e]; exact h
  · cases e2 : ob A2
    · exact .inr (.inl e2)
    · right; right; rw [e, e2]
      have := h2 _ e2
      simp; omega
theorem Rd.less {w : World} {A : Option Addr} {q n c : Nat} {V : Nat → Nat → Value} (h : Rd w q A n c V) {k : Nat} (hk : k ≤ n) : Rd w q A k c V :=
  ⟨by have := h.le; omega, h.mx, fun hn => by
    obtain ⟨b, off, e, hl, hc⟩ := h.at_ (by omega)
    exact ⟨b, off, e, hl, fun i j hi hj => hc i j (by omega) hj⟩⟩
theorem Rd.at7 {w : World} {A : Option Addr} {n c : Nat} {N : Nat → Nat → Int} (h : Rd w 7 A n c (iv N)) {k : Nat} (hk : k < n) : ∃ b off, A = some ⟨b, off, none⟩ ∧ b < w.heap.size ∧ w.cell? ⟨b, off + k * 7, none⟩ = some (.int .i64 (N k 0)) ∧ w.cell? ⟨b, off + k * 7 + 1, none⟩ = some (.int .i64 (N k 1)) ∧ w.cell? ⟨b, off + k * 7 + 2, none⟩ = some (.int .i64 (N k 2)) ∧
    w.cell? ⟨b, off + k * 7 + 3, none⟩ = some (.int .i64 (N k 3)) ∧ w.cell? ⟨b, off + k * 7 + 4, none⟩ = some (.int .i64 (N k 4)) ∧ w.cell? ⟨b, off + k * 7 + 5, none⟩ = some (.int .i64 (N k 5)) ∧ w.cell? ⟨b, off + k * 7 + 6, none⟩ = some (.int .i64 (N k 6)) := by
  obtain ⟨b, off, e, hl, hc⟩ := h.at_ (by omega)
  exact ⟨b, off, e, hl, hc k 0 hk (by omega), hc k 1 hk (by omega), hc k 2 hk (by omega), hc k 3 hk (by omega), hc k 4 hk (by omega), hc k 5 hk (by omega), hc k 6 hk (by omega)⟩
theorem rd7 {w : World} {A : Option Addr} {n c : Nat} {N : Nat → Nat → Int} (hlc : n ≤ c) (hcm : c ≤ maxLen)
    (hrw : 0 < n → ∃ b off : Nat, A = some ⟨b, off, none⟩ ∧ b < w.heap.size ∧ ∀ i j k, i < n → [IntKind.i64, IntKind.i64, IntKind.i64, IntKind.i64, IntKind.i64, IntKind.i64, IntKind.i64][j]? = some k → w.cell? ⟨b, off + (i * ([IntKind.i64, IntKind.i64, IntKind.i64, IntKind.i64, IntKind.i64, IntKind.i64].length + 1) + j), none⟩ = some (.int k (N i j))) : Rd w 7 A n c (iv N) :=
  ⟨hlc, by rw [maxLen_eq] at hcm; exact hcm, fun hn => by
    obtain ⟨b, off, e, hl, hc⟩ := hrw hn
    refine ⟨b, off, e, hl, fun i j hi hj => ?_⟩
    have := hc i j .i64 hi (by match j, hj with | 0, _ => rfl | 1, _ => rfl | 2, _ => rfl | 3, _ => rfl | 4, _ => rfl | 5, _ => rfl | 6, _ => rfl)
    rw [← Nat.add_assoc] at this
    exact this⟩
def row1 (a : Int) : Nat → Int := fun _ => a
theorem rd_row1 (w : World) (t : TypeId) (a : Int) {H : Nat} (hH : w.heap.size = H) : Rd (w.alloc (.cells #[.int .i64 a] t)) 1 (some ⟨H, 0, none⟩) 1 1 (nv (row1 a)) := by
  subst hH
  exact Rd.of_blk (Blk.new w t _) (Nat.le_refl _) (by omega) fun i j hi hj => by
    match i, j, hi, hj with
    | 0, 0, _, _ => rfl
theorem own_sn1 {w : World} {B0 : Nat} {e : TypeId} {A : Option Addr} {j c : Nat} {F : Nat → Int} {a0 : Int} (h : Own w B0 e 1 A (j + 1) c (app j (nv F) (nv (row1 a0)))) (h2 : F j = a0) : Own w B0 e 1 A (j + 1) c (nv F) :=
  h.congr fun i f hi hf => by
    unfold app nv
    show (if i < j then Value.int .i64 (F i) else Value.int .i64 (row1 a0 (i - j))) = Value.int .i64 (F i)
    by_cases q : i < j
    · rw [if_pos q]
    · obtain rfl : i = j := by omega
      rw [if_neg q, h2]; rfl
end Go.Proofs.Ytpipjpgcnbpllaa
