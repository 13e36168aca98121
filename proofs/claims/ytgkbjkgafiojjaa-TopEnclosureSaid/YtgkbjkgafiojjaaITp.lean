/-
  Plain: members stay members (negated, absolute value, widened); what a step of a calculation gives.
-/
import Derived.Test.YtgkbjkgafiojjaaIPlain3
namespace Go.Proofs.Ytgkbjkgafiojjaa
set_option linter.unusedVariables false
set_option linter.unusedSimpArgs false
namespace Iv
theorem hs_iff {l h v : Int} : hs l h v = true ↔ Vd l h ∧ l ≤ v ∧ v ≤ h := by
  unfold hs vb
  rw [Bool.and_eq_true, decide_eq_true_iff, decide_eq_true_iff]
def az (v : Int) : Int := if v < 0 then -v else v
theorem te_rs (l h : Int) : 0 ≤ (rs l h).er ∧ (rs l h).er ≤ 2 := by
  unfold rs; split
  · exact ⟨Int.le_refl _, by show (0 : Int) ≤ 2; decide⟩
  · exact ⟨by decide, by decide⟩
theorem te_rsok {l h : Int} (e : (rs l h).er = 0) : Vd l h ∧ rs l h = ⟨l, h, 0⟩ := by
  by_cases v : Vd l h
  · exact ⟨v, rs_yes v⟩
  · rw [rs_no v] at e; exact absurd e (by decide)
theorem te_mk (l h : Int) : 0 ≤ (mk l h).er ∧ (mk l h).er ≤ 2 := by
  unfold mk; split
  · exact ⟨by decide, by decide⟩
  · exact te_rs _ _
theorem te_mkok {l h : Int} (e : (mk l h).er = 0) : Vd l h ∧ mk l h = ⟨l, h, 0⟩ := by
  unfold mk at e ⊢
  split at e
  · exact absurd e (by decide)
  · rename_i q; rw [if_neg q]; exact te_rsok e
theorem te_add (l h l' h' : Int) : 0 ≤ (add l h l' h').er ∧ (add l h l' h').er ≤ 2 := by
  unfold add; split
  · exact te_rs _ _
  · exact ⟨by decide, by decide⟩
theorem te_sub (l h l' h' : Int) : 0 ≤ (sub l h l' h').er ∧ (sub l h l' h').er ≤ 2 := by
  unfold sub; split
  · exact te_rs _ _
  · exact ⟨by decide, by decide⟩
theorem te_mul (l h l' h' : Int) : 0 ≤ (mul l h l' h').er ∧ (mul l h l' h').er ≤ 2 := by
  unfold mul; split
  · exact te_rs _ _
  · exact ⟨by decide, by decide⟩
theorem te_neg (l h : Int) : 0 ≤ (neg l h).er ∧ (neg l h).er ≤ 2 := by
  unfold neg; split
  · exact ⟨by show (0 : Int) ≤ _; simp [bad], by show _ ≤ (2 : Int); simp [bad]⟩
  · exact ⟨by show (0 : Int) ≤ _; simp [bad], by show _ ≤ (2 : Int); simp [bad]⟩
theorem te_abs (l h : Int) : 0 ≤ (abs l h).er ∧ (abs l h).er ≤ 2 := by
  unfold abs; split
  · split
    · exact ⟨by show (0 : Int) ≤ _; simp [bad], by show _ ≤ (2 : Int); simp [bad]⟩
    · split
      · exact ⟨by show (0 : Int) ≤ _; simp [bad], by show _ ≤ (2 : Int); simp [bad]⟩
      · exact ⟨by show (0 : Int) ≤ _; simp [bad], by show _ ≤ (2 : Int); simp [bad]⟩
  · exact ⟨by show (0 : Int) ≤ _; simp [bad], by show _ ≤ (2 : Int); simp [bad]⟩
theorem te_widen (l h k : Int) : 0 ≤ (widen l h k).er ∧ (widen l h k).er ≤ 2 := by
  unfold widen; split
  · exact te_rs _ _
  · exact ⟨by decide, by decide⟩
theorem neg_has {l h u : Int} (v : Vd l h) (h1 : l ≤ u ∧ u ≤ h) : Vd (neg l h).lo (neg l h).hi ∧ (neg l h).lo ≤ -u ∧ -u ≤ (neg l h).hi := by
  have e : neg l h = ⟨-h, -l, 0⟩ := if_pos v
  rw [e]
  unfold Vd at v
  exact ⟨by unfold Vd; simp; omega, by simp; omega, by simp; omega⟩
theorem abs_has {l h u : Int} (v : Vd l h) (h1 : l ≤ u ∧ u ≤ h) : Vd (abs l h).lo (abs l h).hi ∧ (abs l h).lo ≤ az u ∧ az u ≤ (abs l h).hi := by
  have e : abs l h = if 0 ≤ l then ⟨l, h, 0⟩ else if h ≤ 0 then ⟨-h, -l, 0⟩ else ⟨0, max (-l) h, 0⟩ := if_pos v
  rw [e]
  unfold Vd at v
  unfold az
  by_cases q : 0 ≤ l
  · rw [if_pos q, if_neg (by omega)]
    exact ⟨by unfold Vd; simp; omega, by simp; omega, by simp; omega⟩
  · rw [if_neg q]
    by_cases q2 : h ≤ 0
    · rw [if_pos q2]
      refine ⟨by unfold Vd; simp; omega, ?_, ?_⟩
      · simp; split <;> omega
      · simp; split <;> omega
    · rw [if_neg q2]
      refine ⟨by unfold Vd; simp; omega, ?_, ?_⟩
      · simp; split <;> omega
      · simp; split <;> omega
theorem widen_has {l h k u : Int} (h1 : l ≤ u ∧ u ≤ h) (e : (widen l h k).er = 0) : Vd (widen l h k).lo (widen l h k).hi ∧ (widen l h k).lo ≤ u ∧ u ≤ (widen l h k).hi := by
  unfold widen at e ⊢
  split at e
  · rename_i q
    rw [if_pos q]
    obtain ⟨v, eq⟩ := te_rsok e
    rw [eq]
    exact ⟨v, by simp; omega, by simp; omega⟩
  · exact absurd e (by decide)
theorem az_bd {u : Int} (h1 : -4611686018427387904 ≤ u) (h2 : u ≤ 4611686018427387904) : 0 ≤ az u ∧ az u ≤ 4611686018427387904 := by unfold az; split <;> omega
/-- A cell of the stack: an interval with a member. -/
def Mem (a b c : Int) : Prop := Vd a b ∧ a ≤ c ∧ c ≤ b
theorem Mem.bd {a b c : Int} (h : Mem a b c) : -4611686018427387904 ≤ c ∧ c ≤ 4611686018427387904 ∧ -4611686018427387904 ≤ a ∧ b ≤ 4611686018427387904 ∧ a ≤ b := by
  obtain ⟨⟨h1, h2, h3⟩, h4, h5⟩ := h
  omega
theorem Mem.hs {a b c : Int} (h : Mem a b c) : Iv.hs a b c = true := hs_iff.2 h
/-- The member that a step 0 takes. -/
theorem mem_pick {l h n : Int} (v : Vd l h) (hn : 0 ≤ n) : Mem l h (l + n % (h - l + 1)) := ⟨v, (mb_in (n := n) v).1, (mb_in (n := n) v).2⟩
end Iv
end Go.Proofs.Ytgkbjkgafiojjaa
