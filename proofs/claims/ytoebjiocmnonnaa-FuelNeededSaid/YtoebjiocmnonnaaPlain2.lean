/-
  Plain laws of fuel accounts; no program in sight.
-/
import Derived.Test.YtoebjiocmnonnaaPlain
namespace Go.Proofs.Ytoebjiocmnonnaa
set_option linter.unusedVariables false
namespace Fu
theorem burn_cases (E L R B f t : Int) : burnE E L R B f t = 0 ∨ burnE E L R B f t = 2 ∨ burnE E L R B f t = 15 := by
  unfold burnE; repeat' split
  all_goals omega
theorem end_cases (E L R B f : Int) : endE E L R B f = 0 ∨ endE E L R B f = 2 ∨ endE E L R B f = 15 := by
  unfold endE; repeat' split
  all_goals omega
theorem burn_zero {E L R B f t : Int} (h : burnE E L R B f t = 0) : ok E L R B ∧ inB f t ∧ f * t ≤ L - B := by
  unfold burnE at h
  split at h
  · omega
  · split at h
    · omega
    · split at h
      · omega
      · rename_i h1 h2 h3
        exact ⟨Decidable.not_not.1 h1, Decidable.not_not.1 h2, by omega⟩
theorem end_zero {E L R B f : Int} (h : endE E L R B f = 0) : ok E L R B ∧ 1 ≤ f ∧ f ≤ 50000 ∧ R ≤ L - B := by
  unfold endE at h
  split at h
  · omega
  · split at h
    · omega
    · split at h
      · omega
      · rename_i h1 h2 h3
        exact ⟨Decidable.not_not.1 h1, by omega, by omega, by omega⟩
theorem ok_after {E L R B f t : Int} (h : burnE E L R B f t = 0) : ok E L R (B + f * t) := by
  obtain ⟨⟨h1, h2, h3, h4, h5, h6, h7, h8⟩, hi, hl⟩ := burn_zero h
  have m := mul_bd hi
  exact ⟨h1, h2, h3, h4, h5, h6, by omega, by omega⟩
theorem mul_split (f t0 t1 : Int) : f * (t0 + t1) = f * t0 + f * t1 := Int.mul_add f t0 t1
theorem split_law {E L R B f t0 t1 : Int} (h : burnE E L R B f t0 = 0) (h1 : 0 ≤ t1) (h2 : t1 ≤ 1099511627776 - t0) : burnE E L R (B + f * t0) f t1 = burnE E L R B f (t0 + t1) := by
  obtain ⟨hok, hi, hl⟩ := burn_zero h
  have hok2 := ok_after h
  have e := mul_split f t0 t1
  obtain ⟨f0, f1, a0, a1⟩ := hi
  have i1 : inB f t1 := ⟨f0, f1, h1, by omega⟩
  have i2 : inB f (t0 + t1) := ⟨f0, f1, by omega, by omega⟩
  by_cases hc : L - B < f * (t0 + t1)
  · rw [burn_3 hok i2 hc, burn_3 hok2 i1 (by omega)]
  · rw [burn_4 hok i2 hc, burn_4 hok2 i1 (by omega)]
theorem split_neg {E L R B f t : Int} (h : ok E L R B) (h1 : t < 0) : burnE E L R B f t = 2 := burn_2 h (fun q => absurd q.2.2.1 (by omega))
theorem lasts {E L R B f n : Int} (h : endE E L R B f = 0) (hn : (L - B - R) / f = n) :
    0 ≤ n ∧ n ≤ 3000000000 ∧ burnE E L R B f n = 0 ∧ low E L R (B + f * n) = false ∧ (burnE E L R B f (n + 1) = 15 ∨ (burnE E L R B f (n + 1) = 0 ∧ low E L R (B + f * (n + 1)) = true)) := by
  obtain ⟨hok, f1, f2, hl⟩ := end_zero h
  have hok' := hok
  obtain ⟨h1, h2, h3, h4, h5, h6, h7, h8⟩ := hok
  have n0 : 0 ≤ n := by rw [← hn]; exact Int.ediv_nonneg (by omega) (by omega)
  have n1 : n ≤ L - B - R := by rw [← hn]; exact Int.ediv_le_self _ (by omega)
  have e1 : f * n ≤ L - B - R := by rw [← hn]; exact Int.mul_ediv_self_le (by omega)
  have e2 : L - B - R < f * n + f := by rw [← hn]; have := Int.lt_mul_ediv_self_add (x := L - B - R) (k := f) (by omega); omega
  have e3 := mul_split f n 1
  rw [Int.mul_one] at e3
  have i0 : inB f n := ⟨by omega, by omega, n0, by omega⟩
  have i1 : inB f (n + 1) := ⟨by omega, by omega, by omega, by omega⟩
  refine ⟨n0, by omega, burn_4 hok' i0 (by omega), decide_eq_false (fun q => absurd q.2 (by omega)), ?_⟩
  by_cases hc : L - B < f * (n + 1)
  · exact Or.inl (burn_3 hok' i1 hc)
  · have hb := burn_4 hok' i1 hc
    exact Or.inr ⟨hb, decide_eq_true ⟨ok_after hb, by omega⟩⟩
end Fu
end Go.Proofs.Ytoebjiocmnonnaa
