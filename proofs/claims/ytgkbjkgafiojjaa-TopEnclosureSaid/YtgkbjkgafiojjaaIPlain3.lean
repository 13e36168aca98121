/-
  Plain: inclusions of sums, products and quotients of intervals; no program in sight.
-/
import Derived.Test.YtgkbjkgafiojjaaIPlain2
namespace Go.Proofs.Ytgkbjkgafiojjaa
set_option linter.unusedVariables false
set_option linter.unusedSimpArgs false
namespace Iv
theorem rs_er {l h : Int} (e : (rs l h).er = 0) : Vd l h := by
  apply Classical.byContradiction
  intro v
  rw [rs_no v] at e
  exact absurd e (by decide)
theorem rs_er2 (l h : Int) : (rs l h).er = 0 ∨ (rs l h).er = 2 := by
  by_cases v : Vd l h
  · rw [rs_yes v]; exact .inl rfl
  · rw [rs_no v]; exact .inr rfl
theorem wi_yes {l h l' h' : Int} (v : Vd l h) (v2 : Vd l' h') (a : l' ≤ l) (b : h ≤ h') : wi l h l' h' = true := by
  unfold wi; rw [vb_yes v, vb_yes v2]; simp; omega
theorem hs_yes {l h u : Int} (v : Vd l h) (a : l ≤ u) (b : u ≤ h) : hs l h u = true := by
  unfold hs; rw [vb_yes v]; simp; omega
theorem mn_le_mx (a b c d a' b' c' d' : Int) (h : a ≤ a') : mn4 a b c d ≤ mx4 a' b' c' d' := by unfold mn4 mx4; omega
/-! What an error 0 says -/
theorem add_ok {l h l' h' : Int} (e : (add l h l' h').er = 0) : Vd l h ∧ Vd l' h' ∧ Vd (l + l') (h + h') ∧ add l h l' h' = ⟨l + l', h + h', 0⟩ := by
  unfold add at *
  split at e
  · rename_i v
    rw [if_pos v, rs_yes (rs_er e)]
    exact ⟨v.1, v.2, rs_er e, rfl⟩
  · exact absurd e (by decide)
theorem sub_ok {l h l' h' : Int} (e : (sub l h l' h').er = 0) : Vd l h ∧ Vd l' h' ∧ Vd (l - h') (h - l') ∧ sub l h l' h' = ⟨l - h', h - l', 0⟩ := by
  unfold sub at *
  split at e
  · rename_i v
    rw [if_pos v, rs_yes (rs_er e)]
    exact ⟨v.1, v.2, rs_er e, rfl⟩
  · exact absurd e (by decide)
theorem mul_ok {l h l' h' : Int} (e : (mul l h l' h').er = 0) : Vd l h ∧ Vd l' h' ∧ Vd (mn4 (l * l') (l * h') (h * l') (h * h')) (mx4 (l * l') (l * h') (h * l') (h * h')) ∧
    mul l h l' h' = ⟨mn4 (l * l') (l * h') (h * l') (h * h'), mx4 (l * l') (l * h') (h * l') (h * h'), 0⟩ := by
  unfold mul at *
  split at e
  · rename_i v
    rw [if_pos v, rs_yes (rs_er e)]
    exact ⟨v.1, v.2, rs_er e, rfl⟩
  · exact absurd e (by decide)
theorem quo_ok {l h l' h' : Int} (e : (quo l h l' h').er = 0) : Vd l h ∧ Vd l' h' ∧ (0 < l' ∨ h' < 0) ∧ Vd (mn4 (fl l l') (fl l h') (fl h l') (fl h h')) (mx4 (cl l l') (cl l h') (cl h l') (cl h h')) ∧
    quo l h l' h' = ⟨mn4 (fl l l') (fl l h') (fl h l') (fl h h'), mx4 (cl l l') (cl l h') (cl h l') (cl h h'), 0⟩ := by
  unfold quo at *
  split at e
  · rename_i v
    rw [if_pos v, rs_yes (rs_er e)]
    exact ⟨v.1, v.2.1, v.2.2, rs_er e, rfl⟩
  · exact absurd e (by decide)
theorem er_mul (l h l' h' : Int) : (mul l h l' h').er = 0 ∨ (mul l h l' h').er = 1 ∨ (mul l h l' h').er = 2 := by
  unfold mul; split
  · rcases rs_er2 (mn4 (l * l') (l * h') (h * l') (h * h')) (mx4 (l * l') (l * h') (h * l') (h * h')) with q | q <;> simp [q]
  · simp [bad]
theorem er_quo (l h l' h' : Int) : (quo l h l' h').er = 0 ∨ (quo l h l' h').er = 1 ∨ (quo l h l' h').er = 2 := by
  unfold quo; split
  · rcases rs_er2 (mn4 (fl l l') (fl l h') (fl h l') (fl h h')) (mx4 (cl l l') (cl l h') (cl h l') (cl h h')) with q | q <;> simp [q]
  · simp [bad]
/-! Operations keep inclusions -/
theorem nest_mul {l h l' h' a b : Int} (vw : Vd a b) (h1 : l ≤ a) (h2 : b ≤ h) (e : (mul l h l' h').er = 0) :
    (mul a b l' h').er = 0 ∧ wi (mul a b l' h').lo (mul a b l' h').hi (mul l h l' h').lo (mul l h l' h').hi = true := by
  obtain ⟨v, v2, v3, eq⟩ := mul_ok e
  rw [eq]
  have w1 := vw.1
  have w2 := v2.1
  have lo := le_mn4.1 (Int.le_refl (mn4 (l * l') (l * h') (h * l') (h * h')))
  have hi := mx4_le.1 (Int.le_refl (mx4 (l * l') (l * h') (h * l') (h * h')))
  have c1 : mn4 (l * l') (l * h') (h * l') (h * h') ≤ mn4 (a * l') (a * h') (b * l') (b * h') := le_mn4.2
    ⟨mul_low (by omega) (by omega) (by omega) (by omega) lo.1 lo.2.1 lo.2.2.1 lo.2.2.2, mul_low (by omega) (by omega) (by omega) (by omega) lo.1 lo.2.1 lo.2.2.1 lo.2.2.2,
     mul_low (by omega) (by omega) (by omega) (by omega) lo.1 lo.2.1 lo.2.2.1 lo.2.2.2, mul_low (by omega) (by omega) (by omega) (by omega) lo.1 lo.2.1 lo.2.2.1 lo.2.2.2⟩
  have c2 : mx4 (a * l') (a * h') (b * l') (b * h') ≤ mx4 (l * l') (l * h') (h * l') (h * h') := mx4_le.2
    ⟨mul_high (by omega) (by omega) (by omega) (by omega) hi.1 hi.2.1 hi.2.2.1 hi.2.2.2, mul_high (by omega) (by omega) (by omega) (by omega) hi.1 hi.2.1 hi.2.2.1 hi.2.2.2,
     mul_high (by omega) (by omega) (by omega) (by omega) hi.1 hi.2.1 hi.2.2.1 hi.2.2.2, mul_high (by omega) (by omega) (by omega) (by omega) hi.1 hi.2.1 hi.2.2.1 hi.2.2.2⟩
  have c3 := mn_le_mx (a * l') (a * h') (b * l') (b * h') (a * l') (a * h') (b * l') (b * h') (Int.le_refl _)
  have v4 : Vd (mn4 (a * l') (a * h') (b * l') (b * h')) (mx4 (a * l') (a * h') (b * l') (b * h')) := by unfold Vd at v3 ⊢; omega
  have ew : mul a b l' h' = ⟨mn4 (a * l') (a * h') (b * l') (b * h'), mx4 (a * l') (a * h') (b * l') (b * h'), 0⟩ := by unfold mul; rw [if_pos ⟨vw, v2⟩, rs_yes v4]
  rw [ew]
  exact ⟨rfl, wi_yes v4 v3 c1 c2⟩
theorem nest_quo {l h l' h' a b : Int} (vw : Vd a b) (h1 : l ≤ a) (h2 : b ≤ h) (e : (quo l h l' h').er = 0) :
    (quo a b l' h').er = 0 ∧ wi (quo a b l' h').lo (quo a b l' h').hi (quo l h l' h').lo (quo l h l' h').hi = true := by
  obtain ⟨v, v2, hz, v3, eq⟩ := quo_ok e
  rw [eq]
  have w1 := vw.1
  have w2 := v2.1
  have lo := le_mn4.1 (Int.le_refl (mn4 (fl l l') (fl l h') (fl h l') (fl h h')))
  have hi := mx4_le.1 (Int.le_refl (mx4 (cl l l') (cl l h') (cl h l') (cl h h')))
  have c1 : mn4 (fl l l') (fl l h') (fl h l') (fl h h') ≤ mn4 (fl a l') (fl a h') (fl b l') (fl b h') := le_mn4.2
    ⟨quo_low (by omega) (by omega) (by omega) (by omega) hz lo.1 lo.2.1 lo.2.2.1 lo.2.2.2, quo_low (by omega) (by omega) (by omega) (by omega) hz lo.1 lo.2.1 lo.2.2.1 lo.2.2.2,
     quo_low (by omega) (by omega) (by omega) (by omega) hz lo.1 lo.2.1 lo.2.2.1 lo.2.2.2, quo_low (by omega) (by omega) (by omega) (by omega) hz lo.1 lo.2.1 lo.2.2.1 lo.2.2.2⟩
  have c2 : mx4 (cl a l') (cl a h') (cl b l') (cl b h') ≤ mx4 (cl l l') (cl l h') (cl h l') (cl h h') := mx4_le.2
    ⟨quo_high (by omega) (by omega) (by omega) (by omega) hz hi.1 hi.2.1 hi.2.2.1 hi.2.2.2, quo_high (by omega) (by omega) (by omega) (by omega) hz hi.1 hi.2.1 hi.2.2.1 hi.2.2.2,
     quo_high (by omega) (by omega) (by omega) (by omega) hz hi.1 hi.2.1 hi.2.2.1 hi.2.2.2, quo_high (by omega) (by omega) (by omega) (by omega) hz hi.1 hi.2.1 hi.2.2.1 hi.2.2.2⟩
  have c3 := mn_le_mx (fl a l') (fl a h') (fl b l') (fl b h') (cl a l') (cl a h') (cl b l') (cl b h') (fl_le_cl (show l' ≠ 0 by omega))
  have v4 : Vd (mn4 (fl a l') (fl a h') (fl b l') (fl b h')) (mx4 (cl a l') (cl a h') (cl b l') (cl b h')) := by unfold Vd at v3 ⊢; omega
  have ew : quo a b l' h' = ⟨mn4 (fl a l') (fl a h') (fl b l') (fl b h'), mx4 (cl a l') (cl a h') (cl b l') (cl b h'), 0⟩ := by
    unfold quo; rw [if_pos (by unfold Qo; exact ⟨vw, v2, hz⟩), rs_yes v4]
  rw [ew]
  exact ⟨rfl, wi_yes v4 v3 c1 c2⟩
theorem nest_sub {l h l' h' a b : Int} (vw : Vd a b) (h1 : l ≤ a) (h2 : b ≤ h) (e : (sub l' h' l h).er = 0) :
    (sub l' h' a b).er = 0 ∧ wi (sub l' h' a b).lo (sub l' h' a b).hi (sub l' h' l h).lo (sub l' h' l h).hi = true := by
  obtain ⟨v, v2, v3, eq⟩ := sub_ok e
  rw [eq]
  have v4 : Vd (l' - b) (h' - a) := by unfold Vd at *; omega
  have ew : sub l' h' a b = ⟨l' - b, h' - a, 0⟩ := by unfold sub; rw [if_pos ⟨v, vw⟩, rs_yes v4]
  rw [ew]
  exact ⟨rfl, wi_yes v4 v3 (by simp; omega) (by simp; omega)⟩
/-! Members -/
def mb (l h n : Int) : Int := l + n % (h - l + 1)
theorem mb_in {l h n : Int} (v : Vd l h) : l ≤ mb l h n ∧ mb l h n ≤ h := by
  unfold Vd at v; unfold mb
  have := Int.emod_nonneg n (show h - l + 1 ≠ 0 by omega)
  have := Int.emod_lt_of_pos n (show 0 < h - l + 1 by omega)
  omega
theorem add_has {l h l' h' u v : Int} (h1 : l ≤ u ∧ u ≤ h) (h2 : l' ≤ v ∧ v ≤ h') (e : (add l h l' h').er = 0) :
    hs (add l h l' h').lo (add l h l' h').hi (u + v) = true ∧ -9223372036854775808 ≤ u + v ∧ u + v ≤ 9223372036854775807 := by
  obtain ⟨v1, v2, v3, eq⟩ := add_ok e
  rw [eq]
  refine ⟨hs_yes v3 (by simp; omega) (by simp; omega), ?_⟩
  unfold Vd at v3; omega
theorem sub_has {l h l' h' u v : Int} (h1 : l ≤ u ∧ u ≤ h) (h2 : l' ≤ v ∧ v ≤ h') (e : (sub l h l' h').er = 0) :
    hs (sub l h l' h').lo (sub l h l' h').hi (u - v) = true ∧ -9223372036854775808 ≤ u - v ∧ u - v ≤ 9223372036854775807 := by
  obtain ⟨v1, v2, v3, eq⟩ := sub_ok e
  rw [eq]
  refine ⟨hs_yes v3 (by simp; omega) (by simp; omega), ?_⟩
  unfold Vd at v3; omega
theorem mul_has {l h l' h' u v : Int} (h1 : l ≤ u ∧ u ≤ h) (h2 : l' ≤ v ∧ v ≤ h') (e : (mul l h l' h').er = 0) :
    hs (mul l h l' h').lo (mul l h l' h').hi (u * v) = true ∧ Wi.in64 (u * v) := by
  obtain ⟨v1, v2, v3, eq⟩ := mul_ok e
  rw [eq]
  have lo := le_mn4.1 (Int.le_refl (mn4 (l * l') (l * h') (h * l') (h * h')))
  have hi := mx4_le.1 (Int.le_refl (mx4 (l * l') (l * h') (h * l') (h * h')))
  have c1 := mul_low h1.1 h1.2 h2.1 h2.2 lo.1 lo.2.1 lo.2.2.1 lo.2.2.2
  have c2 := mul_high h1.1 h1.2 h2.1 h2.2 hi.1 hi.2.1 hi.2.2.1 hi.2.2.2
  refine ⟨hs_yes v3 c1 c2, ?_⟩
  unfold Vd at v3; unfold Wi.in64; omega
end Iv
end Go.Proofs.Ytgkbjkgafiojjaa
