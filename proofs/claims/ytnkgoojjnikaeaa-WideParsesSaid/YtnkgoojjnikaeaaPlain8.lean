/-
  Plain: a number's text read again gives the number, and a text that reads well is its number's text; no program in sight.
-/
import Derived.Test.YtnkgoojjnikaeaaPlain7
namespace Go.Proofs.Ytnkgoojjnikaeaa
set_option linter.unusedVariables false
set_option linter.unusedSimpArgs false
namespace Wi
open Go.PlainAid

theorem nd_ex {v : Int} : ∀ (N : Nat), 1 ≤ N → v / 10 ^ N = 0 → ∃ n, Nd v n
  | 1, _, h => ⟨1, by omega, h, fun q => absurd q (by omega)⟩
  | N + 2, _, h => by
    by_cases q : v / 10 ^ (N + 1) = 0
    · exact nd_ex (N + 1) (by omega) q
    · exact ⟨N + 2, by omega, h, fun _ => by rw [show N + 2 - 1 = N + 1 by omega]; exact q⟩
theorem ab_bnd {x : Int} (h : inW x) : 0 ≤ ab x ∧ ab x < 1000000000000000000000000000000000000000 := by
  unfold inW at h; unfold ab; split <;> omega
theorem nd_ab {x : Int} (h : inW x) : Nd (ab x) (ndv (ab x)) := by
  have b := ab_bnd h
  obtain ⟨n, hn⟩ := nd_ex (v := ab x) 39 (by omega) (Int.ediv_eq_zero_of_lt b.1 (by have e : (10 : Int) ^ 39 = 1000000000000000000000000000000000000000 := by decide
                                                                                    rw [e]; exact b.2))
  rw [ndv_of b.1 hn]; exact hn
theorem size_list (L : List UInt8) : (⟨L.toArray⟩ : ByteArray).size = L.length := rfl
theorem bt_list (L : List UInt8) (j : Nat) (h : j < L.length) : bt ⟨L.toArray⟩ j = ((L[j]'h).toNat : Int) := by
  have h' : j < (⟨L.toArray⟩ : ByteArray).size := h
  rw [← get_bt _ j h']; rfl
theorem bt_dl (v : Int) (n j : Nat) (h : j < n) : bt ⟨(dl v n).toArray⟩ j = dgs v n j := by
  rw [bt_list _ _ (by rw [dl_len]; exact h)]
  have e := dl_at v n j h
  rw [List.getElem?_eq_some_iff] at e
  obtain ⟨_, e⟩ := e
  rw [e, dg_nat]; unfold dgs; omega
theorem tt_form {x : Int} (h : inW x) : tF ⟨(dl (ab x) (ndv (ab x))).toArray⟩ (ngb x) ∧ tN ⟨(dl (ab x) (ndv (ab x))).toArray⟩ (ngb x) = x := by
  have hn := nd_ab h
  have hb := (ab_bnd h).1
  generalize hv : ab x = v at *
  generalize ndv v = n at *
  have hz : (⟨(dl v n).toArray⟩ : ByteArray).size = n := by rw [size_list, dl_len]
  have hc : nm (bt ⟨(dl v n).toArray⟩) n = v := by rw [nm_congr (g := dgs v n) (fun k hk => bt_dl v n k hk)]; exact nm_all hn.2.1
  have hd : digs (bt ⟨(dl v n).toArray⟩) n := fun k hk => by rw [bt_dl v n k hk]; exact dgs_bd v n k
  refine ⟨⟨by rw [hz]; exact hn.1, fun q => ?_, by rw [hz]; exact hd⟩, ?_⟩
  · rw [bt_dl v n 0 hn.1] at q
    unfold dgs at q
    rw [show n - 1 - 0 = n - 1 by omega] at q
    have t := top10_succ (v := v) (n - 1)
    rw [show n - 1 + 1 = n from Nat.sub_add_cancel hn.1, hn.2.1] at t
    have t0 : v / 10 ^ (n - 1) = 0 := by omega
    have n1 : n = 1 := by
      have := hn.1
      rcases Nat.lt_or_ge 1 n with k | k
      · exact absurd t0 (hn.2.2 k)
      · omega
    subst n1
    simp at t0
    refine ⟨hz, ?_⟩
    unfold ab at hv
    refine decide_eq_false ?_
    split at hv <;> omega
  · unfold tN
    rw [hz, hc, ← hv]
    unfold sg ab ngb
    by_cases q : x < 0 <;> simp [q]
theorem ext_tail (c : UInt8) (L : List UInt8) : ByteArray.extract ⟨(c :: L).toArray⟩ 1 (L.length + 1) = ⟨L.toArray⟩ := by
  apply ByteArray.ext
  simp
theorem ptx_TT {x : Int} (h : inW x) : png (TT x) = ngb x ∧ ptx (TT x) = ⟨(dl (ab x) (ndv (ab x))).toArray⟩ := by
  have hn := nd_ab h
  unfold TT
  cases hg : ngb x
  · have e : png ⟨(sgn false ++ dl (ab x) (ndv (ab x))).toArray⟩ = false := by
      refine decide_eq_false (fun q => ?_)
      have q2 := q.2
      rw [show sgn false ++ dl (ab x) (ndv (ab x)) = dl (ab x) (ndv (ab x)) from rfl, bt_dl _ _ _ hn.1] at q2
      have := dgs_bd (ab x) (ndv (ab x)) 0
      omega
    exact ⟨e, if_neg (by rw [e]; decide)⟩
  · have e : png ⟨(sgn true ++ dl (ab x) (ndv (ab x))).toArray⟩ = true := by
      refine decide_eq_true ⟨?_, ?_⟩
      · rw [size_list]; simp [sgn]
      · rw [bt_list _ 0 (by simp [sgn])]; rfl
    refine ⟨e, (if_pos e).trans ?_⟩
    exact ext_tail 45 (dl (ab x) (ndv (ab x)))
/-- A number's text, read again. -/
theorem parse_TT {x : Int} (h : inW x) : pE (TT x) = 0 ∧ pV (TT x) = x := by
  obtain ⟨e1, e2⟩ := ptx_TT h
  obtain ⟨f1, f2⟩ := tt_form h
  unfold pE pV
  rw [e1, e2]
  obtain ⟨g1, g2⟩ := te_yes f1 (by rw [f2]; exact h)
  exact ⟨g1, by rw [g2, f2, rv_yes h]⟩
theorem TT_size {x : Int} (h : inW x) : (TT x).size ≤ 9223372036854775807 := by
  have b := ab_bnd h
  have n := nd_39 b.1 b.2 (nd_ab h)
  unfold TT
  rw [size_list, List.length_append, dl_len]
  have : (sgn (ngb x)).length ≤ 1 := by cases ngb x <;> simp [sgn]
  omega
theorem dl_list {t : ByteArray} (f3 : digs (bt t) t.size) : dl (nm (bt t) t.size) t.size = t.data.toList := by
  apply List.ext_getElem
  · rw [dl_len]; rfl
  · intro j h1 h2
    have hj : j < t.size := by rwa [dl_len] at h1
    have e := dl_at (nm (bt t) t.size) t.size j hj
    rw [List.getElem?_eq_getElem h1] at e
    rw [Option.some.inj e]
    apply UInt8.toNat_inj.mp
    have e2 := dg_nat (nm (bt t) t.size / 10 ^ (t.size - 1 - j))
    have e3 := nm_dig f3 hj
    have e4 := get_bt t j hj
    have e5 : t.data.toList[j] = t[j] := rfl
    rw [e5]
    omega
theorem sg_back {t : ByteArray} {g : Bool} (hv : 0 ≤ nm (bt t) t.size) (hp : g = true → 1 ≤ nm (bt t) t.size) : ab (tN t g) = nm (bt t) t.size ∧ ngb (tN t g) = g := by
  unfold tN
  generalize nm (bt t) t.size = v at *
  cases g
  · unfold sg ab ngb
    simp; omega
  · have := hp rfl
    unfold sg ab ngb
    simp; omega
/-- A text that reads well is its number's text. -/
theorem TT_parse {s : ByteArray} (h : pE s = 0) : TT (pV s) = s := by
  unfold pE tE at h
  have f : tF (ptx s) (png s) := by
    apply Classical.byContradiction; intro q; rw [if_pos q] at h; omega
  rw [if_neg (fun q => q f)] at h
  have w : inW (tN (ptx s) (png s)) := by
    apply Classical.byContradiction; intro q; rw [if_neg q] at h; omega
  have ev : pV s = tN (ptx s) (png s) := by unfold pV; rw [(te_yes f w).2, rv_yes w]
  rw [ev]
  clear ev h w
  obtain ⟨f1, f2, f3⟩ := f
  have hv0 := nm_nonneg f3
  have hN : Nd (nm (bt (ptx s)) (ptx s).size) (ptx s).size := nd_nm f3 f1 (fun q e => by have := (f2 e).1; omega)
  have hpos : png s = true → 1 ≤ nm (bt (ptx s)) (ptx s).size := fun e => by
    have n0 : bt (ptx s) 0 ≠ 48 := fun q => by rw [(f2 q).2] at e; cases e
    have m := nm_le f3 f1
    have b := f3 0 f1
    simp only [nm] at m
    omega
  have ha := sg_back hv0 hpos
  unfold TT
  rw [ha.1, ha.2, ndv_of hv0 hN, dl_list f3]
  clear ha hpos hN hv0 f1 f2 f3
  cases hg : png s
  · rw [show ptx s = s from if_neg (by rw [hg]; decide)]
    rfl
  · rw [show ptx s = s.extract 1 s.size from if_pos hg]
    have hp := of_decide_eq_true hg
    clear hg
    obtain ⟨⟨L⟩⟩ := s
    rcases L with _ | ⟨c, L⟩
    · exact absurd hp.1 (by decide)
    · have hc := hp.2
      rw [bt_list (c :: L) 0 (by simp)] at hc
      have hc2 : c = 45 := by
        apply UInt8.toNat_inj.mp
        simp at hc
        show c.toNat = 45
        omega
      subst hc2
      rw [show (ByteArray.size ⟨(45 :: L).toArray⟩) = L.length + 1 from rfl, ext_tail]
      rfl
end Wi
end Go.Proofs.Ytnkgoojjnikaeaa
