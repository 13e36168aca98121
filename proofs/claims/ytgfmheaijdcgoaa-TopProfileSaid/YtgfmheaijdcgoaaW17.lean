/-
  Words for copies of windows; the walk of ConstraintEach.
-/
import Derived.Test.YtgfmheaijdcgoaaW16
namespace Go.Proofs.Ytgfmheaijdcgoaa
set_option linter.unusedVariables false
set_option linter.unusedSimpArgs false
open Go.RowKit

theorem own_empty (w : World) (base : Nat) (e : TypeId) (q : Nat) (V : Nat → Nat → Value) {H : Nat} (hH : w.heap.size = H) (hb : base ≤ w.heap.size) : Own (w.alloc (.cells #[] e)) base e q (some ⟨H, 0, none⟩) 0 0 V := by
  subst hH
  exact ⟨_, World.ownsRow_lit (size := q) w #[] 0 hb (by rw [maxLen_eq]; omega) (by simp), fun i j hi => absurd hi (by omega)⟩
theorem app0 {w : World} {base : Nat} {e : TypeId} {q n c : Nat} {A : Option Addr} {V V2 : Nat → Nat → Value} (h : Own w base e q A (0 + n) c (app 0 V V2)) : Own w base e q A n c V2 := by
  rw [Nat.zero_add] at h
  exact h.congr fun i f hi _ => by unfold app; rw [if_neg (by omega), Nat.sub_zero]
/-- One row of two cells stored. -/
theorem Own.set2 {w : World} {base : Nat} {e : TypeId} {n c g : Nat} {N : Nat → Nat → Int} (h : Own w base e 2 (some ⟨g, 0, none⟩) n c (iv N)) {k : Nat} (hk : k < n) (a b : Int) :
    Own ((w.setCell ⟨g, k * 2, none⟩ (.int .i64 a)).setCell ⟨g, k * 2 + 1, none⟩ (.int .i64 b)) base e 2 (some ⟨g, 0, none⟩) n c (iv (Co.setW N k a b)) := by
  have h1 := h.set (V' := iv (fun i f => if i = k ∧ f = 0 then a else N i f)) hk (show 0 < 2 by omega) (.int .i64 a) (by simp [iv]) (fun i j hi hj hne => by simp only [iv]; rw [if_neg (by omega)])
  have h2 := h1.set (V' := iv (Co.setW N k a b)) hk (show 1 < 2 by omega) (.int .i64 b) (by simp [iv, Co.setW]) (fun i j hi hj hne => by
    unfold iv Co.setW
    by_cases e : i = k
    · obtain rfl : j = 0 := by omega
      simp [e]
    · simp [e])
  rw [Nat.add_zero] at h2
  exact h2
theorem Own.two {w : World} {base : Nat} {e : TypeId} {n c g : Nat} {N : Nat → Nat → Int} (h : Own w base e 2 (some ⟨g, 0, none⟩) n c (iv N)) {k : Nat} (hk : k < n) :
    w.cell? ⟨g, k * 2, none⟩ = some (.int .i64 (N k 0)) ∧ w.cell? ⟨g, k * 2 + 1, none⟩ = some (.int .i64 (N k 1)) ∧ (∀ o, w.frozen? ⟨g, o, none⟩ = false) :=
  ⟨h.cell hk (show 0 < 2 by omega), h.cell hk (show 1 < 2 by omega), h.frozen⟩
/-- An index out of any number. -/
theorem index_of (p : Int) {n : Nat} (hn : 0 < n) : ∃ i : Nat, i < n ∧ (Int.tmod p (n : Int) = (i : Int) ∨ ∃ t : Int, Int.tmod p (n : Int) = t ∧ t < 0 ∧ -(n : Int) < t ∧ t + n = (i : Int)) := by
  have hp : (0 : Int) < (n : Int) := by omega
  by_cases h : 0 ≤ Int.tmod p n
  · have h2 := Int.tmod_lt_of_pos p hp
    exact ⟨(Int.tmod p n).toNat, by omega, .inl (by omega)⟩
  · have h3 : -(n : Int) < Int.tmod p n := by
      have := Int.tmod_lt_of_pos (-p) hp
      rw [Int.neg_tmod] at this; omega
    exact ⟨(Int.tmod p n + n).toNat, by omega, .inr ⟨_, rfl, by omega, h3, by omega⟩⟩

set_option maxRecDepth 100000 in
set_option maxHeartbeats 4000000 in
theorem law_each (A B : Option Addr) (n c m d : Nat) (N S : Nat → Nat → Int) (p x : Int) (w : World) (R : Rd w 2 A n c (iv N)) (T : Rd w 2 B m d (iv S)) (hp : -9223372036854775808 ≤ p ∧ p ≤ 9223372036854775807) :
    Calls Try.prog 7 #[.slice A n c, .slice B m d, .agg #[.int .i64 p, .int .i64 x]] w fun e w' => e = .returned (.bool true) ∧ Below w.heap.size w w' := by
  have X := Blk.new w 46 #[.int .i64 p, .int .i64 x]
  have hX := ba w (.cells #[.int .i64 p, .int .i64 x] 46)
  by_cases hgo : Co.tgE n N m S = 0 ∧ 0 < n
  rotate_left
  · have e2 : Co.tgL n N m S = 0 := by unfold Co.tgL; split <;> omega
    have E2 := Lib.hid e2
    by_cases h0 : Co.tgE n N m S = 0
    · have hn : n = 0 := by omega
      subst hn
      have E1 := Lib.hid h0
      clear hgo e2 h0
      go_enter Try.func7, Try.ntmps7
      go_wp2_with fail
      refine (awake_c _).mono ?_
      rintro e w1 ⟨rfl, h1⟩
      replace h1 := bt hX h1
      go_wp2_with fail
      refine (tighten_c _ _ _ _ _ _ _ _ _ (R.keep h1) (T.keep h1)).mono ?_
      rintro e w2 ⟨A1, c1, rfl, o1, h2⟩
      rw [E1.out, E2.out]
      go_wp2_with fail
      go_returns
      exact ⟨rfl, bt h1 h2⟩
    · have h3 : (Co.tgE n N m S != 0) = true := by simpa using h0
      clear hgo e2 h0
      go_enter Try.func7, Try.ntmps7
      go_wp2_with fail
      refine (awake_c _).mono ?_
      rintro e w1 ⟨rfl, h1⟩
      replace h1 := bt hX h1
      go_wp2_with fail
      refine (tighten_c _ _ _ _ _ _ _ _ _ (R.keep h1) (T.keep h1)).mono ?_
      rintro e w2 ⟨A1, c1, rfl, o1, h2⟩
      rw [E2.out]
      go_wp2_with fail
      go_returns
      exact ⟨rfl, bt h1 h2⟩
  obtain ⟨h0, hn0⟩ := hgo
  have e2 : Co.tgL n N m S = n := by unfold Co.tgL; rw [if_pos h0]
  have hck : Co.ck n N m S = 0 := by unfold Co.tgE at h0; split at h0 <;> omega
  have hcb : Co.cB n N S = false := by
    unfold Co.tgE at h0
    rw [if_neg (by omega)] at h0
    cases q : Co.cB n N S
    · rfl
    · rw [q] at h0; simp at h0
  have O := Co.ck_ok.1 hck
  have hn := O.hn
  have E1 := Lib.hid h0
  have E2 := Lib.hid e2
  have r1 := R.le
  obtain ⟨i0, hi, hz0, hz1, hz2⟩ := info_parts infoW
  have HI := Lib.hid hi
  have HZ0 := Lib.hid hz0
  have HZ1 := Lib.hid hz1
  have HZ2 := Lib.hid hz2
  obtain ⟨v, hv⟩ : ∃ v : Int, v = min (max x (-1099511627776)) 1099511627776 := ⟨_, rfl⟩
  have hvB : -1099511627776 ≤ v ∧ v ≤ 1099511627776 := by omega
  have hmx : (if x < -1099511627776 then -1099511627776 else x) = max x (-1099511627776) := by omega
  have hmn : (if 1099511627776 < max x (-1099511627776) then 1099511627776 else max x (-1099511627776)) = v := by omega
  have HMX := Lib.hid hmx
  have HMN := Lib.hid hmn
  obtain ⟨i, hin, hidx⟩ := index_of p hn0
  have hEach := Lib.hid (fun hc => Co.each O hcb hin hvB hc)
  clear hi hz0 hz1 hz2 h0 e2 hck hcb hmx hmn hv
  have hfin : ∀ (w2 : World) (A1 : Option Addr) (c1 : Nat), Own w2 w2.heap.size 44 2 A1 n c1 (iv (Co.tt n N S)) → True := fun _ _ _ _ => trivial
  clear hfin
  rcases hidx with ht | ⟨t, ht, t1, t2, t3⟩
  · skip
    have ti : (0 : Int) ≤ (i : Int) := by omega
    have tin : (i : Int) < (n : Int) := by omega
    have ti0 : (0 : Int) ≤ (i : Int) := by omega
    have hnz : ((n : Int) == 0) = false := by simp; omega
    have hmx := HMX.out
    have hmn := HMN.out
    go_enter Try.func7, Try.ntmps7
    go_wp2_with fail
    refine (awake_c _).mono ?_
    rintro e w1 ⟨rfl, h1⟩
    replace X := X.keep h1
    replace h1 := bt hX h1
    go_wp2_with fail
    refine (tighten_c _ _ _ _ _ _ _ _ _ (R.keep h1) (T.keep h1)).mono ?_
    rintro e w2 ⟨A1, c1, rfl, o1, h2⟩
    rw [E1.out, E2.out]
    rw [E2.out] at o1
    replace X := X.keep h2
    replace h2 := bt h1 h2
    obtain ⟨g, rfl, hg1, hg2⟩ := o1.pos hn0
    obtain ⟨u0, u1, u2⟩ := o1.two hin
    simp only [Co.tt, if_true, if_neg (show ¬ (1 : Nat) = 0 by omega)] at u0 u1
    obtain ⟨b2, off2, eA, hbl2, v0w, v1w⟩ := R.at2 hin
    have HA := Lib.hid eA
    have R2 := R
    rw [HA.out] at R2 ⊢
    have hbl3 : b2 < w2.heap.size := by have := h2.size; omega
    have v0 := ((bcell h2).1 _ _ hbl2).trans v0w
    have v1 := ((bcell h2).1 _ _ hbl2).trans v1w
    clear v0w v1w eA
    obtain ⟨x0, x1, x2, x3⟩ := X.open2
    generalize hTL : Co.tlo n N S i = tl at u0 hEach
    generalize hTH : Co.thi n N S i = th at u1 hEach
    replace hTL := Lib.hid hTL
    replace hTH := Lib.hid hTH
    go_upto_region 11 with fail
    have G := Blk.new w2 44 #[.int .i64 tl, .int .i64 th]
    rcases (show (tl ≤ v ∧ v ≤ th) ∨ ((v < tl ∨ (tl ≤ v ∧ th < v)) ∧ (N i 0 ≤ v ∧ v ≤ N i 1)) ∨ ((v < tl ∨ (tl ≤ v ∧ th < v)) ∧ (v < N i 0 ∨ (N i 0 ≤ v ∧ N i 1 < v))) from by omega) with ⟨q1, q2⟩ | ⟨q | ⟨q1, q⟩, q3, q4⟩ | ⟨q | ⟨q1, q⟩, q3 | ⟨q3, q4⟩⟩
    · skip
      have d1 : decide (v < tl) = false := decide_eq_false (by omega)
      have d2 : decide (th < v) = false := decide_eq_false (by omega)
      have hE := hEach.out (.inl ⟨q1, q2⟩)
      have EB := Lib.hid (show Co.fB n (Co.setW N i v v) m S = false by unfold Co.fB; rw [hE.1, hE.2]; simp; omega)
      have EC := Lib.hid hE.1
      clear hE
      have hz2 := h2.size
      go_wp2_with (at_builtin; refine wpList_append_Rd _ rfl _ _ 22 rfl w2.heap.size 44 i0 _ 2 16 Try.underlying22 HI.out HZ0.out HZ1.out HZ2.out rfl (by decide) rfl (own_empty _ _ _ _ (iv N) (by simp) (by simp)) rfl (Rd.keep R2 (by repeat (first | exact Below.refl _ _ | (with_reducible assumption) | (with_reducible apply bal) | (with_reducible apply bdr) | (with_reducible apply bdnl) | (with_reducible refine bst ?_ (by first | (simp; done) | (simp; omega) | omega) _) | (with_reducible refine bt ?_ (by with_reducible assumption))))) (one_iv _) (by omega) (by omega) (by first | (simp; done) | (simp; omega)) ?_; intro A' c' w3 own' hgr hob; have own1 := app0 own'; obtain ⟨g2, rfl, k1, k2⟩ := own1.pos hn0; obtain ⟨y0, y1, y2⟩ := own1.two hin)
      have own2 := own1.set2 hin v v
      have hB : Below w.heap.size w w3 := (bal (bal h2 (.cells #[.int .i64 tl, .int .i64 th] 44)) (.cells #[] 44)).trans (below_grown hgr (fun g hg => by simp [ob] at hg; omega) (by simp; omega))
      have G2 := (G.alloc (.cells #[] 44))
      have G3 : Blk w3 w2.heap.size 44 #[.int .i64 tl, .int .i64 th] := (hgr.block _ G2.lt (by simp [ob])).trans G2
      have hne : w2.heap.size ≠ g2 := by rcases hob with h | h <;> (simp [ob] at h; omega)
      replace G3 := (G3.far (p := ⟨g2, i * 2, none⟩) hne (.int .i64 v)).far (p := ⟨g2, i * 2 + 1, none⟩) hne (.int .i64 v)
      replace hB := bst (bst hB (p := ⟨g2, i * 2, none⟩) (by simp; omega) (.int .i64 v)) (p := ⟨g2, i * 2 + 1, none⟩) (by simp; omega) (.int .i64 v)
      clear y0 y1 y2 own1 own' hgr hob u0 u1 u2 v0 v1 x0 x1 x2 x3 G G2
      refine (conflicts_c _ _ _ _ _ _ _ _ _ own2.rd (T.keep hB)).mono ?_
      rw [EB.out, EC.out]
      rintro e w4 ⟨rfl, h4⟩
      obtain ⟨z0, z1, z2, z3⟩ := (G3.keep h4).open2
      go_wp2_with fail
      go_returns
      exact ⟨rfl, bal (bt hB h4) _⟩
    iterate 2
      · skip
        have hE := hEach.out (.inr ⟨q3, q4⟩)
        have EB := Lib.hid (show Co.fB n (Co.setW N i v v) m S = true by unfold Co.fB; rw [hE.1, hE.2]; simp; omega)
        have EC := Lib.hid hE.1
        clear hE
        have hz2 := h2.size
        go_wp2_with (at_builtin; refine wpList_append_Rd _ rfl _ _ 22 rfl w2.heap.size 44 i0 _ 2 16 Try.underlying22 HI.out HZ0.out HZ1.out HZ2.out rfl (by decide) rfl (own_empty _ _ _ _ (iv N) (by simp) (by simp)) rfl (Rd.keep R2 (by repeat (first | exact Below.refl _ _ | (with_reducible assumption) | (with_reducible apply bal) | (with_reducible apply bdr) | (with_reducible apply bdnl) | (with_reducible refine bst ?_ (by first | (simp; done) | (simp; omega) | omega) _) | (with_reducible refine bt ?_ (by with_reducible assumption))))) (one_iv _) (by omega) (by omega) (by first | (simp; done) | (simp; omega)) ?_; intro A' c' w3 own' hgr hob; have own1 := app0 own'; obtain ⟨g2, rfl, k1, k2⟩ := own1.pos hn0; obtain ⟨y0, y1, y2⟩ := own1.two hin)
        have own2 := own1.set2 hin v v
        have hB : Below w.heap.size w w3 := (bal (bal h2 (.cells #[.int .i64 tl, .int .i64 th] 44)) (.cells #[] 44)).trans (below_grown hgr (fun g hg => by simp [ob] at hg; omega) (by simp; omega))
        have G2 := (G.alloc (.cells #[] 44))
        have G3 : Blk w3 w2.heap.size 44 #[.int .i64 tl, .int .i64 th] := (hgr.block _ G2.lt (by simp [ob])).trans G2
        have hne : w2.heap.size ≠ g2 := by rcases hob with h | h <;> (simp [ob] at h; omega)
        replace G3 := (G3.far (p := ⟨g2, i * 2, none⟩) hne (.int .i64 v)).far (p := ⟨g2, i * 2 + 1, none⟩) hne (.int .i64 v)
        replace hB := bst (bst hB (p := ⟨g2, i * 2, none⟩) (by simp; omega) (.int .i64 v)) (p := ⟨g2, i * 2 + 1, none⟩) (by simp; omega) (.int .i64 v)
        clear y0 y1 y2 own1 own' hgr hob u0 u1 u2 v0 v1 x0 x1 x2 x3 G G2
        refine (conflicts_c _ _ _ _ _ _ _ _ _ own2.rd (T.keep hB)).mono ?_
        rw [EB.out, EC.out]
        rintro e w4 ⟨rfl, h4⟩
        obtain ⟨z0, z1, z2, z3⟩ := (G3.keep h4).open2
        go_wp2_with fail
        go_returns
        exact ⟨rfl, bal (bt hB h4) _⟩
    all_goals
      go_wp2_with fail
      go_returns
      exact ⟨rfl, bal h2 _⟩
  · skip
    have tin : (i : Int) < (n : Int) := by omega
    have ti0 : (0 : Int) ≤ (i : Int) := by omega
    have hnz : ((n : Int) == 0) = false := by simp; omega
    have hmx := HMX.out
    have hmn := HMN.out
    go_enter Try.func7, Try.ntmps7
    go_wp2_with fail
    refine (awake_c _).mono ?_
    rintro e w1 ⟨rfl, h1⟩
    replace X := X.keep h1
    replace h1 := bt hX h1
    go_wp2_with fail
    refine (tighten_c _ _ _ _ _ _ _ _ _ (R.keep h1) (T.keep h1)).mono ?_
    rintro e w2 ⟨A1, c1, rfl, o1, h2⟩
    rw [E1.out, E2.out]
    rw [E2.out] at o1
    replace X := X.keep h2
    replace h2 := bt h1 h2
    obtain ⟨g, rfl, hg1, hg2⟩ := o1.pos hn0
    obtain ⟨u0, u1, u2⟩ := o1.two hin
    simp only [Co.tt, if_true, if_neg (show ¬ (1 : Nat) = 0 by omega)] at u0 u1
    obtain ⟨b2, off2, eA, hbl2, v0w, v1w⟩ := R.at2 hin
    have HA := Lib.hid eA
    have R2 := R
    rw [HA.out] at R2 ⊢
    have hbl3 : b2 < w2.heap.size := by have := h2.size; omega
    have v0 := ((bcell h2).1 _ _ hbl2).trans v0w
    have v1 := ((bcell h2).1 _ _ hbl2).trans v1w
    clear v0w v1w eA
    obtain ⟨x0, x1, x2, x3⟩ := X.open2
    generalize hTL : Co.tlo n N S i = tl at u0 hEach
    generalize hTH : Co.thi n N S i = th at u1 hEach
    replace hTL := Lib.hid hTL
    replace hTH := Lib.hid hTH
    go_upto_region 11 with fail
    have G := Blk.new w2 44 #[.int .i64 tl, .int .i64 th]
    rcases (show (tl ≤ v ∧ v ≤ th) ∨ ((v < tl ∨ (tl ≤ v ∧ th < v)) ∧ (N i 0 ≤ v ∧ v ≤ N i 1)) ∨ ((v < tl ∨ (tl ≤ v ∧ th < v)) ∧ (v < N i 0 ∨ (N i 0 ≤ v ∧ N i 1 < v))) from by omega) with ⟨q1, q2⟩ | ⟨q | ⟨q1, q⟩, q3, q4⟩ | ⟨q | ⟨q1, q⟩, q3 | ⟨q3, q4⟩⟩
    · skip
      have d1 : decide (v < tl) = false := decide_eq_false (by omega)
      have d2 : decide (th < v) = false := decide_eq_false (by omega)
      have hE := hEach.out (.inl ⟨q1, q2⟩)
      have EB := Lib.hid (show Co.fB n (Co.setW N i v v) m S = false by unfold Co.fB; rw [hE.1, hE.2]; simp; omega)
      have EC := Lib.hid hE.1
      clear hE
      have hz2 := h2.size
      go_wp2_with (at_builtin; refine wpList_append_Rd _ rfl _ _ 22 rfl w2.heap.size 44 i0 _ 2 16 Try.underlying22 HI.out HZ0.out HZ1.out HZ2.out rfl (by decide) rfl (own_empty _ _ _ _ (iv N) (by simp) (by simp)) rfl (Rd.keep R2 (by repeat (first | exact Below.refl _ _ | (with_reducible assumption) | (with_reducible apply bal) | (with_reducible apply bdr) | (with_reducible apply bdnl) | (with_reducible refine bst ?_ (by first | (simp; done) | (simp; omega) | omega) _) | (with_reducible refine bt ?_ (by with_reducible assumption))))) (one_iv _) (by omega) (by omega) (by first | (simp; done) | (simp; omega)) ?_; intro A' c' w3 own' hgr hob; have own1 := app0 own'; obtain ⟨g2, rfl, k1, k2⟩ := own1.pos hn0; obtain ⟨y0, y1, y2⟩ := own1.two hin)
      have own2 := own1.set2 hin v v
      have hB : Below w.heap.size w w3 := (bal (bal h2 (.cells #[.int .i64 tl, .int .i64 th] 44)) (.cells #[] 44)).trans (below_grown hgr (fun g hg => by simp [ob] at hg; omega) (by simp; omega))
      have G2 := (G.alloc (.cells #[] 44))
      have G3 : Blk w3 w2.heap.size 44 #[.int .i64 tl, .int .i64 th] := (hgr.block _ G2.lt (by simp [ob])).trans G2
      have hne : w2.heap.size ≠ g2 := by rcases hob with h | h <;> (simp [ob] at h; omega)
      replace G3 := (G3.far (p := ⟨g2, i * 2, none⟩) hne (.int .i64 v)).far (p := ⟨g2, i * 2 + 1, none⟩) hne (.int .i64 v)
      replace hB := bst (bst hB (p := ⟨g2, i * 2, none⟩) (by simp; omega) (.int .i64 v)) (p := ⟨g2, i * 2 + 1, none⟩) (by simp; omega) (.int .i64 v)
      clear y0 y1 y2 own1 own' hgr hob u0 u1 u2 v0 v1 x0 x1 x2 x3 G G2
      refine (conflicts_c _ _ _ _ _ _ _ _ _ own2.rd (T.keep hB)).mono ?_
      rw [EB.out, EC.out]
      rintro e w4 ⟨rfl, h4⟩
      obtain ⟨z0, z1, z2, z3⟩ := (G3.keep h4).open2
      go_wp2_with fail
      go_returns
      exact ⟨rfl, bal (bt hB h4) _⟩
    iterate 2
      · skip
        have hE := hEach.out (.inr ⟨q3, q4⟩)
        have EB := Lib.hid (show Co.fB n (Co.setW N i v v) m S = true by unfold Co.fB; rw [hE.1, hE.2]; simp; omega)
        have EC := Lib.hid hE.1
        clear hE
        have hz2 := h2.size
        go_wp2_with (at_builtin; refine wpList_append_Rd _ rfl _ _ 22 rfl w2.heap.size 44 i0 _ 2 16 Try.underlying22 HI.out HZ0.out HZ1.out HZ2.out rfl (by decide) rfl (own_empty _ _ _ _ (iv N) (by simp) (by simp)) rfl (Rd.keep R2 (by repeat (first | exact Below.refl _ _ | (with_reducible assumption) | (with_reducible apply bal) | (with_reducible apply bdr) | (with_reducible apply bdnl) | (with_reducible refine bst ?_ (by first | (simp; done) | (simp; omega) | omega) _) | (with_reducible refine bt ?_ (by with_reducible assumption))))) (one_iv _) (by omega) (by omega) (by first | (simp; done) | (simp; omega)) ?_; intro A' c' w3 own' hgr hob; have own1 := app0 own'; obtain ⟨g2, rfl, k1, k2⟩ := own1.pos hn0; obtain ⟨y0, y1, y2⟩ := own1.two hin)
        have own2 := own1.set2 hin v v
        have hB : Below w.heap.size w w3 := (bal (bal h2 (.cells #[.int .i64 tl, .int .i64 th] 44)) (.cells #[] 44)).trans (below_grown hgr (fun g hg => by simp [ob] at hg; omega) (by simp; omega))
        have G2 := (G.alloc (.cells #[] 44))
        have G3 : Blk w3 w2.heap.size 44 #[.int .i64 tl, .int .i64 th] := (hgr.block _ G2.lt (by simp [ob])).trans G2
        have hne : w2.heap.size ≠ g2 := by rcases hob with h | h <;> (simp [ob] at h; omega)
        replace G3 := (G3.far (p := ⟨g2, i * 2, none⟩) hne (.int .i64 v)).far (p := ⟨g2, i * 2 + 1, none⟩) hne (.int .i64 v)
        replace hB := bst (bst hB (p := ⟨g2, i * 2, none⟩) (by simp; omega) (.int .i64 v)) (p := ⟨g2, i * 2 + 1, none⟩) (by simp; omega) (.int .i64 v)
        clear y0 y1 y2 own1 own' hgr hob u0 u1 u2 v0 v1 x0 x1 x2 x3 G G2
        refine (conflicts_c _ _ _ _ _ _ _ _ _ own2.rd (T.keep hB)).mono ?_
        rw [EB.out, EC.out]
        rintro e w4 ⟨rfl, h4⟩
        obtain ⟨z0, z1, z2, z3⟩ := (G3.keep h4).open2
        go_wp2_with fail
        go_returns
        exact ⟨rfl, bal (bt hB h4) _⟩
    all_goals
      go_wp2_with fail
      go_returns
      exact ⟨rfl, bal h2 _⟩
end Go.Proofs.Ytgfmheaijdcgoaa
