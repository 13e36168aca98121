/-
  The statement Needed: its first loop.
-/
import Derived.Test.YtoebjiocmnonnaaW12
import Derived.Deep.AppendLies
import Derived.Deep.RegionHeld3
import Derived.Deep.RegionLaw
namespace Go.Proofs.Ytoebjiocmnonnaa
set_option linter.unusedVariables false
open Go.RowKit

theorem i64_info : (Try.prog.info? 2).map (fun i => (i.zero, i.size, i.bytes)) = some (some (.int .i64 0), 1, 8) := by kernel_rfl
def colN (N : Nat → Nat → Int) (j k : Nat) : List Value := (List.range k).map fun i => .int .i64 (N i j)
theorem colN_succ (N : Nat → Nat → Int) (j k : Nat) : colN N j (k + 1) = colN N j k ++ [.int .i64 (N k j)] := by
  simp [colN, List.range_succ]
/-- One number onto a row of the call's own, at a step of a region that draws. -/
theorem step_app1 {P : Program} {ops : Array Oper} {o : Oper} {a : Act} {K : Act → World → Prop} {Q : Exit → Act → World → Prop} {E : Prop} (w : World) (hgd : o.guard = none) (s x : Operand) (t : TypeId)
    (ho : o.op = .call { callee := .builtin .append, args := #[s, x], argTypes := #[t, t] })
    (base : Nat) (e : TypeId) (i : TypeInfo) (ht : P.underlying t = some (.slice e)) (hi : P.info? e = some i) (hz : i.zero = some (.int .i64 0))
    (hsize : i.size = 1) (hby : i.bytes = 8)
    (v : Value) (n : Nat) (xs : List Value) (f : Int) (X c : Nat) (hs : a.eval s = v) (hx : a.eval x = .slice (some ⟨X, 0, none⟩) 1 c) (hown : w.ownsRow base e 1 v n xs)
    (hcell : w.cell? ⟨X, 0, none⟩ = some (.int .i64 f)) (hn : n ≤ 100) (hbase : base ≤ w.heap.size)
    (h : ∀ v' w', w'.ownsRow base e 1 v' (n + 1) (xs ++ [.int .i64 f]) → w.grownBy w' v.ownBlock → (v.ownBlock = v'.ownBlock ∨ v'.ownBlock = some w.heap.size) → K (a.put o.dst v') w') :
    if Region.wanted o (yielded ops a.tmps) = true then Oper.wp P o a w K Q else E :=
  step_append_lies w hgd s x t ho base e i (.int .i64 0) 1 8 ht hi hz hsize hby rfl (by omega) v n xs hs hown ⟨X, 0, none⟩ 1 c [.int .i64 f] hx rfl
    (fun j u hu => by
      rcases j with _ | j
      · simp at hu; subst hu; exact hcell
      · simp at hu)
    (by simp [Value.oneCell']) (by omega) (by unfold maxLen; omega) (by omega) hbase w.heap.size rfl
    fun g cap w' h1 h2 h3 _ => h _ w' h1 h2 (h3.imp id (fun e => by rw [e]; rfl))


def Fl (N : Nat → Nat → Int) (j m : Nat) : List Int := (List.range m).map fun i => N i j
theorem Fl_len (N : Nat → Nat → Int) (j m : Nat) : (Fl N j m).length = m := by simp [Fl]
theorem Fl_at {N : Nat → Nat → Int} {j m k : Nat} (h : k < m) : Fu.at_ (Fl N j m) k = N k j := by simp [Fu.at_, Fl, h]
theorem own_slice {w : World} {base e : Nat} {v : Value} {N : Nat → Nat → Int} {j k : Nat} (h : w.ownsRow base e 1 v k (colN N j k)) : ∃ A c, v = .slice A k c ∧ RdI w A (Fl N j k) := by
  by_cases hk : 0 < k
  · obtain ⟨g, c, rfl, _, _⟩ := h.form hk
    refine ⟨_, c, rfl, Or.inr ⟨g, 0, rfl, fun i hi => ?_⟩⟩
    rw [Fl_len] at hi
    have := h.cells (g := g) rfl i (.int .i64 (N i j)) (by simp [colN, hi])
    rw [Fl_at hi]
    have e : (⟨g, 0, none⟩ : Addr).add i = ⟨g, 0 + i, none⟩ := by unfold Addr.add; split <;> simp_all
    rwa [e] at this
  · obtain rfl : k = 0 := by omega
    rcases h.2 with ⟨rfl, _⟩ | ⟨g, c, cur, rfl, _⟩
    · exact ⟨_, _, rfl, Or.inl rfl⟩
    · exact ⟨_, _, rfl, Or.inl rfl⟩
theorem needed_n (A D : Option Addr) (cA cD : Nat) (N : Nat → Nat → Int) (m : Nat) (r : Int) (w : World) (hA : RdI w A (Fl N 0 m)) (hD : RdI w D (Fl N 1 m)) (hm : m ≤ 40) :
    Calls Try.prog 18 #[.slice A m cA, .slice D m cD, .int .i64 r] w fun e w' => e = .returned (.tuple #[.int .i64 (Fu.ndV (Fl N 0 m) (Fl N 1 m) r), .int .i64 (Fu.ndE (Fl N 0 m) (Fl N 1 m) r)]) ∧ Below w.heap.size w w' := by
  have h := needed_c A D cA cD (Fl N 0 m) (Fl N 1 m) r w hA hD (by rw [Fl_len]; omega) (by rw [Fl_len]; omega)
  rwa [Fl_len, Fl_len] at h
theorem sum_mono {xs ys : List Int} {n : Nat} (h : Fu.allIn xs ys n) : ∀ d, d ≤ n → Fu.sumTo xs ys (n - d) ≤ Fu.sumTo xs ys n := by
  intro d
  induction d with
  | zero => intro _; exact Int.le_refl _
  | succ d ih =>
    intro hd
    have a := ih (by omega)
    have e : n - d = (n - (d + 1)) + 1 := by omega
    have b := Fu.mul_bd (h (n - (d + 1)) (by omega))
    rw [e] at a
    simp only [Fu.sumTo] at a
    omega
/-- What the laws say of the flows N, the first m. -/
theorem nd_cases (N : Nat → Nat → Int) (m : Nat) (r : Int) (hm : m ≤ 40) :
    (Fu.ndE (Fl N 0 m) (Fl N 1 m) r = 2 ∧ Fu.ndV (Fl N 0 m) (Fl N 1 m) r = 0) ∨
    ∃ V, Fu.ndE (Fl N 0 m) (Fl N 1 m) r = 0 ∧ Fu.ndV (Fl N 0 m) (Fl N 1 m) r = V ∧ 0 ≤ r ∧ r ≤ V ∧ V ≤ 3000000000 ∧ V - Fu.sumTo (Fl N 0 m) (Fl N 1 m) m = r ∧
      (V < 3000000000 → ∀ k, k < m → Fu.burnE 1 V r (Fu.sumTo (Fl N 0 m) (Fl N 1 m) k) (N k 0) (N k 1) = 0) := by
  have l0 := Fl_len N 0 m
  have l1 := Fl_len N 1 m
  by_cases hb : Fu.ndBad (Fl N 0 m) (Fl N 1 m) r
  · have h := Fu.nd_3 (by rw [l0, l1]) (by rw [l0]; omega) hb
    exact Or.inl ⟨h, by unfold Fu.ndV; rw [h]; rfl⟩
  · have h := Fu.nd_4 (by rw [l0, l1]) (by rw [l0]; omega) hb
    have hv : Fu.ndV (Fl N 0 m) (Fl N 1 m) r = r + Fu.sumTo (Fl N 0 m) (Fl N 1 m) m := by unfold Fu.ndV; rw [h, l0]; rfl
    have hin : Fu.allIn (Fl N 0 m) (Fl N 1 m) m := by
      apply Classical.byContradiction
      intro q
      exact hb (Or.inr (Or.inr (Or.inl (by rw [l0]; exact q))))
    have h1 : ¬ r < 0 := fun q => hb (Or.inl q)
    have h2 : ¬ 3000000000 < r + Fu.sumTo (Fl N 0 m) (Fl N 1 m) m := fun q => hb (Or.inr (Or.inr (Or.inr (by rw [l0]; exact q))))
    have h3 := Fu.sum_bd m hin
    refine Or.inr ⟨_, h, hv, by omega, by omega, by omega, by omega, fun hV k hk => ?_⟩
    have s1 := sum_mono hin (m - (k + 1)) (by omega)
    have e : m - (m - (k + 1)) = k + 1 := by omega
    rw [e] at s1
    simp only [Fu.sumTo] at s1
    have s0 := Fu.sum_bd k (Fu.allIn_le hin (by omega))
    have hb := hin k hk
    have mb := Fu.mul_bd hb
    rw [Fl_at hk, Fl_at hk] at hb s1 mb
    exact Fu.burn_4 ⟨by omega, by omega, by omega, by omega, by omega, by omega, by omega, by omega⟩ hb (by omega)
theorem newd {u v x : Option Nat} {n : Nat} (h : u = v ∨ v = some n) (d : u = none ∨ u ≠ x) (hn : some n ≠ x) : v = none ∨ v ≠ x := by
  rcases h with h | h
  · rw [← h]; exact d
  · exact Or.inr (by rw [h]; exact hn)
theorem Blk.grown {w w' : World} {g : Nat} {t : TypeId} {cs : Array Value} {row : Option Nat} (h : Blk w g t cs) (hb : w.grownBy w' row) (hg : some g ≠ row) : Blk w' g t cs := (hb.block g h.lt hg).trans h
attribute [local irreducible] World.ownsRow Blk
set_option maxRecDepth 100000 in
set_option maxHeartbeats 8000000 in
theorem law_needed (A : Option Addr) (n cA : Nat) (r : Int) (N : Nat → Nat → Int) (w : World) (hn : n ≤ 9223372036854775807) (hcap : n ≤ cA) (hcA : cA ≤ 9223372036854775807)
    (hA : 0 < n → ∃ b off : Nat, A = some ⟨b, off, none⟩ ∧ b < w.heap.size ∧ ∀ i j k, i < n → [IntKind.i64, IntKind.i64][j]? = some k → w.cell? ⟨b, off + (i * ([IntKind.i64].length + 1) + j), none⟩ = some (.int k (N i j))) :
    Calls Try.prog 8 #[.slice A n cA, .int .i64 r] w fun e w' => e = .returned (.bool true) ∧ Below w.heap.size w w' := by
  obtain ⟨i0, hi0, hz0, hz1, hz2⟩ := info_parts i64_info
  have HA := Lib.hid hA
  clear hA
  by_cases hm : n ≤ 40
  · have hmin : min (↑n : Int) 40 = ↑n := by omega
    go_enter Try.func8, Try.ntmps8
    go_wp2_with fail
    refine (awake_c _).mono ?_
    rintro e w1 ⟨rfl, hb1⟩
    go_wp2_with fail
    go_loopw [5, 6, 23] (fun v5 v6 i wr => ∃ (k : Nat), k ≤ n ∧ i = .int .i64 k ∧ wr.ownsRow w.heap.size 2 1 v5 k (colN N 0 k) ∧ wr.ownsRow w.heap.size 2 1 v6 k (colN N 1 k) ∧ (∀ g, v5.ownBlock = some g → v6.ownBlock ≠ some g) ∧ Below w.heap.size w wr) (fun _ _ i _ => n - (intOf i).toNat)
    case atStart => exact ⟨0, Nat.zero_le _, rfl, World.ownsRow_nil _ _ _ _, World.ownsRow_nil _ _ _ _, fun g h => by simp [Value.ownBlock] at h, hb1⟩
    case round =>
      clear hb1
      rename_i wr
      obtain ⟨k, hkn, rfl, O5, O6, hne, hB⟩ := hrel
      by_cases hlt : k < n
      rotate_left
      · obtain rfl : k = n := by omega
        go_wp2_with fail
        obtain ⟨A5, c5, rfl, R5⟩ := own_slice O5
        obtain ⟨A6, c6, rfl, R6⟩ := own_slice O6
        clear O5 O6 hne
        refine (needed_n _ _ _ _ N _ r wr R5 R6 (by omega)).mono ?_
        rintro e w2 ⟨rfl, hb2⟩
        replace hB := bt hB hb2
        clear R5 R6 hb2
        rcases nd_cases N k r (by omega) with ⟨he, hv⟩ | ⟨V0, he, hv, r0, r1, v1, hS, hburn⟩
        · go_wp2_with fail
          go_ret
          exact ⟨rfl, hB⟩
        have hv' := hv
        generalize Fu.ndV (Fl N 0 k) (Fl N 1 k) r = V at hv' ⊢
        subst hv'
        generalize Fu.ndE (Fl N 0 k) (Fl N 1 k) r = Y at he ⊢
        subst he
        clear hv
        by_cases hV : V = 3000000000
        · subst hV
          have hk : Fu.ck 1 3000000000 r 0 = 2 := Fu.ck_no (fun q => absurd q.2.2.2.1 (by omega))
          go_wp2_with fail
          refine (new_c _ _ _ _).mono ?_
          rintro e w3 ⟨rfl, hb3⟩
          go_wp2_with fail
          go_ret
          exact ⟨rfl, bal (bt hB hb3) _⟩
        have hVb : (V == 3000000000) = false := by simpa using hV
        have hok0 : Fu.ok 1 V r 0 := ⟨by omega, by omega, by omega, by omega, by omega, by omega, by omega, by omega⟩
        have hk := Fu.ck_yes hok0
        have s0 := Fu.sel0
        clear hok0
        go_wp2_with fail
        refine (new_c _ _ _ _).mono ?_
        rintro e w3 ⟨rfl, hb3⟩
        have AA := Blk.new w3 23 #[.int .i64 1, .int .i64 V, .int .i64 r, .int .i64 0]
        have hg := (bt hB hb3).size
        replace hB := bal (bt hB hb3) (.cells #[.int .i64 1, .int .i64 V, .int .i64 r, .int .i64 0] 23)
        have HBU := Lib.hid (hburn (by omega))
        have HS := Lib.hid hS
        clear hburn hS
        go_wp2_with fail
        generalize w3.heap.size = g3 at AA hg ⊢
        go_loopw [10, 61] (fun ve i wr => ∃ (j : Nat), j ≤ k ∧ i = .int .i64 j ∧ ve = .int .i64 0 ∧ Blk wr g3 23 #[.int .i64 1, .int .i64 V, .int .i64 r, .int .i64 (Fu.sumTo (Fl N 0 k) (Fl N 1 k) j)] ∧ Below w.heap.size w wr) (fun _ i _ => k - (intOf i).toNat)
        case atStart => exact ⟨0, Nat.zero_le _, rfl, rfl, AA, hB⟩
        case round =>
          clear AA hB hb3
          rename_i wr
          obtain ⟨j, hj, rfl, rfl, AA, hB⟩ := hrel
          generalize hC : Fu.sumTo (Fl N 0 k) (Fl N 1 k) j = C at AA
          have HC := Lib.hid hC
          clear hC
          obtain ⟨a0, a1, a2, a3, a4, a5⟩ := AA.open4
          by_cases hlj : j < k
          rotate_left
          · obtain rfl : j = k := by omega
            have hSC : V - C = r := by rw [← HC.out]; exact HS.out
            have hok : Fu.ok 1 V r C := ⟨by omega, by omega, by omega, by omega, by omega, by omega, by omega, by omega⟩
            have hkk := Fu.ck_yes hok
            have hlf : Fu.lf 1 V r C = r := by unfold Fu.lf; rw [hkk]; exact hSC
            have hlow : Fu.low 1 V r C = false := by unfold Fu.low; exact decide_eq_false (fun q => by omega)
            clear hok hkk
            go_wp2_with fail
            refine (left_c _ _ _ _ _).mono ?_
            rintro e wL ⟨rfl, hbL⟩
            clear a0 a1 a2 a3 a4 a5
            replace AA := AA.keep hbL
            obtain ⟨a0, a1, a2, a3, a4, a5⟩ := AA.open4
            go_wp2_with fail
            refine (low_c _ _ _ _ _).mono ?_
            rintro e wM ⟨rfl, hbM⟩
            go_wp2_with fail
            go_ret
            exact ⟨rfl, bt (bt hB hbL) hbM⟩
          obtain ⟨b, off, eA, hbl, hc⟩ := HA.out (by omega)
          have u0 : wr.cell? ⟨b, off + j * 2, none⟩ = some (.int .i64 (N j 0)) := ((bcell hB).1 _ _ hbl).trans (by simpa using hc j 0 .i64 (by omega) rfl)
          have u1 : wr.cell? ⟨b, off + j * 2 + 1, none⟩ = some (.int .i64 (N j 1)) := ((bcell hB).1 _ _ hbl).trans (by have := hc j 1 .i64 (by omega) rfl; simpa [Nat.add_assoc] using this)
          rw [eA]
          clear eA hc
          have hbu : Fu.burnE 1 V r C (N j 0) (N j 1) = 0 := by rw [← HC.out]; exact HBU.out j hlj
          have hnx : Fu.sumTo (Fl N 0 k) (Fl N 1 k) (j + 1) = C + N j 0 * N j 1 := by
            simp only [Fu.sumTo]; rw [HC.out, Fl_at hlj, Fl_at hlj]
          have HNX := Lib.hid hnx
          clear hnx
          generalize N j 0 = x at *
          generalize N j 1 = y at *
          go_wp2_with fail
          refine (burn_c _ _ _ _ _ _ _).mono ?_
          rintro e w4 ⟨rfl, hb4⟩
          clear a0 a1 a2 a3 a4 a5
          replace AA := (AA.alloc (.cells #[.int .i64 x, .int .i64 y] 47)).keep hb4
          replace hB := bt (bal hB (.cells #[.int .i64 x, .int .i64 y] 47)) hb4
          obtain ⟨a0, a1, a2, a3, a4, a5⟩ := AA.open4
          go_wp2_with fail
          go_roundw
          case rel =>
            have q := (((AA.set_ 0 (.int .i64 1)).set_ 1 (.int .i64 V)).set_ 2 (.int .i64 r)).set_ 3 (.int .i64 (C + x * y))
            have e := HNX.out
            exact ⟨j + 1, by omega, by go_num, rfl, by rw [e]; simpa using q, bsl (bsl (bsl (bsl hB (p := ⟨g3, 0, none⟩) hg _) (p := ⟨g3, 1, none⟩) hg _) (p := ⟨g3, 2, none⟩) hg _) (p := ⟨g3, 3, none⟩) hg _⟩
          case measure => simp [intOf]; omega
      obtain ⟨b, off, eA, hbl, hc⟩ := HA.out (by omega)
      have u0 : wr.cell? ⟨b, off + k * 2, none⟩ = some (.int .i64 (N k 0)) := ((bcell hB).1 _ _ hbl).trans (by simpa using hc k 0 .i64 hlt rfl)
      have u1 : wr.cell? ⟨b, off + k * 2 + 1, none⟩ = some (.int .i64 (N k 1)) := ((bcell hB).1 _ _ hbl).trans (by have := hc k 1 .i64 hlt rfl; simpa [Nat.add_assoc] using this)
      rw [eA]
      clear eA hc
      go_wp2_with fail
      have U := Blk.new wr 47 #[.int .i64 (N k 0), .int .i64 (N k 1)]
      have Q0 := O5.alloc (.cells #[.int .i64 (N k 0), .int .i64 (N k 1)] 47)
      have Q1 := O6.alloc (.cells #[.int .i64 (N k 0), .int .i64 (N k 1)] 47)
      have q0 := fun j h => (O5.lt j h).2
      have q1 := fun j h => (O6.lt j h).2
      have hsz : (wr.alloc (.cells #[.int .i64 (N k 0), .int .i64 (N k 1)] 47)).heap.size = wr.heap.size + 1 := by simp
      have hB1 := bal hB (.cells #[.int .i64 (N k 0), .int .i64 (N k 1)] 47)
      generalize wr.alloc _ = W0 at U Q0 Q1 hsz hB1 ⊢
      have h0lt : ∀ j, some (W0.heap.size + j) ≠ u5.ownBlock := fun j e => by have := q0 _ e.symm; omega
      have h1lt : ∀ j, some (W0.heap.size + j) ≠ u6.ownBlock := fun j e => by have := q1 _ e.symm; omega
      have hg0 : some wr.heap.size ≠ u5.ownBlock := fun e => by have := q0 _ e.symm; omega
      have hg1 : some wr.heap.size ≠ u6.ownBlock := fun e => by have := q1 _ e.symm; omega
      have hbs := hB1.size
      have d1 : u6.ownBlock = none ∨ u6.ownBlock ≠ u5.ownBlock := by
        rcases h5 : u6.ownBlock with _ | g
        · exact Or.inl rfl
        · exact Or.inr (fun e => hne g e.symm h5)
      have d0 : u5.ownBlock = none ∨ u5.ownBlock ≠ u6.ownBlock := by
        rcases h5 : u5.ownBlock with _ | g
        · exact Or.inl rfl
        · exact Or.inr (fun e => hne g h5 e.symm)
      clear hsz
      go_region_held3 (fun w' => w'.cell? ⟨wr.heap.size, 0, none⟩ = some (.int .i64 (N k 0)) ∧ w'.cell? ⟨wr.heap.size, 1, none⟩ = some (.int .i64 (N k 1))) (exact (fun h => ⟨Blk.cell h 0, Blk.cell h 1⟩) (show Blk _ wr.heap.size 47 #[.int .i64 (N k 0), .int .i64 (N k 1)] by repeat (first | exact U | exact V0 | exact V1 | apply Blk.alloc | apply Blk.drew))) (first | ((refine step_app1 _ (by rfl) (.tmp 27) (.tmp 30) 34 (by rfl) w.heap.size 2 i0 Try.underlying34 hi0 hz0 hz1 hz2 u5 k (colN N 0 k) (N k 0) _ _ (by rfl) (by rfl) (by repeat (first | exact Q0 | exact Z0 | apply World.ownsRow.alloc | apply World.ownsRow.drew)) (by first | (simp; done) | exact Y0 _ _ (by simp; done) (by first | exact h1lt 0 | exact h1lt 1)) (by omega) (by first | (simp; omega) | (have := X0; simp at this ⊢; omega)) ?_; intro v0 w0 P0 G0 L0; have V0 := Blk.grown (by repeat (first | exact U | exact V0 | exact V1 | apply Blk.alloc | apply Blk.drew)) G0 hg0; have B0 := Below.grown (B := w.heap.size) (a := w) (by repeat (first | exact hB1 | exact B0 | exact B1 | apply bal | apply Below.drew)) G0 (by first | (simp; omega) | (have := X0; simp at this ⊢; omega)) (fun j h => (Q0.lt j h).1); (try (have D1 := (newd L1 d1 (by first | (simpa using h0lt 1) | (simpa using h0lt 2))); have R1 := World.ownsRow.kept (v := v1) (by repeat (first | exact P1 | apply World.ownsRow.alloc | apply World.ownsRow.drew)) G0 (newd L1 d1 (by first | (simpa using h0lt 1) | (simpa using h0lt 2))); have M1 := P1.lt)); (try (have Z1 := World.ownsRow.kept (by repeat (first | exact Q1 | apply World.ownsRow.alloc | apply World.ownsRow.drew)) G0 d1; have Y1 := fun X u h hx => World.grownBy.cell G0 (a := ⟨X, 0, none⟩) (v := u) h hx; have X1 := G0.size)))) | ((refine step_app1 _ (by rfl) (.tmp 32) (.tmp 35) 34 (by rfl) w.heap.size 2 i0 Try.underlying34 hi0 hz0 hz1 hz2 u6 k (colN N 1 k) (N k 1) _ _ (by rfl) (by rfl) (by repeat (first | exact Q1 | exact Z1 | apply World.ownsRow.alloc | apply World.ownsRow.drew)) (by first | (simp; done) | exact Y1 _ _ (by simp; done) (by first | exact h0lt 0 | exact h0lt 1)) (by omega) (by first | (simp; omega) | (have := X1; simp at this ⊢; omega)) ?_; intro v1 w1 P1 G1 L1; have V1 := Blk.grown (by repeat (first | exact U | exact V0 | exact V1 | apply Blk.alloc | apply Blk.drew)) G1 hg1; have B1 := Below.grown (B := w.heap.size) (a := w) (by repeat (first | exact hB1 | exact B0 | exact B1 | apply bal | apply Below.drew)) G1 (by first | (simp; omega) | (have := X1; simp at this ⊢; omega)) (fun j h => (Q1.lt j h).1); (try (have D0 := (newd L0 d0 (by first | (simpa using h1lt 1) | (simpa using h1lt 2))); have R0 := World.ownsRow.kept (v := v0) (by repeat (first | exact P0 | apply World.ownsRow.alloc | apply World.ownsRow.drew)) G1 (newd L0 d0 (by first | (simpa using h1lt 1) | (simpa using h1lt 2))); have M0 := P0.lt)); (try (have Z0 := World.ownsRow.kept (by repeat (first | exact Q0 | apply World.ownsRow.alloc | apply World.ownsRow.drew)) G1 d0; have Y0 := fun X u h hx => World.grownBy.cell G1 (a := ⟨X, 0, none⟩) (v := u) h hx; have X0 := G1.size)))))
      all_goals
        have hnn : ∀ g, v0.ownBlock = some g → v1.ownBlock ≠ some g := by
          intro g e0 e1
          have m := (P0.lt g e0).2
          rcases L1 with h | h
          · rw [e1] at h
            rcases D0 with h2 | h2
            · rw [e0] at h2; cases h2
            · exact h2 (e0.trans h.symm)
          · rw [e1] at h
            simp at h
            omega
        rw [← colN_succ] at P1 R0
        go_wp2
        go_roundw
        case rel => exact ⟨k + 1, by omega, by go_num, R0, P1, hnn, B1⟩
        case measure => simp [intOf]; omega
  · have hmin : min (↑n : Int) 40 = 40 := by omega
    go_enter Try.func8, Try.ntmps8
    go_wp2_with fail
    refine (awake_c _).mono ?_
    rintro e w1 ⟨rfl, hb1⟩
    go_wp2_with fail
    go_loopw [5, 6, 23] (fun v5 v6 i wr => ∃ (k : Nat), k ≤ 40 ∧ i = .int .i64 k ∧ wr.ownsRow w.heap.size 2 1 v5 k (colN N 0 k) ∧ wr.ownsRow w.heap.size 2 1 v6 k (colN N 1 k) ∧ (∀ g, v5.ownBlock = some g → v6.ownBlock ≠ some g) ∧ Below w.heap.size w wr) (fun _ _ i _ => 40 - (intOf i).toNat)
    case atStart => exact ⟨0, Nat.zero_le _, rfl, World.ownsRow_nil _ _ _ _, World.ownsRow_nil _ _ _ _, fun g h => by simp [Value.ownBlock] at h, hb1⟩
    case round =>
      clear hb1
      rename_i wr
      obtain ⟨k, hkn, rfl, O5, O6, hne, hB⟩ := hrel
      by_cases hlt : k < 40
      rotate_left
      · obtain rfl : k = 40 := by omega
        go_wp2_with fail
        obtain ⟨A5, c5, rfl, R5⟩ := own_slice O5
        obtain ⟨A6, c6, rfl, R6⟩ := own_slice O6
        clear O5 O6 hne
        refine (needed_n _ _ _ _ N _ r wr R5 R6 (by omega)).mono ?_
        rintro e w2 ⟨rfl, hb2⟩
        replace hB := bt hB hb2
        clear R5 R6 hb2
        rcases nd_cases N 40 r (by omega) with ⟨he, hv⟩ | ⟨V0, he, hv, r0, r1, v1, hS, hburn⟩
        · go_wp2_with fail
          go_ret
          exact ⟨rfl, hB⟩
        have hv' := hv
        generalize Fu.ndV (Fl N 0 40) (Fl N 1 40) r = V at hv' ⊢
        subst hv'
        generalize Fu.ndE (Fl N 0 40) (Fl N 1 40) r = Y at he ⊢
        subst he
        clear hv
        by_cases hV : V = 3000000000
        · subst hV
          have hk : Fu.ck 1 3000000000 r 0 = 2 := Fu.ck_no (fun q => absurd q.2.2.2.1 (by omega))
          go_wp2_with fail
          refine (new_c _ _ _ _).mono ?_
          rintro e w3 ⟨rfl, hb3⟩
          go_wp2_with fail
          go_ret
          exact ⟨rfl, bal (bt hB hb3) _⟩
        have hVb : (V == 3000000000) = false := by simpa using hV
        have hok0 : Fu.ok 1 V r 0 := ⟨by omega, by omega, by omega, by omega, by omega, by omega, by omega, by omega⟩
        have hk := Fu.ck_yes hok0
        have s0 := Fu.sel0
        clear hok0
        go_wp2_with fail
        refine (new_c _ _ _ _).mono ?_
        rintro e w3 ⟨rfl, hb3⟩
        have AA := Blk.new w3 23 #[.int .i64 1, .int .i64 V, .int .i64 r, .int .i64 0]
        have hg := (bt hB hb3).size
        replace hB := bal (bt hB hb3) (.cells #[.int .i64 1, .int .i64 V, .int .i64 r, .int .i64 0] 23)
        have HBU := Lib.hid (hburn (by omega))
        have HS := Lib.hid hS
        clear hburn hS
        go_wp2_with fail
        generalize w3.heap.size = g3 at AA hg ⊢
        go_loopw [10, 61] (fun ve i wr => ∃ (j : Nat), j ≤ 40 ∧ i = .int .i64 j ∧ ve = .int .i64 0 ∧ Blk wr g3 23 #[.int .i64 1, .int .i64 V, .int .i64 r, .int .i64 (Fu.sumTo (Fl N 0 40) (Fl N 1 40) j)] ∧ Below w.heap.size w wr) (fun _ i _ => 40 - (intOf i).toNat)
        case atStart => exact ⟨0, Nat.zero_le _, rfl, rfl, AA, hB⟩
        case round =>
          clear AA hB hb3
          rename_i wr
          obtain ⟨j, hj, rfl, rfl, AA, hB⟩ := hrel
          generalize hC : Fu.sumTo (Fl N 0 40) (Fl N 1 40) j = C at AA
          have HC := Lib.hid hC
          clear hC
          obtain ⟨a0, a1, a2, a3, a4, a5⟩ := AA.open4
          by_cases hlj : j < 40
          rotate_left
          · obtain rfl : j = 40 := by omega
            have hSC : V - C = r := by rw [← HC.out]; exact HS.out
            have hok : Fu.ok 1 V r C := ⟨by omega, by omega, by omega, by omega, by omega, by omega, by omega, by omega⟩
            have hkk := Fu.ck_yes hok
            have hlf : Fu.lf 1 V r C = r := by unfold Fu.lf; rw [hkk]; exact hSC
            have hlow : Fu.low 1 V r C = false := by unfold Fu.low; exact decide_eq_false (fun q => by omega)
            clear hok hkk
            go_wp2_with fail
            refine (left_c _ _ _ _ _).mono ?_
            rintro e wL ⟨rfl, hbL⟩
            clear a0 a1 a2 a3 a4 a5
            replace AA := AA.keep hbL
            obtain ⟨a0, a1, a2, a3, a4, a5⟩ := AA.open4
            go_wp2_with fail
            refine (low_c _ _ _ _ _).mono ?_
            rintro e wM ⟨rfl, hbM⟩
            go_wp2_with fail
            go_ret
            exact ⟨rfl, bt (bt hB hbL) hbM⟩
          obtain ⟨b, off, eA, hbl, hc⟩ := HA.out (by omega)
          have u0 : wr.cell? ⟨b, off + j * 2, none⟩ = some (.int .i64 (N j 0)) := ((bcell hB).1 _ _ hbl).trans (by simpa using hc j 0 .i64 (by omega) rfl)
          have u1 : wr.cell? ⟨b, off + j * 2 + 1, none⟩ = some (.int .i64 (N j 1)) := ((bcell hB).1 _ _ hbl).trans (by have := hc j 1 .i64 (by omega) rfl; simpa [Nat.add_assoc] using this)
          rw [eA]
          clear eA hc
          have hbu : Fu.burnE 1 V r C (N j 0) (N j 1) = 0 := by rw [← HC.out]; exact HBU.out j hlj
          have hnx : Fu.sumTo (Fl N 0 40) (Fl N 1 40) (j + 1) = C + N j 0 * N j 1 := by
            simp only [Fu.sumTo]; rw [HC.out, Fl_at hlj, Fl_at hlj]
          have HNX := Lib.hid hnx
          clear hnx
          generalize N j 0 = x at *
          generalize N j 1 = y at *
          go_wp2_with fail
          refine (burn_c _ _ _ _ _ _ _).mono ?_
          rintro e w4 ⟨rfl, hb4⟩
          clear a0 a1 a2 a3 a4 a5
          replace AA := (AA.alloc (.cells #[.int .i64 x, .int .i64 y] 47)).keep hb4
          replace hB := bt (bal hB (.cells #[.int .i64 x, .int .i64 y] 47)) hb4
          obtain ⟨a0, a1, a2, a3, a4, a5⟩ := AA.open4
          go_wp2_with fail
          go_roundw
          case rel =>
            have q := (((AA.set_ 0 (.int .i64 1)).set_ 1 (.int .i64 V)).set_ 2 (.int .i64 r)).set_ 3 (.int .i64 (C + x * y))
            have e := HNX.out
            exact ⟨j + 1, by omega, by go_num, rfl, by rw [e]; simpa using q, bsl (bsl (bsl (bsl hB (p := ⟨g3, 0, none⟩) hg _) (p := ⟨g3, 1, none⟩) hg _) (p := ⟨g3, 2, none⟩) hg _) (p := ⟨g3, 3, none⟩) hg _⟩
          case measure => simp [intOf]; omega
      obtain ⟨b, off, eA, hbl, hc⟩ := HA.out (by omega)
      have u0 : wr.cell? ⟨b, off + k * 2, none⟩ = some (.int .i64 (N k 0)) := ((bcell hB).1 _ _ hbl).trans (by simpa using hc k 0 .i64 (by omega) rfl)
      have u1 : wr.cell? ⟨b, off + k * 2 + 1, none⟩ = some (.int .i64 (N k 1)) := ((bcell hB).1 _ _ hbl).trans (by have := hc k 1 .i64 (by omega) rfl; simpa [Nat.add_assoc] using this)
      rw [eA]
      clear eA hc
      go_wp2_with fail
      have U := Blk.new wr 47 #[.int .i64 (N k 0), .int .i64 (N k 1)]
      have Q0 := O5.alloc (.cells #[.int .i64 (N k 0), .int .i64 (N k 1)] 47)
      have Q1 := O6.alloc (.cells #[.int .i64 (N k 0), .int .i64 (N k 1)] 47)
      have q0 := fun j h => (O5.lt j h).2
      have q1 := fun j h => (O6.lt j h).2
      have hsz : (wr.alloc (.cells #[.int .i64 (N k 0), .int .i64 (N k 1)] 47)).heap.size = wr.heap.size + 1 := by simp
      have hB1 := bal hB (.cells #[.int .i64 (N k 0), .int .i64 (N k 1)] 47)
      generalize wr.alloc _ = W0 at U Q0 Q1 hsz hB1 ⊢
      have h0lt : ∀ j, some (W0.heap.size + j) ≠ u5.ownBlock := fun j e => by have := q0 _ e.symm; omega
      have h1lt : ∀ j, some (W0.heap.size + j) ≠ u6.ownBlock := fun j e => by have := q1 _ e.symm; omega
      have hg0 : some wr.heap.size ≠ u5.ownBlock := fun e => by have := q0 _ e.symm; omega
      have hg1 : some wr.heap.size ≠ u6.ownBlock := fun e => by have := q1 _ e.symm; omega
      have hbs := hB1.size
      have d1 : u6.ownBlock = none ∨ u6.ownBlock ≠ u5.ownBlock := by
        rcases h5 : u6.ownBlock with _ | g
        · exact Or.inl rfl
        · exact Or.inr (fun e => hne g e.symm h5)
      have d0 : u5.ownBlock = none ∨ u5.ownBlock ≠ u6.ownBlock := by
        rcases h5 : u5.ownBlock with _ | g
        · exact Or.inl rfl
        · exact Or.inr (fun e => hne g h5 e.symm)
      clear hsz
      go_region_held3 (fun w' => w'.cell? ⟨wr.heap.size, 0, none⟩ = some (.int .i64 (N k 0)) ∧ w'.cell? ⟨wr.heap.size, 1, none⟩ = some (.int .i64 (N k 1))) (exact (fun h => ⟨Blk.cell h 0, Blk.cell h 1⟩) (show Blk _ wr.heap.size 47 #[.int .i64 (N k 0), .int .i64 (N k 1)] by repeat (first | exact U | exact V0 | exact V1 | apply Blk.alloc | apply Blk.drew))) (first | ((refine step_app1 _ (by rfl) (.tmp 27) (.tmp 30) 34 (by rfl) w.heap.size 2 i0 Try.underlying34 hi0 hz0 hz1 hz2 u5 k (colN N 0 k) (N k 0) _ _ (by rfl) (by rfl) (by repeat (first | exact Q0 | exact Z0 | apply World.ownsRow.alloc | apply World.ownsRow.drew)) (by first | (simp; done) | exact Y0 _ _ (by simp; done) (by first | exact h1lt 0 | exact h1lt 1)) (by omega) (by first | (simp; omega) | (have := X0; simp at this ⊢; omega)) ?_; intro v0 w0 P0 G0 L0; have V0 := Blk.grown (by repeat (first | exact U | exact V0 | exact V1 | apply Blk.alloc | apply Blk.drew)) G0 hg0; have B0 := Below.grown (B := w.heap.size) (a := w) (by repeat (first | exact hB1 | exact B0 | exact B1 | apply bal | apply Below.drew)) G0 (by first | (simp; omega) | (have := X0; simp at this ⊢; omega)) (fun j h => (Q0.lt j h).1); (try (have D1 := (newd L1 d1 (by first | (simpa using h0lt 1) | (simpa using h0lt 2))); have R1 := World.ownsRow.kept (v := v1) (by repeat (first | exact P1 | apply World.ownsRow.alloc | apply World.ownsRow.drew)) G0 (newd L1 d1 (by first | (simpa using h0lt 1) | (simpa using h0lt 2))); have M1 := P1.lt)); (try (have Z1 := World.ownsRow.kept (by repeat (first | exact Q1 | apply World.ownsRow.alloc | apply World.ownsRow.drew)) G0 d1; have Y1 := fun X u h hx => World.grownBy.cell G0 (a := ⟨X, 0, none⟩) (v := u) h hx; have X1 := G0.size)))) | ((refine step_app1 _ (by rfl) (.tmp 32) (.tmp 35) 34 (by rfl) w.heap.size 2 i0 Try.underlying34 hi0 hz0 hz1 hz2 u6 k (colN N 1 k) (N k 1) _ _ (by rfl) (by rfl) (by repeat (first | exact Q1 | exact Z1 | apply World.ownsRow.alloc | apply World.ownsRow.drew)) (by first | (simp; done) | exact Y1 _ _ (by simp; done) (by first | exact h0lt 0 | exact h0lt 1)) (by omega) (by first | (simp; omega) | (have := X1; simp at this ⊢; omega)) ?_; intro v1 w1 P1 G1 L1; have V1 := Blk.grown (by repeat (first | exact U | exact V0 | exact V1 | apply Blk.alloc | apply Blk.drew)) G1 hg1; have B1 := Below.grown (B := w.heap.size) (a := w) (by repeat (first | exact hB1 | exact B0 | exact B1 | apply bal | apply Below.drew)) G1 (by first | (simp; omega) | (have := X1; simp at this ⊢; omega)) (fun j h => (Q1.lt j h).1); (try (have D0 := (newd L0 d0 (by first | (simpa using h1lt 1) | (simpa using h1lt 2))); have R0 := World.ownsRow.kept (v := v0) (by repeat (first | exact P0 | apply World.ownsRow.alloc | apply World.ownsRow.drew)) G1 (newd L0 d0 (by first | (simpa using h1lt 1) | (simpa using h1lt 2))); have M0 := P0.lt)); (try (have Z0 := World.ownsRow.kept (by repeat (first | exact Q0 | apply World.ownsRow.alloc | apply World.ownsRow.drew)) G1 d0; have Y0 := fun X u h hx => World.grownBy.cell G1 (a := ⟨X, 0, none⟩) (v := u) h hx; have X0 := G1.size)))))
      all_goals
        have hnn : ∀ g, v0.ownBlock = some g → v1.ownBlock ≠ some g := by
          intro g e0 e1
          have m := (P0.lt g e0).2
          rcases L1 with h | h
          · rw [e1] at h
            rcases D0 with h2 | h2
            · rw [e0] at h2; cases h2
            · exact h2 (e0.trans h.symm)
          · rw [e1] at h
            simp at h
            omega
        rw [← colN_succ] at P1 R0
        go_wp2
        go_roundw
        case rel => exact ⟨k + 1, by omega, by go_num, R0, P1, hnn, B1⟩
        case measure => simp [intOf]; omega

end Go.Proofs.Ytoebjiocmnonnaa
