/-
  Contract: the reference's labels.
-/
import Derived.Test.YtbmfkncfenkjoaaR0
import Derived.Test.YtbmfkncfenkjoaaW2
import Derived.Deep.DeepCutAuto
import Derived.Deep.DrawnRows
namespace Go.Proofs.Ytbmfkncfenkjoaa
set_option linter.unusedVariables false
set_option linter.unusedSimpArgs false
open Go.RowKit
attribute [local irreducible] World.setCell World.cell?

set_option maxRecDepth 100000 in
set_option maxHeartbeats 4000000 in
theorem rlabels_c (A : Option Addr) (n m c : Nat) (E : Ce.Tab) (s : Nat) (w : World) (T : Rd w 3 A m c (iv E)) (O : Ce.Ok (n : Int) m E) (hs : s < n) : Calls Try.prog 36 #[.agg #[.int .i64 (n : Int), .slice A m c], .int .i64 (s : Int)] w fun e w' => ∃ (C D : Nat → Int) (g h : Nat), Hid (Ce.Bf n m E s C D) ∧ Hid (Ce.Lab n m E s (Ce.fin C) D) ∧ e = .returned (.tuple #[.slice (some ⟨g, 0, none⟩) n n, .slice (some ⟨h, 0, none⟩) n n]) ∧ g ≠ h ∧ Own w' w.heap.size 2 1 (some ⟨g, 0, none⟩) n n (nv C) ∧ Own w' w.heap.size 2 1 (some ⟨h, 0, none⟩) n n (nv D) ∧ Below w.heap.size w w' := by
  have o1 := O.n1
  have o2 := O.n2
  have o3 := O.hm
  have r1 := T.le
  have r2 := T.mx
  have hn1 : 1 ≤ n := by omega
  have hn2 : n ≤ 512 := by omega
  have hmk := mk_i6 n hn2
  go_enter Try.func36, Try.ntmps36
  try simp only [List.append_eq, List.cons_append, List.nil_append]
  have Gb := Blk.new w 24 #[.int .i64 (n), .slice A m c]
  have hB := ba w (.cells #[.int .i64 (n), .slice A m c] 24)
  have hsz0 : w.heap.size < (World.alloc w (.cells #[.int .i64 (n), .slice A m c] 24)).heap.size := by simp
  go_upto_region 1 with fail
  generalize World.alloc w _ = wS at Gb hB hsz0 ⊢
  obtain ⟨c00, c01, c02, c03⟩ := Gb.open2
  go_cut [6, 7] from 14 to 19 (fun s_ t_ wx => ∃ g h : Nat, s_ = .slice (some ⟨g, 0, none⟩) n n ∧ t_ = .slice (some ⟨h, 0, none⟩) n n ∧ g ≠ h ∧ Own wx wS.heap.size 2 1 (some ⟨g, 0, none⟩) n n (nv fun _ => 0) ∧ Own wx wS.heap.size 2 1 (some ⟨h, 0, none⟩) n n (nv fun _ => 0) ∧ Blk wx w.heap.size 24 #[.int .i64 (n), .slice A m c] ∧ Below wS.heap.size wS wx)
  case first =>
    go_region
    all_goals
      go_wp2
      go_meet
      obtain ⟨q1, q2⟩ := two_i6 wS n hn2
      have gb := ((Gb.alloc (.cells (madeCells #[.int .i64 0] n) 2)).alloc (.cells (madeCells #[.int .i64 0] n) 2)).drew
      first
        | exact ⟨_, _, rfl, rfl, by omega, q1.drew, q2.drew, gb, by repeat (first | exact Below.refl _ _ | (with_reducible assumption) | (with_reducible apply bal) | (with_reducible apply bdr) | (with_reducible apply bdnl) | (with_reducible refine bst ?_ (by first | (simp; done) | (simp; omega) | omega) _) | (with_reducible refine bt ?_ (by with_reducible assumption)))⟩
        | exact ⟨_, _, rfl, rfl, by omega, q2.drew, q1.drew, gb, by repeat (first | exact Below.refl _ _ | (with_reducible assumption) | (with_reducible apply bal) | (with_reducible apply bdr) | (with_reducible apply bdnl) | (with_reducible refine bst ?_ (by first | (simp; done) | (simp; omega) | omega) _) | (with_reducible refine bt ?_ (by with_reducible assumption)))⟩
  case rest =>
    clear c00 c01 c02 c03 Gb hmk
    obtain ⟨g, h, rfl, rfl, hne, q1, q2, Gb, hb⟩ := hcut
    have hg0 : wS.heap.size ≤ g := q1.base rfl
    have hh0 : wS.heap.size ≤ h := q2.base rfl
    go_wp2_with fail
    go_loopw [22] (fun i wr => ∃ k : Nat, k ≤ n ∧ i = .int .i64 k ∧ Own wr wS.heap.size 2 1 (some ⟨g, 0, none⟩) n n (nv fun v => if v < k then 4611686018427387904 else 0) ∧ Own wr wS.heap.size 2 1 (some ⟨h, 0, none⟩) n n (nv fun v => if v < k then 4611686018427387904 else 0) ∧ Blk wr w.heap.size 24 #[.int .i64 (n), .slice A m c] ∧ Below wS.heap.size wS wr) (fun i _ => n - (intOf i).toNat)
    case atStart => exact ⟨0, Nat.zero_le _, rfl, q1.congr (fun a j ha hj => by simp [nv]), q2.congr (fun a j ha hj => by simp [nv]), Gb, hb⟩
    case round =>
      clear q1 q2 Gb hb
      obtain ⟨k, hk, rfl, q1, q2, Gb, hb⟩ := hrel
      by_cases hlt : k < n
      · have y1 := q1.cell1 hlt
        have y2 := q2.cell1 hlt
        have z1 := q1.frozen
        have z2 := q2.frozen
        have gl := q1.lt1
        have hl := q2.lt1
        have Q1 := Lib.hid (((q1.up1 hlt (4611686018427387904)).far (p := ⟨h, k, none⟩) (.inr (by simp [ob]; omega)) (.int .i64 (4611686018427387904))).congr (V' := nv (fun v => if v < k + 1 then 4611686018427387904 else 0)) (fun i j _ _ => by unfold nv; simp only [Ce.up]; congr 1; (repeat' split) <;> omega))
        have Q2 := Lib.hid (((q2.far (p := ⟨g, k, none⟩) (.inr (by simp [ob]; omega)) (.int .i64 (4611686018427387904))).up1 hlt (4611686018427387904)).congr (V' := nv (fun v => if v < k + 1 then 4611686018427387904 else 0)) (fun i j _ _ => by unfold nv; simp only [Ce.up]; congr 1; (repeat' split) <;> omega))
        have GB2 := Lib.hid ((Gb.far (p := ⟨g, k, none⟩) (by simp; omega) (.int .i64 (4611686018427387904))).far (p := ⟨h, k, none⟩) (by simp; omega) (.int .i64 (4611686018427387904)))
        have HB2 := Lib.hid (bst (bst hb (p := ⟨g, k, none⟩) hg0 (.int .i64 (4611686018427387904))) (p := ⟨h, k, none⟩) hh0 (.int .i64 (4611686018427387904)))
        go_wp2_with fail
        go_roundw
        case rel => exact ⟨k + 1, by omega, by go_num, Q1.out, Q2.out, GB2.out, HB2.out⟩
        case measure => simp [intOf]; omega
      · obtain rfl : k = n := by omega
        have i1 : (0 : Int) ≤ (s : Int) := by omega
        have i2 : (s : Int) < (k : Int) := by omega
        have y1 := q1.cell1 hs
        have y2 := q2.cell1 hs
        have z1 := q1.frozen
        have z2 := q2.frozen
        have gl := q1.lt1
        have hl := q2.lt1
        have Q1 := Lib.hid (((q1.up1 hs (0)).far (p := ⟨h, s, none⟩) (.inr (by simp [ob]; omega)) (.int .i64 (0))).congr (V' := nv (Ce.up (fun _ => 4611686018427387904) s 0)) (fun i j hi _ => by unfold nv; simp only [Ce.up]; congr 1; (repeat' split) <;> omega))
        have Q2 := Lib.hid (((q2.far (p := ⟨g, s, none⟩) (.inr (by simp [ob]; omega)) (.int .i64 (0))).up1 hs (0)).congr (V' := nv (Ce.up (fun _ => 4611686018427387904) s 0)) (fun i j hi _ => by unfold nv; simp only [Ce.up]; congr 1; (repeat' split) <;> omega))
        have GB2 := Lib.hid ((Gb.far (p := ⟨g, s, none⟩) (by simp; omega) (.int .i64 (0))).far (p := ⟨h, s, none⟩) (by simp; omega) (.int .i64 (0)))
        have HB2 := Lib.hid (bst (bst hb (p := ⟨g, s, none⟩) hg0 (.int .i64 (0))) (p := ⟨h, s, none⟩) hh0 (.int .i64 (0)))
        have hbf := Lib.hid (Ce.Bf.start k m E s)
        go_wp2_with fail
        clear q1 q2 Gb hb y1 y2 z1 z2 i1 i2 gl hl
        generalize hZ : Ce.up (fun _ => (4611686018427387904 : Int)) s 0 = Z0 at Q1 Q2 hbf
        clear hZ
        go_loopg [9] ((Ce.mu Z0 Z0 k).toNat + 1) (fun gg ag wr => ∃ (C D : Nat → Int) (b : Bool), ag = .bool b ∧ (b = true → (Ce.mu C D k).toNat + 1 ≤ gg) ∧ Hid (Ce.Bf k m E s C D) ∧ Hid (b = false → ∀ i, i < m → Ce.Stab E C D i) ∧ Own wr wS.heap.size 2 1 (some ⟨g, 0, none⟩) k k (nv C) ∧ Own wr wS.heap.size 2 1 (some ⟨h, 0, none⟩) k k (nv D) ∧ Blk wr w.heap.size 24 #[.int .i64 (k), .slice A m c] ∧ Below wS.heap.size wS wr)
        case atStart => exact ⟨Z0, Z0, true, rfl, fun _ => Nat.le_refl _, hbf, Lib.hid (fun q => by cases q), Q1.out, Q2.out, GB2.out, HB2.out⟩
        case round =>
          clear Q1 Q2 GB2 HB2 hbf
          obtain ⟨C, D, b, rfl, hgk, hBf, hSt, q1, q2, Gb, hb⟩ := hrel
          have hfr : ∀ i, i < m → Ce.fr E i < k := fun i hi => by unfold Ce.fr; have := (O.e i hi).f0; have := (O.e i hi).f1; omega
          have hto : ∀ i, i < m → Ce.«to» E i < k := fun i hi => by unfold Ce.«to»; have := (O.e i hi).t0; have := (O.e i hi).t1; omega
          have HFR := Lib.hid hfr
          have HTO := Lib.hid hto
          clear hfr hto
          cases b
          · have HL := Lib.hid (hBf.out.done HFR.out HTO.out (fun i hi => hSt.out rfl i hi) hn2 (fun i hi => (O.e i hi).c0) (fun i hi => (O.e i hi).c1))
            go_wp2_with fail
            go_returns
            first
              | exact ⟨C, D, hBf, HL, g, h, rfl, hne, q1.more hB.size, q2.more hB.size, bt hB hb⟩
              | exact ⟨C, D, hBf, HL, hne, q1.more hB.size, q2.more hB.size, bt hB hb⟩
          have hgk2 := hgk rfl
          clear hgk hSt
          obtain ⟨c0, c1, c2, c3⟩ := Gb.open2
          go_wp2_with fail
          clear c0 c1 c2 c3
          go_loopw [9, 42] (fun ag i wr => ∃ (X Y : Nat → Int) (b : Bool) (j : Nat), j ≤ m ∧ i = .int .i64 j ∧ ag = .bool b ∧ Hid (Ce.Bf k m E s X Y) ∧ Hid (Ce.mu X Y k ≤ Ce.mu C D k ∧ (b = true → Ce.mu X Y k < Ce.mu C D k)) ∧ Hid (b = false → ∀ i, i < j → Ce.Stab E X Y i) ∧ Own wr wS.heap.size 2 1 (some ⟨g, 0, none⟩) k k (nv X) ∧ Own wr wS.heap.size 2 1 (some ⟨h, 0, none⟩) k k (nv Y) ∧ Blk wr w.heap.size 24 #[.int .i64 (k), .slice A m c] ∧ Below wS.heap.size wS wr) (fun _ i _ => m - (intOf i).toNat)
          case atStart => exact ⟨C, D, false, 0, Nat.zero_le _, rfl, rfl, hBf, Lib.hid ⟨Int.le_refl _, fun q => by cases q⟩, Lib.hid (fun _ i hi => absurd hi (Nat.not_lt_zero _)), q1, q2, Gb, hb⟩
          case round =>
            clear q1 q2 Gb hb
            obtain ⟨X, Y, b, j, hj, rfl, rfl, hX, hmu, hst, q1, q2, Gb, hb⟩ := hrel
            by_cases hlt : j < m
            · have he := O.e j hlt
              obtain ⟨a, ea⟩ : ∃ x : Nat, E j 0 = (x : Int) := ⟨(E j 0).toNat, by have := he.f0; omega⟩
              obtain ⟨t, et⟩ : ∃ x : Nat, E j 1 = (x : Int) := ⟨(E j 1).toNat, by have := he.t0; omega⟩
              have hak : a < k := by have := he.f1; omega
              have htk : t < k := by have := he.t1; omega
              have hfa : Ce.fr E j = a := by unfold Ce.fr; omega
              have hta : Ce.«to» E j = t := by unfold Ce.«to»; omega
              have ec0 := he.c0
              have ec1 := he.c1
              have ba := hX.out.ab hn2 hak
              have bt_ := hX.out.ab hn2 htk
              obtain ⟨b3, off3, eB, hbl3, v0, v1, v2⟩ := (T.keep (bt hB hb)).at3 hlt
              rw [ea] at v0
              rw [et] at v1
              have HB := Lib.hid eB
              have FA := Lib.hid hfa
              have TA := Lib.hid hta
              rw [HB.out] at Gb ⊢
              clear eB he ea et hfa hta
              have x1 := q1.cell1 hak
              have x2 := q2.cell1 hak
              have w1_ := q1.cell1 htk
              have w2_ := q2.cell1 htk
              have gl := q1.lt1
              have hl := q2.lt1
              have i1 : (0 : Int) ≤ (a : Int) := by omega
              have i2 : (a : Int) < (k : Int) := by omega
              have i3 : (0 : Int) ≤ (t : Int) := by omega
              have i4 : (t : Int) < (k : Int) := by omega
              have gle := hb.size
              have XB := Blk.new wr 59 #[.int .i64 a, .int .i64 t, .int .i64 (E j 2)]
              obtain ⟨d0, d1, d2, d3, d4⟩ := XB.open3
              replace q1 := q1.alloc (.cells #[.int .i64 a, .int .i64 t, .int .i64 (E j 2)] 59)
              replace q2 := q2.alloc (.cells #[.int .i64 a, .int .i64 t, .int .i64 (E j 2)] 59)
              replace Gb := Gb.alloc (.cells #[.int .i64 a, .int .i64 t, .int .i64 (E j 2)] 59)
              replace hb := bal hb (.cells #[.int .i64 a, .int .i64 t, .int .i64 (E j 2)] 59)
              by_cases hN : X a = 4611686018427387904
              · have h1 : (X a == 4611686018427387904) = true := by simpa using hN
                have HS := Lib.hid (show b = false → ∀ i, i < j + 1 → Ce.Stab E X Y i from fun q i hi => by
                  by_cases e : i = j
                  · subst e; unfold Ce.Stab; rw [FA.out, TA.out]; exact fun z => absurd hN z
                  · exact hst.out q i (by omega))
                clear hN
                go_wp2_with fail
                go_roundw
                case rel => exact ⟨X, Y, b, j + 1, by omega, by go_num, rfl, hX, hmu, HS, q1, q2, (by first | exact Gb | (rw [HB.out]; exact Gb)), hb⟩
                case measure => simp [intOf]; omega
              have h1 : (X a == 4611686018427387904) = false := by simpa using hN
              have bX := ba.2.2.2.2 hN
              by_cases k1 : X a + E j 2 < X t
              · skip
                have hlow := hX.out.lower hn2 hlt ec0 ec1 (by rw [FA.out]; exact hak) (by rw [TA.out]; exact htk) (by rw [FA.out]; exact hN) (by rw [FA.out, TA.out]; unfold Ce.lt2; omega)
                have hml := hX.out.mu_lt hn2 (i := j) ec0 ec1 (by rw [FA.out]; exact hak) (by rw [TA.out]; exact htk) (by rw [FA.out]; exact hN) (by rw [FA.out, TA.out]; unfold Ce.lt2; omega)
                rw [FA.out, TA.out] at hlow hml
                have HLO := Lib.hid hlow
                have HMU := Lib.hid (show Ce.mu (Ce.up X t (X a + E j 2)) (Ce.up Y t (Y a + 1)) k ≤ Ce.mu C D k ∧ (true = true → Ce.mu (Ce.up X t (X a + E j 2)) (Ce.up Y t (Y a + 1)) k < Ce.mu C D k) from ⟨by have := hmu.out.1; omega, fun _ => by have := hmu.out.1; omega⟩)
                clear hlow hml hN
                try clear k2
                go_wp2_with fail
                go_quiet (fail)
                replace q1 := q1.drewN nq
                replace q2 := q2.drewN nq
                replace Gb := Gb.drewN nq
                replace hb := bdnl hb nq
                have XB2 := XB.drewN nq
                have n1 : g ≠ wr.heap.size := by omega
                have n2 : h ≠ wr.heap.size := by omega
                have n3 : wr.heap.size ≠ g := by omega
                have n4 : wr.heap.size ≠ h := by omega
                clear d0 d1 d2 d3 d4 x1 x2 w1_ w2_ gl hl
                generalize World.drewN (World.alloc wr _) nq = wT at q1 q2 Gb hb XB2 ⊢
                generalize wr.heap.size = gX at XB2 n1 n2 n3 n4 ⊢
                have y1 := q1.cell1 htk
                have y2 := q2.cell1 htk
                have z1 := q1.frozen
                have z2 := q2.frozen
                have gl := q1.lt1
                have hl := q2.lt1
                have Q1 := Lib.hid (((q1.up1 htk (X a + E j 2)).far (p := ⟨h, t, none⟩) (.inr (by simp [ob]; omega)) (.int .i64 (Y a + 1))))
                have Q2 := Lib.hid (((q2.far (p := ⟨g, t, none⟩) (.inr (by simp [ob]; omega)) (.int .i64 (X a + E j 2))).up1 htk (Y a + 1)))
                have GB2 := Lib.hid ((Gb.far (p := ⟨g, t, none⟩) (by simp; omega) (.int .i64 (X a + E j 2))).far (p := ⟨h, t, none⟩) (by simp; omega) (.int .i64 (Y a + 1)))
                have HB2 := Lib.hid (bst (bst hb (p := ⟨g, t, none⟩) hg0 (.int .i64 (X a + E j 2))) (p := ⟨h, t, none⟩) hh0 (.int .i64 (Y a + 1)))
                obtain ⟨d0, d1, d2, d3, d4⟩ := XB2.open3
                clear XB
                go_wp2_with fail
                go_region
                go_wp2_with fail
                go_roundw
                case rel => exact ⟨_, _, true, j + 1, by omega, by go_num, rfl, HLO, (by first | exact HMU | exact Lib.hid ⟨HMU.out.1, fun _ => HMU.out.2 trivial⟩), Lib.hid (fun q => by cases q), Q1.out.drew, Q2.out.drew, (by first | exact GB2.out.drew | (rw [HB.out]; exact GB2.out.drew)), HB2.out.drew⟩
                case measure => simp [intOf]; omega
              have d1 : decide (X a + E j 2 < X t) = false := decide_eq_false k1
              by_cases k2 : X a + E j 2 = X t
              rotate_left
              · have h2 : (X a + E j 2 == X t) = false := by simpa using k2
                have HS := Lib.hid (show b = false → ∀ i, i < j + 1 → Ce.Stab E X Y i from fun q i hi => by
                  by_cases e : i = j
                  · subst e; unfold Ce.Stab; rw [FA.out, TA.out]; intro _; unfold Ce.lt2; omega
                  · exact hst.out q i (by omega))
                clear hN
                go_wp2_with fail
                go_quiet (fail)
                go_wp2_with fail
                go_roundw
                case rel => exact ⟨X, Y, b, j + 1, by omega, by go_num, rfl, hX, hmu, HS, q1.drewN _, q2.drewN _, (by first | exact Gb.drewN _ | (rw [HB.out]; exact Gb.drewN _)), bdnl hb _⟩
                case measure => simp [intOf]; omega
              have h2 : (X a + E j 2 == X t) = true := by simpa using k2
              by_cases k3 : Y a + 1 < Y t
              · skip
                have hlow := hX.out.lower hn2 hlt ec0 ec1 (by rw [FA.out]; exact hak) (by rw [TA.out]; exact htk) (by rw [FA.out]; exact hN) (by rw [FA.out, TA.out]; unfold Ce.lt2; omega)
                have hml := hX.out.mu_lt hn2 (i := j) ec0 ec1 (by rw [FA.out]; exact hak) (by rw [TA.out]; exact htk) (by rw [FA.out]; exact hN) (by rw [FA.out, TA.out]; unfold Ce.lt2; omega)
                rw [FA.out, TA.out] at hlow hml
                have HLO := Lib.hid hlow
                have HMU := Lib.hid (show Ce.mu (Ce.up X t (X a + E j 2)) (Ce.up Y t (Y a + 1)) k ≤ Ce.mu C D k ∧ (true = true → Ce.mu (Ce.up X t (X a + E j 2)) (Ce.up Y t (Y a + 1)) k < Ce.mu C D k) from ⟨by have := hmu.out.1; omega, fun _ => by have := hmu.out.1; omega⟩)
                clear hlow hml hN
                try clear k2
                go_wp2_with fail
                go_quiet (fail)
                replace q1 := q1.drewN nq
                replace q2 := q2.drewN nq
                replace Gb := Gb.drewN nq
                replace hb := bdnl hb nq
                have XB2 := XB.drewN nq
                have n1 : g ≠ wr.heap.size := by omega
                have n2 : h ≠ wr.heap.size := by omega
                have n3 : wr.heap.size ≠ g := by omega
                have n4 : wr.heap.size ≠ h := by omega
                clear d0 d1 d2 d3 d4 x1 x2 w1_ w2_ gl hl
                generalize World.drewN (World.alloc wr _) nq = wT at q1 q2 Gb hb XB2 ⊢
                generalize wr.heap.size = gX at XB2 n1 n2 n3 n4 ⊢
                have y1 := q1.cell1 htk
                have y2 := q2.cell1 htk
                have z1 := q1.frozen
                have z2 := q2.frozen
                have gl := q1.lt1
                have hl := q2.lt1
                have Q1 := Lib.hid (((q1.up1 htk (X a + E j 2)).far (p := ⟨h, t, none⟩) (.inr (by simp [ob]; omega)) (.int .i64 (Y a + 1))))
                have Q2 := Lib.hid (((q2.far (p := ⟨g, t, none⟩) (.inr (by simp [ob]; omega)) (.int .i64 (X a + E j 2))).up1 htk (Y a + 1)))
                have GB2 := Lib.hid ((Gb.far (p := ⟨g, t, none⟩) (by simp; omega) (.int .i64 (X a + E j 2))).far (p := ⟨h, t, none⟩) (by simp; omega) (.int .i64 (Y a + 1)))
                have HB2 := Lib.hid (bst (bst hb (p := ⟨g, t, none⟩) hg0 (.int .i64 (X a + E j 2))) (p := ⟨h, t, none⟩) hh0 (.int .i64 (Y a + 1)))
                obtain ⟨d0, d1, d2, d3, d4⟩ := XB2.open3
                clear XB
                go_wp2_with fail
                go_region
                go_wp2_with fail
                go_roundw
                case rel => exact ⟨_, _, true, j + 1, by omega, by go_num, rfl, HLO, (by first | exact HMU | exact Lib.hid ⟨HMU.out.1, fun _ => HMU.out.2 trivial⟩), Lib.hid (fun q => by cases q), Q1.out.drew, Q2.out.drew, (by first | exact GB2.out.drew | (rw [HB.out]; exact GB2.out.drew)), HB2.out.drew⟩
                case measure => simp [intOf]; omega
              · have d3 : decide (Y a + 1 < Y t) = false := decide_eq_false k3
                have HS := Lib.hid (show b = false → ∀ i, i < j + 1 → Ce.Stab E X Y i from fun q i hi => by
                  by_cases e : i = j
                  · subst e; unfold Ce.Stab; rw [FA.out, TA.out]; intro _; unfold Ce.lt2; omega
                  · exact hst.out q i (by omega))
                clear hN
                go_wp2_with fail
                go_quiet (fail)
                go_wp2_with fail
                go_roundw
                case rel => exact ⟨X, Y, b, j + 1, by omega, by go_num, rfl, hX, hmu, HS, q1.drewN _, q2.drewN _, (by first | exact Gb.drewN _ | (rw [HB.out]; exact Gb.drewN _)), bdnl hb _⟩
                case measure => simp [intOf]; omega
            · obtain rfl : j = m := by omega
              clear hlt
              cases b
              · go_wp2_with fail
                go_roundg 0
                case measure => omega
                case rel => exact ⟨X, Y, false, rfl, (fun q => by cases q), hX, (by first | exact hst | exact Lib.hid (fun _ => hst.out trivial)), q1, q2, Gb, hb⟩
              · have HM := hmu.out.2 rfl
                have HM0 := hX.out.mu_nn hn2
                go_wp2_with fail
                go_roundg ((Ce.mu X Y k).toNat + 1)
                case measure => omega
                case rel => exact ⟨X, Y, true, rfl, fun _ => Nat.le_refl _, hX, Lib.hid (fun q => by cases q), q1, q2, Gb, hb⟩
end Go.Proofs.Ytbmfkncfenkjoaa
