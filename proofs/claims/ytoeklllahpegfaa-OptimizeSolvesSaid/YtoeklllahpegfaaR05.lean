/-
  Words and contracts, put together: R1, R2, R3p, R3.
-/
import Derived.Test.YtoeklllahpegfaaM08
import Derived.Deep.DeepCutAuto
import Derived.Deep.DrawnRows
/-
  Contract: the reference's labels.
-/
namespace Go.Proofs.Ytoeklllahpegfaa
set_option linter.unusedVariables false
set_option linter.unusedSimpArgs false
open Go.RowKit
attribute [local irreducible] World.setCell World.cell?

set_option maxRecDepth 100000 in
set_option maxHeartbeats 4000000 in
theorem rlabels_c (A : Option Addr) (n m c : Nat) (E : Ce.Tab) (s : Nat) (w : World) (T : Rd w 3 A m c (iv E)) (O : Ce.Ok (n : Int) m E) (hs : s < n) : Calls Try.prog 79 #[.agg #[.int .i64 (n : Int), .slice A m c], .int .i64 (s : Int)] w fun e w' => ∃ (C D : Nat → Int) (g h : Nat), Hid (Ce.Bf n m E s C D) ∧ Hid (Ce.Lab n m E s (Ce.fin C) D) ∧ e = .returned (.tuple #[.slice (some ⟨g, 0, none⟩) n n, .slice (some ⟨h, 0, none⟩) n n]) ∧ g ≠ h ∧ Own w' w.heap.size 2 1 (some ⟨g, 0, none⟩) n n (nv C) ∧ Own w' w.heap.size 2 1 (some ⟨h, 0, none⟩) n n (nv D) ∧ Below w.heap.size w w' := by
  have o1 := O.n1
  have o2 := O.n2
  have o3 := O.hm
  have r1 := T.le
  have r2 := T.mx
  have hn1 : 1 ≤ n := by omega
  have hn2 : n ≤ 512 := by omega
  have hmk := mk_i6 n hn2
  go_enter Try.func79, Try.ntmps79
  try simp only [List.append_eq, List.cons_append, List.nil_append]
  have Gb := Blk.new w 41 #[.int .i64 (n), .slice A m c]
  have hB := ba w (.cells #[.int .i64 (n), .slice A m c] 41)
  have hsz0 : w.heap.size < (World.alloc w (.cells #[.int .i64 (n), .slice A m c] 41)).heap.size := by simp
  go_upto_region 1 with fail
  generalize World.alloc w _ = wS at Gb hB hsz0 ⊢
  obtain ⟨c00, c01, c02, c03⟩ := Gb.open2
  go_cut [6, 7] from 14 to 19 (fun s_ t_ wx => ∃ g h : Nat, s_ = .slice (some ⟨g, 0, none⟩) n n ∧ t_ = .slice (some ⟨h, 0, none⟩) n n ∧ g ≠ h ∧ Own wx wS.heap.size 2 1 (some ⟨g, 0, none⟩) n n (nv fun _ => 0) ∧ Own wx wS.heap.size 2 1 (some ⟨h, 0, none⟩) n n (nv fun _ => 0) ∧ Blk wx w.heap.size 41 #[.int .i64 (n), .slice A m c] ∧ Below wS.heap.size wS wx)
  case first =>
    go_region
    all_goals
      go_wp2
      go_meet
      obtain ⟨q1, q2⟩ := two_i6 wS n hn2
      have gb := ((Gb.alloc (.cells (madeCells #[.int .i64 0] n) 2)).alloc (.cells (madeCells #[.int .i64 0] n) 2)).drew
      first
        | exact ⟨_, _, rfl, rfl, by omega, q1.drew, q2.drew, gb, by repeat (first | exact Below.refl _ _ | (with_reducible assumption) | (with_reducible apply bal) | (with_reducible apply bdr) | (with_reducible apply bdnl) | (with_reducible refine bst ?_ (by first | (simp; done) | (simp; omega) | omega) _) | (with_reducible refine bt ?_ (by with_reducible assumption)))⟩
        | exact ⟨_, _, rfl, rfl, by omega, q2.drew, q1.drew, gb, by repeat (first | exact Below.refl _ _ | (with_reducible assumption) | (with_reducible apply bal) | (with_reducible apply bdr) | (with_reducible apply bdnl) | (with_reducible refine bst ?_ (by first | (simp; done) | (simp; omega) | omega) _) | (with_reducible refine bt ?_ (by with_reducible assumption)))⟩
  case rest =>
    clear c00 c01 c02 c03 Gb hmk
    obtain ⟨g, h, rfl, rfl, hne, q1, q2, Gb, hb⟩ := hcut
    have hg0 : wS.heap.size ≤ g := q1.base rfl
    have hh0 : wS.heap.size ≤ h := q2.base rfl
    go_wp2_with fail
    go_loopw [22] (fun i wr => ∃ k : Nat, k ≤ n ∧ i = .int .i64 k ∧ Own wr wS.heap.size 2 1 (some ⟨g, 0, none⟩) n n (nv fun v => if v < k then 4611686018427387904 else 0) ∧ Own wr wS.heap.size 2 1 (some ⟨h, 0, none⟩) n n (nv fun v => if v < k then 4611686018427387904 else 0) ∧ Blk wr w.heap.size 41 #[.int .i64 (n), .slice A m c] ∧ Below wS.heap.size wS wr) (fun i _ => n - (intOf i).toNat)
    case atStart => exact ⟨0, Nat.zero_le _, rfl, q1.congr (fun a j ha hj => by simp [nv]), q2.congr (fun a j ha hj => by simp [nv]), Gb, hb⟩
    case round =>
      clear q1 q2 Gb hb
      obtain ⟨k, hk, rfl, q1, q2, Gb, hb⟩ := hrel
      by_cases hlt : k < n
      · have y1 := q1.cell1 hlt
        have y2 := q2.cell1 hlt
        have z1 := q1.frozen
        have z2 := q2.frozen
        have gl := q1.lt1
        have hl := q2.lt1
        have Q1 := Lib.hid (((q1.up1 hlt (4611686018427387904)).far (p := ⟨h, k, none⟩) (.inr (by simp [ob]; omega)) (.int .i64 (4611686018427387904))).congr (V' := nv (fun v => if v < k + 1 then 4611686018427387904 else 0)) (fun i j _ _ => by unfold nv; simp only [Ce.up]; congr 1; (repeat' split) <;> omega))
        have Q2 := Lib.hid (((q2.far (p := ⟨g, k, none⟩) (.inr (by simp [ob]; omega)) (.int .i64 (4611686018427387904))).up1 hlt (4611686018427387904)).congr (V' := nv (fun v => if v < k + 1 then 4611686018427387904 else 0)) (fun i j _ _ => by unfold nv; simp only [Ce.up]; congr 1; (repeat' split) <;> omega))
        have GB2 := Lib.hid ((Gb.far (p := ⟨g, k, none⟩) (by simp; omega) (.int .i64 (4611686018427387904))).far (p := ⟨h, k, none⟩) (by simp; omega) (.int .i64 (4611686018427387904)))
        have HB2 := Lib.hid (bst (bst hb (p := ⟨g, k, none⟩) hg0 (.int .i64 (4611686018427387904))) (p := ⟨h, k, none⟩) hh0 (.int .i64 (4611686018427387904)))
        go_wp2_with fail
        go_roundw
        case rel => exact ⟨k + 1, by omega, by go_num, Q1.out, Q2.out, GB2.out, HB2.out⟩
        case measure => simp [intOf]; omega
      · obtain rfl : k = n := by omega
        have i1 : (0 : Int) ≤ (s : Int) := by omega
        have i2 : (s : Int) < (k : Int) := by omega
        have y1 := q1.cell1 hs
        have y2 := q2.cell1 hs
        have z1 := q1.frozen
        have z2 := q2.frozen
        have gl := q1.lt1
        have hl := q2.lt1
        have Q1 := Lib.hid (((q1.up1 hs (0)).far (p := ⟨h, s, none⟩) (.inr (by simp [ob]; omega)) (.int .i64 (0))).congr (V' := nv (Ce.up (fun _ => 4611686018427387904) s 0)) (fun i j hi _ => by unfold nv; simp only [Ce.up]; congr 1; (repeat' split) <;> omega))
        have Q2 := Lib.hid (((q2.far (p := ⟨g, s, none⟩) (.inr (by simp [ob]; omega)) (.int .i64 (0))).up1 hs (0)).congr (V' := nv (Ce.up (fun _ => 4611686018427387904) s 0)) (fun i j hi _ => by unfold nv; simp only [Ce.up]; congr 1; (repeat' split) <;> omega))
        have GB2 := Lib.hid ((Gb.far (p := ⟨g, s, none⟩) (by simp; omega) (.int .i64 (0))).far (p := ⟨h, s, none⟩) (by simp; omega) (.int .i64 (0)))
        have HB2 := Lib.hid (bst (bst hb (p := ⟨g, s, none⟩) hg0 (.int .i64 (0))) (p := ⟨h, s, none⟩) hh0 (.int .i64 (0)))
        have hbf := Lib.hid (Ce.Bf.start k m E s)
        go_wp2_with fail
        clear q1 q2 Gb hb y1 y2 z1 z2 i1 i2 gl hl
        generalize hZ : Ce.up (fun _ => (4611686018427387904 : Int)) s 0 = Z0 at Q1 Q2 hbf
        clear hZ
        go_loopg [9] ((Ce.mu Z0 Z0 k).toNat + 1) (fun gg ag wr => ∃ (C D : Nat → Int) (b : Bool), ag = .bool b ∧ (b = true → (Ce.mu C D k).toNat + 1 ≤ gg) ∧ Hid (Ce.Bf k m E s C D) ∧ Hid (b = false → ∀ i, i < m → Ce.Stab E C D i) ∧ Own wr wS.heap.size 2 1 (some ⟨g, 0, none⟩) k k (nv C) ∧ Own wr wS.heap.size 2 1 (some ⟨h, 0, none⟩) k k (nv D) ∧ Blk wr w.heap.size 41 #[.int .i64 (k), .slice A m c] ∧ Below wS.heap.size wS wr)
        case atStart => exact ⟨Z0, Z0, true, rfl, fun _ => Nat.le_refl _, hbf, Lib.hid (fun q => by cases q), Q1.out, Q2.out, GB2.out, HB2.out⟩
        case round =>
          clear Q1 Q2 GB2 HB2 hbf
          obtain ⟨C, D, b, rfl, hgk, hBf, hSt, q1, q2, Gb, hb⟩ := hrel
          have hfr : ∀ i, i < m → Ce.fr E i < k := fun i hi => by unfold Ce.fr; have := (O.e i hi).f0; have := (O.e i hi).f1; omega
          have hto : ∀ i, i < m → Ce.«to» E i < k := fun i hi => by unfold Ce.«to»; have := (O.e i hi).t0; have := (O.e i hi).t1; omega
          have HFR := Lib.hid hfr
          have HTO := Lib.hid hto
          clear hfr hto
          cases b
          · have HL := Lib.hid (hBf.out.done HFR.out HTO.out (fun i hi => hSt.out rfl i hi) hn2 (fun i hi => (O.e i hi).c0) (fun i hi => (O.e i hi).c1))
            go_wp2_with fail
            go_returns
            first
              | exact ⟨C, D, hBf, HL, g, h, rfl, hne, q1.more hB.size, q2.more hB.size, bt hB hb⟩
              | exact ⟨C, D, hBf, HL, hne, q1.more hB.size, q2.more hB.size, bt hB hb⟩
          have hgk2 := hgk rfl
          clear hgk hSt
          obtain ⟨c0, c1, c2, c3⟩ := Gb.open2
          go_wp2_with fail
          clear c0 c1 c2 c3
          go_loopw [9, 42] (fun ag i wr => ∃ (X Y : Nat → Int) (b : Bool) (j : Nat), j ≤ m ∧ i = .int .i64 j ∧ ag = .bool b ∧ Hid (Ce.Bf k m E s X Y) ∧ Hid (Ce.mu X Y k ≤ Ce.mu C D k ∧ (b = true → Ce.mu X Y k < Ce.mu C D k)) ∧ Hid (b = false → ∀ i, i < j → Ce.Stab E X Y i) ∧ Own wr wS.heap.size 2 1 (some ⟨g, 0, none⟩) k k (nv X) ∧ Own wr wS.heap.size 2 1 (some ⟨h, 0, none⟩) k k (nv Y) ∧ Blk wr w.heap.size 41 #[.int .i64 (k), .slice A m c] ∧ Below wS.heap.size wS wr) (fun _ i _ => m - (intOf i).toNat)
          case atStart => exact ⟨C, D, false, 0, Nat.zero_le _, rfl, rfl, hBf, Lib.hid ⟨Int.le_refl _, fun q => by cases q⟩, Lib.hid (fun _ i hi => absurd hi (Nat.not_lt_zero _)), q1, q2, Gb, hb⟩
          case round =>
            clear q1 q2 Gb hb
            obtain ⟨X, Y, b, j, hj, rfl, rfl, hX, hmu, hst, q1, q2, Gb, hb⟩ := hrel
            by_cases hlt : j < m
            · have he := O.e j hlt
              obtain ⟨a, ea⟩ : ∃ x : Nat, E j 0 = (x : Int) := ⟨(E j 0).toNat, by have := he.f0; omega⟩
              obtain ⟨t, et⟩ : ∃ x : Nat, E j 1 = (x : Int) := ⟨(E j 1).toNat, by have := he.t0; omega⟩
              have hak : a < k := by have := he.f1; omega
              have htk : t < k := by have := he.t1; omega
              have hfa : Ce.fr E j = a := by unfold Ce.fr; omega
              have hta : Ce.«to» E j = t := by unfold Ce.«to»; omega
              have ec0 := he.c0
              have ec1 := he.c1
              have ba := hX.out.ab hn2 hak
              have bt_ := hX.out.ab hn2 htk
              obtain ⟨b3, off3, eB, hbl3, v0, v1, v2⟩ := (T.keep (bt hB hb)).at3 hlt
              rw [ea] at v0
              rw [et] at v1
              have HB := Lib.hid eB
              have FA := Lib.hid hfa
              have TA := Lib.hid hta
              rw [HB.out] at Gb ⊢
              clear eB he ea et hfa hta
              have x1 := q1.cell1 hak
              have x2 := q2.cell1 hak
              have w1_ := q1.cell1 htk
              have w2_ := q2.cell1 htk
              have gl := q1.lt1
              have hl := q2.lt1
              have i1 : (0 : Int) ≤ (a : Int) := by omega
              have i2 : (a : Int) < (k : Int) := by omega
              have i3 : (0 : Int) ≤ (t : Int) := by omega
              have i4 : (t : Int) < (k : Int) := by omega
              have gle := hb.size
              have XB := Blk.new wr 75 #[.int .i64 a, .int .i64 t, .int .i64 (E j 2)]
              obtain ⟨d0, d1, d2, d3, d4⟩ := XB.open3
              replace q1 := q1.alloc (.cells #[.int .i64 a, .int .i64 t, .int .i64 (E j 2)] 75)
              replace q2 := q2.alloc (.cells #[.int .i64 a, .int .i64 t, .int .i64 (E j 2)] 75)
              replace Gb := Gb.alloc (.cells #[.int .i64 a, .int .i64 t, .int .i64 (E j 2)] 75)
              replace hb := bal hb (.cells #[.int .i64 a, .int .i64 t, .int .i64 (E j 2)] 75)
              by_cases hN : X a = 4611686018427387904
              · have h1 : (X a == 4611686018427387904) = true := by simpa using hN
                have HS := Lib.hid (show b = false → ∀ i, i < j + 1 → Ce.Stab E X Y i from fun q i hi => by
                  by_cases e : i = j
                  · subst e; unfold Ce.Stab; rw [FA.out, TA.out]; exact fun z => absurd hN z
                  · exact hst.out q i (by omega))
                clear hN
                go_wp2_with fail
                go_roundw
                case rel => exact ⟨X, Y, b, j + 1, by omega, by go_num, rfl, hX, hmu, HS, q1, q2, (by first | exact Gb | (rw [HB.out]; exact Gb)), hb⟩
                case measure => simp [intOf]; omega
              have h1 : (X a == 4611686018427387904) = false := by simpa using hN
              have bX := ba.2.2.2.2 hN
              by_cases k1 : X a + E j 2 < X t
              · skip
                have hlow := hX.out.lower hn2 hlt ec0 ec1 (by rw [FA.out]; exact hak) (by rw [TA.out]; exact htk) (by rw [FA.out]; exact hN) (by rw [FA.out, TA.out]; unfold Ce.lt2; omega)
                have hml := hX.out.mu_lt hn2 (i := j) ec0 ec1 (by rw [FA.out]; exact hak) (by rw [TA.out]; exact htk) (by rw [FA.out]; exact hN) (by rw [FA.out, TA.out]; unfold Ce.lt2; omega)
                rw [FA.out, TA.out] at hlow hml
                have HLO := Lib.hid hlow
                have HMU := Lib.hid (show Ce.mu (Ce.up X t (X a + E j 2)) (Ce.up Y t (Y a + 1)) k ≤ Ce.mu C D k ∧ (true = true → Ce.mu (Ce.up X t (X a + E j 2)) (Ce.up Y t (Y a + 1)) k < Ce.mu C D k) from ⟨by have := hmu.out.1; omega, fun _ => by have := hmu.out.1; omega⟩)
                clear hlow hml hN
                try clear k2
                go_wp2_with fail
                go_quiet (fail)
                replace q1 := q1.drewN nq
                replace q2 := q2.drewN nq
                replace Gb := Gb.drewN nq
                replace hb := bdnl hb nq
                have XB2 := XB.drewN nq
                have n1 : g ≠ wr.heap.size := by omega
                have n2 : h ≠ wr.heap.size := by omega
                have n3 : wr.heap.size ≠ g := by omega
                have n4 : wr.heap.size ≠ h := by omega
                clear d0 d1 d2 d3 d4 x1 x2 w1_ w2_ gl hl
                generalize World.drewN (World.alloc wr _) nq = wT at q1 q2 Gb hb XB2 ⊢
                generalize wr.heap.size = gX at XB2 n1 n2 n3 n4 ⊢
                have y1 := q1.cell1 htk
                have y2 := q2.cell1 htk
                have z1 := q1.frozen
                have z2 := q2.frozen
                have gl := q1.lt1
                have hl := q2.lt1
                have Q1 := Lib.hid (((q1.up1 htk (X a + E j 2)).far (p := ⟨h, t, none⟩) (.inr (by simp [ob]; omega)) (.int .i64 (Y a + 1))))
                have Q2 := Lib.hid (((q2.far (p := ⟨g, t, none⟩) (.inr (by simp [ob]; omega)) (.int .i64 (X a + E j 2))).up1 htk (Y a + 1)))
                have GB2 := Lib.hid ((Gb.far (p := ⟨g, t, none⟩) (by simp; omega) (.int .i64 (X a + E j 2))).far (p := ⟨h, t, none⟩) (by simp; omega) (.int .i64 (Y a + 1)))
                have HB2 := Lib.hid (bst (bst hb (p := ⟨g, t, none⟩) hg0 (.int .i64 (X a + E j 2))) (p := ⟨h, t, none⟩) hh0 (.int .i64 (Y a + 1)))
                obtain ⟨d0, d1, d2, d3, d4⟩ := XB2.open3
                clear XB
                go_wp2_with fail
                go_region
                go_wp2_with fail
                go_roundw
                case rel => exact ⟨_, _, true, j + 1, by omega, by go_num, rfl, HLO, (by first | exact HMU | exact Lib.hid ⟨HMU.out.1, fun _ => HMU.out.2 trivial⟩), Lib.hid (fun q => by cases q), Q1.out.drew, Q2.out.drew, (by first | exact GB2.out.drew | (rw [HB.out]; exact GB2.out.drew)), HB2.out.drew⟩
                case measure => simp [intOf]; omega
              have d1 : decide (X a + E j 2 < X t) = false := decide_eq_false k1
              by_cases k2 : X a + E j 2 = X t
              rotate_left
              · have h2 : (X a + E j 2 == X t) = false := by simpa using k2
                have HS := Lib.hid (show b = false → ∀ i, i < j + 1 → Ce.Stab E X Y i from fun q i hi => by
                  by_cases e : i = j
                  · subst e; unfold Ce.Stab; rw [FA.out, TA.out]; intro _; unfold Ce.lt2; omega
                  · exact hst.out q i (by omega))
                clear hN
                go_wp2_with fail
                go_quiet (fail)
                go_wp2_with fail
                go_roundw
                case rel => exact ⟨X, Y, b, j + 1, by omega, by go_num, rfl, hX, hmu, HS, q1.drewN _, q2.drewN _, (by first | exact Gb.drewN _ | (rw [HB.out]; exact Gb.drewN _)), bdnl hb _⟩
                case measure => simp [intOf]; omega
              have h2 : (X a + E j 2 == X t) = true := by simpa using k2
              by_cases k3 : Y a + 1 < Y t
              · skip
                have hlow := hX.out.lower hn2 hlt ec0 ec1 (by rw [FA.out]; exact hak) (by rw [TA.out]; exact htk) (by rw [FA.out]; exact hN) (by rw [FA.out, TA.out]; unfold Ce.lt2; omega)
                have hml := hX.out.mu_lt hn2 (i := j) ec0 ec1 (by rw [FA.out]; exact hak) (by rw [TA.out]; exact htk) (by rw [FA.out]; exact hN) (by rw [FA.out, TA.out]; unfold Ce.lt2; omega)
                rw [FA.out, TA.out] at hlow hml
                have HLO := Lib.hid hlow
                have HMU := Lib.hid (show Ce.mu (Ce.up X t (X a + E j 2)) (Ce.up Y t (Y a + 1)) k ≤ Ce.mu C D k ∧ (true = true → Ce.mu (Ce.up X t (X a + E j 2)) (Ce.up Y t (Y a + 1)) k < Ce.mu C D k) from ⟨by have := hmu.out.1; omega, fun _ => by have := hmu.out.1; omega⟩)
                clear hlow hml hN
                try clear k2
                go_wp2_with fail
                go_quiet (fail)
                replace q1 := q1.drewN nq
                replace q2 := q2.drewN nq
                replace Gb := Gb.drewN nq
                replace hb := bdnl hb nq
                have XB2 := XB.drewN nq
                have n1 : g ≠ wr.heap.size := by omega
                have n2 : h ≠ wr.heap.size := by omega
                have n3 : wr.heap.size ≠ g := by omega
                have n4 : wr.heap.size ≠ h := by omega
                clear d0 d1 d2 d3 d4 x1 x2 w1_ w2_ gl hl
                generalize World.drewN (World.alloc wr _) nq = wT at q1 q2 Gb hb XB2 ⊢
                generalize wr.heap.size = gX at XB2 n1 n2 n3 n4 ⊢
                have y1 := q1.cell1 htk
                have y2 := q2.cell1 htk
                have z1 := q1.frozen
                have z2 := q2.frozen
                have gl := q1.lt1
                have hl := q2.lt1
                have Q1 := Lib.hid (((q1.up1 htk (X a + E j 2)).far (p := ⟨h, t, none⟩) (.inr (by simp [ob]; omega)) (.int .i64 (Y a + 1))))
                have Q2 := Lib.hid (((q2.far (p := ⟨g, t, none⟩) (.inr (by simp [ob]; omega)) (.int .i64 (X a + E j 2))).up1 htk (Y a + 1)))
                have GB2 := Lib.hid ((Gb.far (p := ⟨g, t, none⟩) (by simp; omega) (.int .i64 (X a + E j 2))).far (p := ⟨h, t, none⟩) (by simp; omega) (.int .i64 (Y a + 1)))
                have HB2 := Lib.hid (bst (bst hb (p := ⟨g, t, none⟩) hg0 (.int .i64 (X a + E j 2))) (p := ⟨h, t, none⟩) hh0 (.int .i64 (Y a + 1)))
                obtain ⟨d0, d1, d2, d3, d4⟩ := XB2.open3
                clear XB
                go_wp2_with fail
                go_region
                go_wp2_with fail
                go_roundw
                case rel => exact ⟨_, _, true, j + 1, by omega, by go_num, rfl, HLO, (by first | exact HMU | exact Lib.hid ⟨HMU.out.1, fun _ => HMU.out.2 trivial⟩), Lib.hid (fun q => by cases q), Q1.out.drew, Q2.out.drew, (by first | exact GB2.out.drew | (rw [HB.out]; exact GB2.out.drew)), HB2.out.drew⟩
                case measure => simp [intOf]; omega
              · have d3 : decide (Y a + 1 < Y t) = false := decide_eq_false k3
                have HS := Lib.hid (show b = false → ∀ i, i < j + 1 → Ce.Stab E X Y i from fun q i hi => by
                  by_cases e : i = j
                  · subst e; unfold Ce.Stab; rw [FA.out, TA.out]; intro _; unfold Ce.lt2; omega
                  · exact hst.out q i (by omega))
                clear hN
                go_wp2_with fail
                go_quiet (fail)
                go_wp2_with fail
                go_roundw
                case rel => exact ⟨X, Y, b, j + 1, by omega, by go_num, rfl, hX, hmu, HS, q1.drewN _, q2.drewN _, (by first | exact Gb.drewN _ | (rw [HB.out]; exact Gb.drewN _)), bdnl hb _⟩
                case measure => simp [intOf]; omega
            · obtain rfl : j = m := by omega
              clear hlt
              cases b
              · go_wp2_with fail
                go_roundg 0
                case measure => omega
                case rel => exact ⟨X, Y, false, rfl, (fun q => by cases q), hX, (by first | exact hst | exact Lib.hid (fun _ => hst.out trivial)), q1, q2, Gb, hb⟩
              · have HM := hmu.out.2 rfl
                have HM0 := hX.out.mu_nn hn2
                go_wp2_with fail
                go_roundg ((Ce.mu X Y k).toNat + 1)
                case measure => omega
                case rel => exact ⟨X, Y, true, rfl, fun _ => Nat.le_refl _, hX, Lib.hid (fun q => by cases q), q1, q2, Gb, hb⟩
end Go.Proofs.Ytoeklllahpegfaa
/-
  Contracts: the reference's Potentials.
-/
namespace Go.Proofs.Ytoeklllahpegfaa
set_option linter.unusedVariables false
set_option linter.unusedSimpArgs false
open Go.RowKit
attribute [local irreducible] World.setCell World.cell?

end Go.Proofs.Ytoeklllahpegfaa
/-
  The reference's Solve: its errors.
-/
namespace Go.Proofs.Ytoeklllahpegfaa
set_option linter.unusedVariables false
set_option linter.unusedSimpArgs false
open Go.RowKit
attribute [local irreducible] World.setCell World.cell?

theorem rd_far {w : World} {q : Nat} {A : Option Addr} {n c : Nat} {V : Nat → Nat → Value} (h : Rd w q A n c V) {p : Addr} (hne : ob A ≠ some p.block) (u : Value) : Rd (w.setCell p u) q A n c V :=
  ⟨h.le, h.mx, fun hn => by
    obtain ⟨b, off, e, hl, hc⟩ := h.at_ hn
    refine ⟨b, off, e, by simpa using hl, fun i j hi hj => ?_⟩
    rw [World.cell?_setCell_far w p _ u (fun z => hne (by rw [e]; simp [ob, z]))]
    exact hc i j hi hj⟩
theorem own_one1 (w : World) (t : TypeId) {base : Nat} (x : Int) (hb : base ≤ w.heap.size) : Own (w.alloc (.cells #[.int .i64 x] t)) base t 1 (some ⟨w.heap.size, 0, none⟩) 1 1 (nv fun _ => x) :=
  ⟨_, World.ownsRow_lit (size := 1) w #[.int .i64 x] 1 hb (by rw [maxLen_eq]; omega) (by simp), fun i j hi hj => by
    obtain rfl : i = 0 := by omega
    obtain rfl : j = 0 := by omega
    rfl⟩
set_option maxRecDepth 100000 in
set_option maxHeartbeats 4000000 in
theorem rsolve_no (A : Option Addr) (n : Int) (m c : Nat) (E : Ce.Tab) (w : World) (T : Rd w 3 A m c (iv E)) (n1 : -9223372036854775808 ≤ n) (n2 : n ≤ 9223372036854775807) (a b : Int) (h : Ce.en n m E a b ≠ 0) : Calls Try.prog 50 #[.agg #[.int .i64 n, .slice A m c], .int .i64 a, .int .i64 b] w fun e w' => e = .returned (.tuple #[.slice none 0 0, .slice none 0 0, .int .i64 (Ce.en n m E a b)]) ∧ Below w.heap.size w w' := by
  by_cases k0 : Ce.ck n m E = 0
  rotate_left
  · have h_ : Ce.en n m E a b ≠ 0 := by rw [Ce.en_ck k0]; exact k0
    have h1 : (Ce.ck n m E != 0) = true := by simpa using k0
    have HE := Lib.hid (show Ce.en n m E a b = _ from (Ce.en_ck k0))
    rw [HE.out]
    clear k0 h h_
    go_enter Try.func50, Try.ntmps50
    have Gb := Blk.new w 41 #[.int .i64 (n), .slice A m c]
    have hB := ba w (.cells #[.int .i64 (n), .slice A m c] 41)
    obtain ⟨c00, c01, c02, c03⟩ := Gb.open2
    go_wp2_with fail
    refine (rcheck_c _ _ _ _ _ _ (T.keep hB) n1 n2).mono ?_
    rintro e w1 ⟨rfl, hb⟩
    clear c00 c01 c02 c03
    replace Gb := Gb.keep hb
    replace hB := bt hB hb
    clear hb
    go_wp2_with fail
    go_returns
    exact ⟨rfl, hB⟩
  cases q0 : Ce.nd n a
  · have h_ : Ce.en n m E a b ≠ 0 := by rw [(Ce.en_1 (a := a) (b := b) k0 (by rw [q0]; rfl))]; decide
    have HE := Lib.hid (show Ce.en n m E a b = _ from (Ce.en_1 (a := a) (b := b) k0 (by rw [q0]; rfl)))
    rw [HE.out]
    have H := Lib.hid k0
    have Q0 := Lib.hid q0
    clear k0 h h_ q0
    go_enter Try.func50, Try.ntmps50
    have Gb := Blk.new w 41 #[.int .i64 (n), .slice A m c]
    have hB := ba w (.cells #[.int .i64 (n), .slice A m c] 41)
    obtain ⟨c00, c01, c02, c03⟩ := Gb.open2
    go_wp2_with fail
    refine (rcheck_c _ _ _ _ _ _ (T.keep hB) n1 n2).mono ?_
    rw [H.out]
    rintro e w1 ⟨rfl, hb⟩
    clear c00 c01 c02 c03
    replace Gb := Gb.keep hb
    replace hB := bt hB hb
    clear hb
    obtain ⟨c00, c01, c02, c03⟩ := Gb.open2
    go_wp2_with fail
    refine (rnode_c _ _ _ _ _ _).mono ?_
    rw [Q0.out]
    rintro e w2 ⟨rfl, hb⟩
    clear c00 c01 c02 c03
    replace Gb := Gb.keep hb
    replace hB := bt hB hb
    clear hb
    go_wp2_with fail
    go_returns
    exact ⟨rfl, hB⟩
  cases q1 : Ce.nd n b
  · have h_ : Ce.en n m E a b ≠ 0 := by rw [(Ce.en_1 (a := a) (b := b) k0 (by rw [q0, q1]; rfl))]; decide
    have HE := Lib.hid (show Ce.en n m E a b = _ from (Ce.en_1 (a := a) (b := b) k0 (by rw [q0, q1]; rfl)))
    rw [HE.out]
    have H := Lib.hid k0
    have Q0 := Lib.hid q0
    have Q1 := Lib.hid q1
    clear k0 h h_ q0 q1
    go_enter Try.func50, Try.ntmps50
    have Gb := Blk.new w 41 #[.int .i64 (n), .slice A m c]
    have hB := ba w (.cells #[.int .i64 (n), .slice A m c] 41)
    obtain ⟨c00, c01, c02, c03⟩ := Gb.open2
    go_wp2_with fail
    refine (rcheck_c _ _ _ _ _ _ (T.keep hB) n1 n2).mono ?_
    rw [H.out]
    rintro e w1 ⟨rfl, hb⟩
    clear c00 c01 c02 c03
    replace Gb := Gb.keep hb
    replace hB := bt hB hb
    clear hb
    obtain ⟨c00, c01, c02, c03⟩ := Gb.open2
    go_wp2_with fail
    refine (rnode_c _ _ _ _ _ _).mono ?_
    rw [Q0.out]
    rintro e w2 ⟨rfl, hb⟩
    clear c00 c01 c02 c03
    replace Gb := Gb.keep hb
    replace hB := bt hB hb
    clear hb
    obtain ⟨c00, c01, c02, c03⟩ := Gb.open2
    go_wp2_with fail
    refine (rnode_c _ _ _ _ _ _).mono ?_
    rw [Q1.out]
    rintro e w3 ⟨rfl, hb⟩
    clear c00 c01 c02 c03
    replace Gb := Gb.keep hb
    replace hB := bt hB hb
    clear hb
    go_wp2_with fail
    go_returns
    exact ⟨rfl, hB⟩
  exact absurd (Ce.en_0 k0 (by rw [q0, q1]; rfl)) h
end Go.Proofs.Ytoeklllahpegfaa
/-
  Contract: the reference's Solve.
-/
namespace Go.Proofs.Ytoeklllahpegfaa
set_option linter.unusedVariables false
set_option linter.unusedSimpArgs false
open Go.RowKit
attribute [local irreducible] World.setCell World.cell?

set_option maxRecDepth 100000 in
set_option maxHeartbeats 4000000 in
theorem rsolve_c (A : Option Addr) (n m c : Nat) (E : Ce.Tab) (s : Nat) (w : World) (T : Rd w 3 A m c (iv E)) (O : Ce.Ok (n : Int) m E) (hs : s < n) (b : Nat) (hb : b < n) : Calls Try.prog 50 #[.agg #[.int .i64 (n : Int), .slice A m c], .int .i64 (s : Int), .int .i64 (b : Int)] w fun e w' => ∃ (C D : Nat → Int), Hid (Ce.Lab n m E s C D) ∧ Below w.heap.size w w' ∧ ((C b < 0 ∧ e = .returned (.tuple #[.slice none 0 0, .slice none 0 0, .int .i64 6])) ∨ (0 ≤ C b ∧ ∃ (A1 : Option Addr) (c1 : Nat) (A2 : Option Addr) (c2 : Nat), e = .returned (.tuple #[.slice A1 (D b).toNat c1, .slice A2 n c2, .int .i64 0]) ∧ Rd w' 1 A1 (D b).toNat c1 (nv (Ce.rt m E C D b)) ∧ Rd w' 1 A2 n c2 (nv (Ce.pot n C)))) := by
  have o1 := O.n1
  have o2 := O.n2
  have o3 := O.hm
  have hn2 : n ≤ 512 := by omega
  have HCK := Lib.hid (Ce.ck_ok.2 O)
  have ND := Lib.hid (show Ce.nd (n : Int) (s : Int) = true from Ce.nd_iff.2 ⟨by omega, by omega⟩)
  have NB := Lib.hid (show Ce.nd (n : Int) (b : Int) = true from Ce.nd_iff.2 ⟨by omega, by omega⟩)
  go_enter Try.func50, Try.ntmps50
  try simp only [List.append_eq, List.cons_append, List.nil_append]
  have Gb := Blk.new w 41 #[.int .i64 (n), .slice A m c]
  have hB := ba w (.cells #[.int .i64 (n), .slice A m c] 41)
  obtain ⟨c00, c01, c02, c03⟩ := Gb.open2
  go_wp2_with fail
  refine (rcheck_c _ _ _ _ _ _ (T.keep hB) (by omega) (by omega)).mono ?_
  rw [HCK.out]
  rintro e w1 ⟨rfl, hb⟩
  clear c00 c01 c02 c03
  replace Gb := Gb.keep hb
  replace hB := bt hB hb
  clear hb
  obtain ⟨c00, c01, c02, c03⟩ := Gb.open2
  go_wp2_with fail
  refine (rnode_c _ _ _ _ _ _).mono ?_
  rw [ND.out]
  rintro e w2 ⟨rfl, hb⟩
  clear c00 c01 c02 c03
  replace Gb := Gb.keep hb
  replace hB := bt hB hb
  clear hb
  obtain ⟨c00, c01, c02, c03⟩ := Gb.open2
  go_wp2_with fail
  refine (rnode_c _ _ _ _ _ _).mono ?_
  rw [NB.out]
  rintro e w3 ⟨rfl, hb⟩
  clear c00 c01 c02 c03
  replace Gb := Gb.keep hb
  replace hB := bt hB hb
  clear hb
  obtain ⟨c00, c01, c02, c03⟩ := Gb.open2
  have hsw := hB.size
  go_wp2_with fail
  refine (rlabels_c _ n m c E s _ (T.keep hB) O hs).mono ?_
  rintro e wS ⟨C, D, gc, gd, HBf, HL, rfl, hne, q1, q2, hb⟩
  clear c00 c01 c02 c03
  replace Gb := Gb.keep hb
  replace hB := bt hB hb
  have hsz := hb.size
  clear hb
  generalize hBS : w3.heap.size = BASE at q1 q2 hsz hsw
  have fb := HBf.out.ab hn2 hb
  have y1 := q1.num hb (x := C b) rfl
  have b1 : (0 : Int) ≤ (b : Int) := by omega
  have b2 : (b : Int) < (n : Int) := by omega
  by_cases hN : C b = 4611686018427387904
  · have h1 : (C b == 4611686018427387904) = true := by simpa using hN
    have hf : Ce.fin C b < 0 := by unfold Ce.fin; rw [if_pos hN]; omega
    clear hN
    go_wp2_with fail
    go_returns
    exact ⟨Ce.fin C, D, HL, hB, .inl ⟨hf, rfl⟩⟩
  have h1 : (C b == 4611686018427387904) = false := by simpa using hN
  have hC : 0 ≤ Ce.fin C b := by unfold Ce.fin; rw [if_neg hN]; omega
  clear hN
  go_wp2_with fail
  clear y1 h1 fb
  obtain ⟨F, hF⟩ : ∃ F, Ce.fin C = F := ⟨_, rfl⟩
  have FD := Lib.hid (fun (v : Nat) (hv : v < n) => show (C v = 4611686018427387904 ∧ F v = -1) ∨ (C v ≠ 4611686018427387904 ∧ F v = C v ∧ 0 ≤ C v ∧ C v ≤ 562949953421312 ∧ 0 ≤ D v ∧ D v < 512) by
    have z := HBf.out.ab hn2 hv
    rw [← hF]; unfold Ce.fin
    by_cases q : C v = 4611686018427387904
    · left; exact ⟨q, if_pos q⟩
    · right; have := z.2.2.2.2 q; exact ⟨q, if_neg q, by omega, by omega, by omega, by omega⟩)
  rw [hF] at HL hC
  clear hF HBf
  have LL := HL.out
  have bD := (LL.cb O hb).2.2 hC
  obtain ⟨L, eL⟩ : ∃ L : Nat, D b = (L : Int) := ⟨(D b).toNat, by omega⟩
  have ELL := Lib.hid (show (D b).toNat = L by omega)
  have EL := Lib.hid eL
  have hLn : L < n := by omega
  have BK := Lib.hid (fun (j : Nat) (hj : j ≤ L) => Ce.bk_ok O LL (b := (b : Int)) b1 b2 (by rw [Int.toNat_natCast]; omega) j (by rw [Int.toNat_natCast, eL]; omega))
  have BL := Lib.hid (fun (j : Nat) (hj : j < L) => Ce.bk_lt O LL (b := (b : Int)) b1 b2 (by rw [Int.toNat_natCast]; omega) j (by rw [Int.toNat_natCast, eL]; omega))
  have BE := Lib.hid (Ce.bk_end O LL (b := (b : Int)) b1 b2 (by rw [Int.toNat_natCast]; omega) (j := L) (by rw [Int.toNat_natCast, eL]))
  clear LL eL bD
  obtain ⟨i0, hi, hz0, hz1, hz2⟩ := info_parts infoI
  have HI := Lib.hid hi
  have HZ0 := Lib.hid hz0
  have HZ1 := Lib.hid hz1
  have HZ2 := Lib.hid hz2
  clear hi hz0 hz1 hz2
  have R1 := q1.rd
  have R2 := q2.rd
  have hlgc := q1.lt1
  clear q2
  go_loopg [12, 13] L (fun gg r_ at_ wr => ∃ (k : Nat) (A1 : Option Addr) (c1 : Nat), k ≤ L ∧ L - k ≤ gg ∧ r_ = .slice A1 k c1 ∧ at_ = .int .i64 (Ce.bk m E F D (b : Int) k) ∧ Rd wr 1 A1 k c1 (nv fun j => Ce.rb m E F D (b : Int) (k - 1 - j)) ∧ ob A1 ≠ some gc ∧ Below wS.heap.size wS wr)
  case atStart => exact ⟨0, none, 0, Nat.zero_le _, Nat.le_refl _, rfl, rfl, Rd.nil _ _ _, by simp [ob], Below.refl _ _⟩
  case round =>
    rename World => wO
    obtain ⟨k, A1, c1, hk, hgk, rfl, rfl, RR, hap, hW⟩ := hrel
    obtain ⟨k0, k1, k2, k3⟩ := BK.out k hk
    obtain ⟨x, ex⟩ : ∃ x : Nat, Ce.bk m E F D (b : Int) k = (x : Int) := ⟨(Ce.bk m E F D (b : Int) k).toNat, by omega⟩
    have EX := Lib.hid ex
    rw [ex] at k0 k1 k2 k3
    rw [Int.toNat_natCast, Int.toNat_natCast, EL.out] at k3
    rw [Int.toNat_natCast] at k2
    have hxn : x < n := by omega
    by_cases hlt : k < L
    · have hbl := BL.out k hlt
      rw [ex] at hbl
      have hxs : ((x : Int) != (s : Int)) = true := by simpa using hbl.2.2.2.2.1
      have HBL := Lib.hid hbl
      clear hbl
      obtain ⟨r, er⟩ : ∃ r : Nat, Ce.rb m E F D (b : Int) k = (r : Int) := ⟨(Ce.rb m E F D (b : Int) k).toNat, by have := HBL.out.1; omega⟩
      have hrm : r < m := by have := HBL.out.2.1; omega
      have HFI := Lib.hid (show Ce.fi (Ce.lastB E F D (x : Int)) m = (r : Int) by rw [← er]; unfold Ce.rb Ce.pk; rw [ex])
      have ER := Lib.hid er
      have fx := FD.out x hxn
      have hFX : C x = F x := by rcases fx with q | q <;> omega
      have hCX : 0 ≤ C x ∧ C x ≤ 562949953421312 := by rcases fx with q | q <;> omega
      obtain ⟨cx0, cx1⟩ := hCX
      have HFX := Lib.hid hFX
      clear er fx hFX ex
      rw [EX.out]
      obtain ⟨c0, c1_, c2, c3⟩ := (Gb.keep hW).open2
      go_wp2_with fail
      clear c0 c1_ c2 c3
      go_loopw [12, 13, 53] (fun r_ at_ i wr => ∃ y : Nat, y ≤ m ∧ i = .int .i64 y ∧ r_ = .slice A1 k c1 ∧ at_ = .int .i64 (x : Int) ∧ Hid (∀ z, z < y → Ce.lastB E F D (x : Int) z = false) ∧ Below wO.heap.size wO wr) (fun _ _ i _ => m - (intOf i).toNat)
      case atStart => exact ⟨0, Nat.zero_le _, rfl, rfl, rfl, Lib.hid fun z hz => absurd hz (Nat.not_lt_zero _), Below.refl _ _⟩
      case round =>
        obtain ⟨y, hy, rfl, rfl, rfl, hno, hV⟩ := hrel
        by_cases hlt2 : y < m
        · have he := O.e y hlt2
          obtain ⟨u, eu⟩ : ∃ x : Nat, E y 0 = (x : Int) := ⟨(E y 0).toNat, by have := he.f0; omega⟩
          obtain ⟨v, ev⟩ : ∃ x : Nat, E y 1 = (x : Int) := ⟨(E y 1).toNat, by have := he.t0; omega⟩
          have hun : u < n := by have := he.f1; omega
          have ec0 := he.c0
          have ec1 := he.c1
          have hfu : Ce.fr E y = u := by unfold Ce.fr; omega
          have HLB := Lib.hid (show Ce.lastB E F D (x : Int) y = decide ((v : Int) = (x : Int) ∧ 0 ≤ F u ∧ F u + E y 2 = F x ∧ D u + 1 = D x) by unfold Ce.lastB; rw [hfu, ev, Int.toNat_natCast])
          obtain ⟨b3, off3, eB, hbl3, v0, v1, v2⟩ := (T.keep (bt hB (bt hW hV))).at3 hlt2
          rw [eu] at v0
          rw [ev] at v1
          have HB := Lib.hid eB
          have EU := Lib.hid eu
          rw [HB.out] at Gb ⊢
          clear eB eu ev he hfu
          obtain ⟨bc, oc, ec_, hlc, x1⟩ := (R1.keep (bt hW hV)).at1 hun
          obtain ⟨bc2, oc2, ec2, hlc2, x2⟩ := (R1.keep (bt hW hV)).at1 hxn
          obtain ⟨bd, od, ed_, hld, x3⟩ := (R2.keep (bt hW hV)).at1 hun
          obtain ⟨bd2, od2, ed2, hld2, x4⟩ := (R2.keep (bt hW hV)).at1 hxn
          injection ec_ with ec_; injection ec_ with e1 e2; subst e1 e2
          injection ec2 with ec2; injection ec2 with e1 e2; subst e1 e2
          injection ed_ with ed_; injection ed_ with e1 e2; subst e1 e2
          injection ed2 with ed2; injection ed2 with e1 e2; subst e1 e2
          simp only [Nat.zero_add] at x1 x2 x3 x4
          have i1 : (0 : Int) ≤ (u : Int) := by omega
          have i2 : (u : Int) < (n : Int) := by omega
          have i3 : (0 : Int) ≤ (x : Int) := by omega
          have i4 : (x : Int) < (n : Int) := by omega
          have fu := FD.out u hun
          have X := Blk.new wr 75 #[.int .i64 u, .int .i64 v, .int .i64 (E y 2)]
          obtain ⟨d0, d1, d2, d3, d4⟩ := X.open3
          replace hV := bal hV (.cells #[.int .i64 u, .int .i64 v, .int .i64 (E y 2)] 75)
          by_cases q1_ : (v : Int) = (x : Int)
          rotate_left
          · have HN := Lib.hid (show ∀ z, z < y + 1 → Ce.lastB E F D (x : Int) z = false from fun z hz => by
              by_cases e : z = y
              · rw [e, HLB.out]; have hfx := HFX.out; exact decide_eq_false (by omega)
              · exact hno.out z (by omega))
            have t1 : ((v : Int) == (x : Int)) = false := by simpa using q1_
            clear q1_
            go_wp2_with fail
            go_quiet (fail)
            go_wp2_with fail
            go_roundw
            case rel => exact ⟨y + 1, by omega, by go_num, rfl, rfl, HN, bdnl hV _⟩
            case measure => simp [intOf]; omega
          have t1 : ((v : Int) == (x : Int)) = true := by simpa using q1_
          by_cases q2_ : C u = 4611686018427387904
          · have HN := Lib.hid (show ∀ z, z < y + 1 → Ce.lastB E F D (x : Int) z = false from fun z hz => by
              by_cases e : z = y
              · rw [e, HLB.out]; have hfx := HFX.out; exact decide_eq_false (by omega)
              · exact hno.out z (by omega))
            have t2 : (C u != 4611686018427387904) = false := by simpa using q2_
            clear q1_ q2_ fu
            go_wp2_with fail
            go_quiet (fail)
            go_wp2_with fail
            go_roundw
            case rel => exact ⟨y + 1, by omega, by go_num, rfl, rfl, HN, bdnl hV _⟩
            case measure => simp [intOf]; omega
          have t2 : (C u != 4611686018427387904) = true := by simpa using q2_
          have fu2 : F u = C u ∧ 0 ≤ C u ∧ C u ≤ 562949953421312 ∧ 0 ≤ D u ∧ D u < 512 := by rcases fu with q | q <;> omega
          obtain ⟨fu3, fu4, fu5, fu6, fu7⟩ := fu2
          have HFU := Lib.hid fu3
          clear fu3 fu
          by_cases q3_ : C u + E y 2 = C x
          rotate_left
          · have HN := Lib.hid (show ∀ z, z < y + 1 → Ce.lastB E F D (x : Int) z = false from fun z hz => by
              by_cases e : z = y
              · rw [e, HLB.out]; have hfx := HFX.out; have hfu := HFU.out; exact decide_eq_false (by omega)
              · exact hno.out z (by omega))
            have t3 : (C u + E y 2 == C x) = false := by simpa using q3_
            clear q1_ q2_ q3_
            go_wp2_with fail
            go_quiet (fail)
            go_wp2_with fail
            go_roundw
            case rel => exact ⟨y + 1, by omega, by go_num, rfl, rfl, HN, bdnl hV _⟩
            case measure => simp [intOf]; omega
          have t3 : (C u + E y 2 == C x) = true := by simpa using q3_
          by_cases q4_ : D u + 1 = D x
          rotate_left
          · have HN := Lib.hid (show ∀ z, z < y + 1 → Ce.lastB E F D (x : Int) z = false from fun z hz => by
              by_cases e : z = y
              · rw [e, HLB.out]; have hfx := HFX.out; exact decide_eq_false (by omega)
              · exact hno.out z (by omega))
            have t4 : (D u + 1 == D x) = false := by simpa using q4_
            clear q1_ q2_ q3_ q4_
            go_wp2_with fail
            go_quiet (fail)
            go_wp2_with fail
            go_roundw
            case rel => exact ⟨y + 1, by omega, by go_num, rfl, rfl, HN, bdnl hV _⟩
            case measure => simp [intOf]; omega
          have t4 : (D u + 1 == D x) = true := by simpa using q4_
          have hyr := (Ce.fi_hit hno.out (show Ce.lastB E F D (x : Int) y = true by rw [HLB.out]; have hfx := HFX.out; have hfu := HFU.out; exact decide_eq_true (by omega)) m hlt2).symm.trans HFI.out
          obtain rfl : y = r := by omega
          clear q1_ q2_ q3_ q4_ hyr
          have HBN := Lib.hid (show Ce.bk m E F D (b : Int) (1 + k) = (u : Int) by rw [Nat.add_comm, ← EU.out]; have := HBL.out.2.2.2.1; rw [ER.out, Int.toNat_natCast] at this; exact this.symm)
          go_wp2_with fail
          go_quiet (fail)
          have X2 := X.drewN nq
          replace hV := bdnl hV nq
          clear X d0 d1 d2 d3 d4 v0 v1 v2 x1 x2 x3 x4
          generalize World.drewN (World.alloc wr _) nq = wT at X2 hV ⊢
          generalize wr.heap.size = gX at X2 ⊢
          have hlX := X2.lt
          have sV := hV.size
          have OL := own_one1 wT 3 (base := wO.heap.size) (y : Int) sV
          have RR2 := RR.keep hV
          go_wp2_with (at_builtin; refine wpList_append_Rd _ rfl _ _ 38 rfl wO.heap.size 3 i0 _ 1 8 Try.underlying38 HI.out HZ0.out HZ1.out HZ2.out rfl (by decide) rfl OL rfl (RR2.alloc _) (one_nv _) (by omega) (by omega) (by simp; omega) ?_; intro A2 c2 w3 own' hgr hob; have hW3 : Below wO.heap.size wO w3 := (bal hV _).trans (below_grown hgr (fun g hg => OL.base hg) (by simp; omega)); have X3 := (X2.alloc _).grown hgr (by simp [ob]; omega); obtain ⟨d0, d1, d2, d3, d4⟩ := X3.open3)
          have hap2 : ob A2 ≠ some gc := by
            have s1 := hW.size
            have s2 := hlgc
            rcases hob with z | z
            · rw [z]; simp [ob]; omega
            · rw [z]; simp; omega
          have RN := own'.rd.congr (V' := nv fun j => Ce.rb m E F D (b : Int) (1 + k - 1 - j)) fun i j hi _ => by
            unfold app nv
            by_cases z : i < 1
            · rw [if_pos z]
              show Value.int .i64 (y : Int) = .int .i64 (Ce.rb m E F D (b : Int) (1 + k - 1 - i))
              rw [show 1 + k - 1 - i = k by omega, ER.out]
            · rw [if_neg z]
              show Value.int .i64 (Ce.rb m E F D (b : Int) (k - 1 - (i - 1))) = .int .i64 (Ce.rb m E F D (b : Int) (1 + k - 1 - i))
              rw [show k - 1 - (i - 1) = 1 + k - 1 - i by omega]
          rw [← HB.out] at Gb ⊢
          go_roundg (L - (1 + k))
          case measure => omega
          case rel => exact ⟨1 + k, A2, c2, by omega, Nat.le_refl _, rfl, by rw [HBN.out], RN, hap2, bt hW hW3⟩
        · obtain rfl : y = m := by omega
          have := (Ce.fi_no (Ce.lastB E F D (x : Int)) y).2 hno.out
          have := HFI.out
          exfalso
          omega
    · obtain rfl : k = L := by omega
      have hxs := BE.out
      rw [ex] at hxs
      have h2 : ((x : Int) != (s : Int)) = false := by rw [hxs]; simp
      clear hxs ex
      rw [EX.out]
      have RT := RR.congr (V' := nv (Ce.rt m E F D (b : Int))) fun i j hi _ => by unfold nv Ce.rt; rw [Int.toNat_natCast, ELL.out]
      clear RR k0 k1 k2 k3 hgk
      go_wp2_with fail
      go_loopw [16, 107] (fun t_ i wr => ∃ v : Nat, v ≤ n ∧ i = .int .i64 v ∧ t_ = .int .i64 (Ce.mst F v) ∧ Below wO.heap.size wO wr) (fun _ i _ => n - (intOf i).toNat)
      case atStart => exact ⟨0, Nat.zero_le _, rfl, rfl, Below.refl _ _⟩
      case round =>
        obtain ⟨v, hv, rfl, rfl, hV⟩ := hrel
        by_cases hlt3 : v < n
        · obtain ⟨bc, oc, ec_, hlc, x1⟩ := (R1.keep (bt hW hV)).at1 hlt3
          injection ec_ with ec_; injection ec_ with e1 e2; subst e1 e2
          simp only [Nat.zero_add] at x1
          have fv := FD.out v hlt3
          have hmn := Ce.mst_nn F v
          by_cases hN : C v = 4611686018427387904
          · have t1 : (C v != 4611686018427387904) = false := by simpa using hN
            have hF : F v = -1 := by rcases fv with q | q <;> omega
            have HM := Lib.hid (show Ce.mst F (v + 1) = Ce.mst F v by rw [Ce.mst, if_neg (by omega)])
            clear hN fv hF
            go_wp2_with fail
            go_roundw
            case rel => exact ⟨v + 1, by omega, by go_num, by rw [HM.out], hV⟩
            case measure => simp [intOf]; omega
          · have t1 : (C v != 4611686018427387904) = true := by simpa using hN
            have hF : F v = C v ∧ 0 ≤ C v ∧ C v ≤ 562949953421312 := by rcases fv with q | q <;> omega
            obtain ⟨hF1, hF2, hF3⟩ := hF
            by_cases hm : Ce.mst F v < C v
            · have HM := Lib.hid (show Ce.mst F (v + 1) = C v by rw [Ce.mst, if_pos (by omega), hF1])
              have hx1 : max (Ce.mst F v) (C v) = C v := by omega
              have hx2 : max (C v) (Ce.mst F v) = C v := by omega
              clear hN fv hF1
              go_wp2_with fail
              go_roundw
              case rel => exact ⟨v + 1, by omega, by go_num, by rw [HM.out], hV⟩
              case measure => simp [intOf]; omega
            · have HM := Lib.hid (show Ce.mst F (v + 1) = Ce.mst F v by rw [Ce.mst, if_neg (by omega)])
              have hx1 : max (Ce.mst F v) (C v) = Ce.mst F v := by omega
              have hx2 : max (C v) (Ce.mst F v) = Ce.mst F v := by omega
              clear hN fv hF1
              go_wp2_with fail
              go_roundw
              case rel => exact ⟨v + 1, by omega, by go_num, by rw [HM.out], hV⟩
              case measure => simp [intOf]; omega
        · obtain rfl : v = n := by omega
          replace RT := RT.keep hV
          have hWV := bt hW hV
          replace q1 := q1.keep hWV
          clear hV hlt3
          go_wp2_with fail
          generalize hBW : wr = wQ at RT q1 hWV ⊢
          go_loopw [119] (fun i wr => ∃ p : Nat, p ≤ v ∧ i = .int .i64 p ∧ Own wr BASE 2 1 (some ⟨gc, 0, none⟩) v v (nv fun j => if j < p then Ce.pot v F j else C j) ∧ Rd wr 1 A1 k c1 (nv (Ce.rt m E F D (b : Int))) ∧ Below BASE wS wr) (fun i _ => v - (intOf i).toNat)
          case atStart => exact ⟨0, Nat.zero_le _, rfl, q1.congr (fun a j _ _ => by simp [nv]), RT, hWV.mono hsz⟩
          case round =>
            clear q1 RT
            obtain ⟨p, hp, rfl, q1, RT, hP⟩ := hrel
            by_cases hlt4 : p < v
            · have y1 := q1.num hlt4 (x := C p) (by simp)
              have y2 := q1.frozen
              have y3 := q1.lt1
              have fv := FD.out p hlt4
              by_cases hN : C p = 4611686018427387904
              · have t1 : (C p == 4611686018427387904) = true := by simpa using hN
                have hF : F p = -1 := by rcases fv with q | q <;> omega
                have Q1 := Lib.hid ((q1.up1 hlt4 (Ce.mst F v)).congr (V' := nv (fun j => if j < p + 1 then Ce.pot v F j else C j)) (fun i j _ _ => by
                  unfold nv; simp only [Ce.up]; congr 1
                  by_cases e : i = p
                  · subst e; rw [if_pos rfl, if_pos (by omega)]; unfold Ce.pot; rw [if_pos (by omega)]
                  · rw [if_neg e]; (repeat' split) <;> first | rfl | omega))
                have HW := Lib.hid (hP.setCell (p := ⟨gc, p, none⟩) (q1.base rfl) (.int .i64 (Ce.mst F v)))
                have HRT := Lib.hid (rd_far RT hap (.int .i64 (Ce.mst F v)) (p := ⟨gc, p, none⟩))
                clear hN fv hF
                go_wp2_with fail
                go_roundw
                case rel => exact ⟨p + 1, by omega, by go_num, Q1.out, HRT.out, HW.out⟩
                case measure => simp [intOf]; omega
              · have t1 : (C p == 4611686018427387904) = false := by simpa using hN
                have hF : F p = C p ∧ 0 ≤ C p := by rcases fv with q | q <;> omega
                have Q1 := Lib.hid (q1.congr (V' := nv (fun j => if j < p + 1 then Ce.pot v F j else C j)) (fun i j _ _ => by
                  unfold nv; congr 1
                  show (if i < p then Ce.pot v F i else C i) = (if i < p + 1 then Ce.pot v F i else C i)
                  by_cases e : i = p
                  · subst e; rw [if_neg (by omega), if_pos (by omega)]; unfold Ce.pot; rw [if_neg (by omega)]; omega
                  · (repeat' split) <;> first | rfl | omega))
                clear hN fv hF
                go_wp2_with fail
                go_roundw
                case rel => exact ⟨p + 1, by omega, by go_num, Q1.out, RT, hP⟩
                case measure => simp [intOf]; omega
            · obtain rfl : p = v := by omega
              have RP := q1.rd.congr (V' := nv (Ce.pot p F)) (fun i j hi _ => by unfold nv; simp only [hi, if_true])
              have HBB := hB.trans (hP.mono hsw)
              go_wp2_with fail
              go_returns
              exact ⟨F, D, HL, HBB, .inr ⟨hC, A1, c1, some ⟨gc, 0, none⟩, p, by rw [ELL.out]; rfl, by rw [ELL.out]; exact RT, RP⟩⟩
end Go.Proofs.Ytoeklllahpegfaa
