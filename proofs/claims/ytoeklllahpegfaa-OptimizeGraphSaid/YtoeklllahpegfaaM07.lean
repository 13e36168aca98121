/-
  Words and contracts, put together: L2.
-/
import Derived.Test.YtoeklllahpegfaaM06
/-
  Contract: labels.
-/
namespace Go.Proofs.Ytoeklllahpegfaa
set_option linter.unusedVariables false
set_option linter.unusedSimpArgs false
open Go.RowKit
attribute [local irreducible] World.setCell World.cell?

set_option maxRecDepth 100000 in
set_option maxHeartbeats 4000000 in
theorem labels_c (A : Option Addr) (n m c : Nat) (E : Ce.Tab) (s : Nat) (w : World) (T : Rd w 3 A m c (iv E)) (O : Ce.Ok (n : Int) m E) (hs : s < n) : Calls Try.prog 53 #[.agg #[.int .i64 (n : Int), .slice A m c], .int .i64 (s : Int)] w fun e w' => ∃ (C D : Nat → Int) (F : Nat → Bool), Hid (Ce.Lab n m E s C D) ∧ e = .returned (.slice (some ⟨w.heap.size + 1, 0, none⟩) n n) ∧ Rd w' 3 (some ⟨w.heap.size + 1, 0, none⟩) n n (lv C D F) ∧ Below w.heap.size w w' := by
  have o1 := O.n1
  have o2 := O.n2
  have o3 := O.hm
  have r1 := T.le
  have r2 := T.mx
  have hn1 : 1 ≤ n := by omega
  have hn2 : n ≤ 512 := by omega
  have hmk := mk_lab n hn2
  have hmk2 := mk_rows n hn2
  obtain ⟨b, hb_⟩ : ∃ b, w.heap.size = b := ⟨_, rfl⟩
  have HBW := Lib.hid hb_
  go_enter Try.func53, Try.ntmps53
  try simp only [List.append_eq, List.cons_append, List.nil_append]
  have Gb := Blk.new w 41 #[.int .i64 (n), .slice A m c]
  have hB := ba w (.cells #[.int .i64 (n), .slice A m c] 41)
  have own := own_lab (w.alloc (.cells #[.int .i64 (n), .slice A m c] 41)) (w.heap.size + 1) n hn2 (by simp)
  replace Gb := Gb.alloc (.cells (madeCells #[.int .i64 0, .int .i64 0, .bool false] (n * 3)) 83)
  replace hB := bal hB (.cells (madeCells #[.int .i64 0, .int .i64 0, .bool false] (n * 3)) 83)
  obtain ⟨c00, c01, c02, c03⟩ := Gb.open2
  go_wp2_with fail
  clear c00 c01 c02 c03 hmk
  rw [show (World.alloc w (.cells #[.int .i64 (n), .slice A m c] 41)).heap.size = b + 1 by simp [hb_]] at own
  rw [hb_] at own Gb
  clear hb_
  go_loopw [23] (fun i wr => ∃ k : Nat, k ≤ n ∧ i = .int .i64 k ∧ Own wr (b + 1) 83 3 (some ⟨b + 1, 0, none⟩) n n (lv (fun v => if v < k then -1 else 0) (fun _ => 0) (fun _ => false)) ∧ Blk wr b 41 #[.int .i64 (n), .slice A m c] ∧ wr.heap.size = b + 2 ∧ Below w.heap.size w wr) (fun i _ => n - (intOf i).toNat)
  case atStart => exact ⟨0, Nat.zero_le _, rfl, own.congr (fun i j _ _ => lv_up (by simp) rfl rfl), Gb, by simp [HBW.out], hB⟩
  case round =>
    clear own Gb hB
    obtain ⟨k, hk, rfl, own, Gb, hsz, hB⟩ := hrel
    by_cases hlt : k < n
    · obtain ⟨y0, y1, y2, y3⟩ := own.lab hlt
      have l1 := own.lt1
      have own2 := (own.setC hlt (-1)).congr (V' := lv (fun v => if v < k + 1 then -1 else 0) (fun _ => 0) (fun _ => false)) fun i j hi hj => lv_up (by simp only [Ce.up]; (repeat' split) <;> omega) rfl rfl
      have Gb2 := Gb.far (p := ⟨b + 1, k * 3, none⟩) (by simp) (.int .i64 (-1))
      have hB2 := bst hB (p := ⟨b + 1, k * 3, none⟩) (by have := HBW.out; simp; omega) (.int .i64 (-1))
      have OWN2 := Lib.hid own2
      clear own2
      go_wp2_with fail
      go_roundw
      case rel => exact ⟨k + 1, by omega, by go_num, OWN2.out, Gb2, by simpa using hsz, hB2⟩
      case measure => simp [intOf]; omega
    · obtain rfl : k = n := by omega
      obtain ⟨c0, c1, c2, c3⟩ := Gb.open2
      obtain ⟨y0, y1, y2, y3⟩ := own.lab hs
      have l1 := own.lt1
      have i1 : (0 : Int) ≤ (s : Int) := by omega
      have i2 : (s : Int) < (k : Int) := by omega
      have own2 := (own.setC hs 0).congr (V' := lv (Ce.up (fun _ => -1) s 0) (fun _ => 0) (fun _ => false)) fun i j hi hj => lv_up (by simp only [Ce.up]; (repeat' split) <;> omega) rfl rfl
      have Gb2 := Gb.far (p := ⟨b + 1, s * 3, none⟩) (by simp) (.int .i64 0)
      have hB2 := bst hB (p := ⟨b + 1, s * 3, none⟩) (by have := HBW.out; simp; omega) (.int .i64 0)
      have OWN2 := Lib.hid own2
      clear own2
      have lg := Lg.start (w := wr.setCell ⟨b + 1, s * 3, none⟩ (.int .i64 0)) (n := k) E hn2 (by simpa using hsz)
      have own3 := OWN2.out.alloc (.cells (madeCells #[.slice none 0 0] k) 39)
      replace hB2 := bal hB2 (.cells (madeCells #[.slice none 0 0] k) 39)
      go_wp2_with fail
      clear c0 c1 c2 c3 y0 y1 y2 y3 Gb2 Gb OWN2 hmk2 own i1 i2 l1
      generalize World.alloc (wr.setCell ⟨b + 1, s * 3, none⟩ (.int .i64 0)) _ = wA at own3 lg hB2 ⊢
      clear hB hsz hlt
      go_loopw [41] (fun i wr => ∃ (j : Nat) (ln : Nat → Nat) (ix : Nat → Nat → Nat) (Ar : Nat → Option Addr) (cr : Nat → Nat), j ≤ m ∧ i = .int .i64 j ∧ Hid (Ce.Lv E j ln ix) ∧ Own wr (b + 1) 83 3 (some ⟨b + 1, 0, none⟩) k k (lv (Ce.up (fun _ => -1) s 0) (fun _ => 0) (fun _ => false)) ∧ Lg wr b k E ln ix Ar cr ∧ Below w.heap.size w wr) (fun i _ => m - (intOf i).toNat)
      case atStart => exact ⟨0, _, _, _, _, Nat.zero_le _, rfl, Ce.Lv.start E, own3, lg, hB2⟩
      case round =>
        clear own3 lg hB2
        obtain ⟨j, ln, ix, Ar, cr, hj, rfl, hLv, own, lg, hB⟩ := hrel
        by_cases hlt : j < m
        · have he := O.e j hlt
          obtain ⟨a, ea⟩ : ∃ q : Nat, E j 0 = (q : Int) := ⟨(E j 0).toNat, by have := he.f0; omega⟩
          have han : a < k := by have := he.f1; omega
          have hfa : Ce.fr E j = a := by unfold Ce.fr; omega
          have i1 : (0 : Int) ≤ (a : Int) := by omega
          have i2 : (a : Int) < (k : Int) := by omega
          obtain ⟨b3, off3, eB, hbl3, v0, v1, v2⟩ := (T.keep hB).at3 hlt
          rw [ea] at v0
          have HB := Lib.hid eB
          rw [HB.out]
          have hla : ln a + 1 ≤ 8193 := by have := hLv.out.b a; omega
          obtain ⟨i0, hi, hz0, hz1, hz2⟩ := info_parts infoE
          have HI := Lib.hid hi
          have HZ0 := Lib.hid hz0
          have HZ1 := Lib.hid hz1
          have HZ2 := Lib.hid hz2
          have HFA := Lib.hid hfa
          have EA := Lib.hid ea
          clear eB ea he hi hz0 hz1 hz2 hfa
          have X := Blk.new wr 75 #[.int .i64 a, .int .i64 (E j 1), .int .i64 (E j 2)]
          have nX : ob (Ar a) ≠ some wr.heap.size := fun z => by have := (lg.el a han).top z; omega
          have lX : b + 2 < wr.heap.size := lg.row.lt1
          replace own := own.alloc (.cells #[.int .i64 a, .int .i64 (E j 1), .int .i64 (E j 2)] 75)
          replace lg := lg.alloc (.cells #[.int .i64 a, .int .i64 (E j 1), .int .i64 (E j 2)] 75)
          replace hB := bal hB (.cells #[.int .i64 a, .int .i64 (E j 1), .int .i64 (E j 2)] 75)
          have hV : ∀ f, f < 3 → (fun (_ j_ : Nat) => Value.int .i64 (if j_ = 0 then (a : Int) else if j_ = 1 then E j 1 else E j 2)) 0 f = .int .i64 (E j f) := fun f hf => by
            match f, hf with
            | 0, _ => simp [EA.out]
            | 1, _ => rfl
            | 2, _ => rfl
          have nL : ob (some ⟨b + 1, 0, none⟩) ≠ ob (Ar a) := fun z => by have := (lg.el a han).base (g := b + 1) z.symm; omega
          go_wp2_with fail
          generalize World.alloc wr _ = wV at X own lg hB ⊢
          generalize wr.heap.size = gX at X nX lX ⊢
          clear v0 v1 v2 hbl3
          refine wp_region_inv (fun L x G wx => Below w.heap.size w wx
                ∧ Blk wx gX 75 #[.int .i64 a, .int .i64 (E j 1), .int .i64 (E j 2)]
                ∧ Own wx (b + 1) 83 3 (some ⟨b + 1, 0, none⟩) k k (lv (Ce.up (fun _ => -1) s 0) (fun _ => 0) (fun _ => false))
                ∧ (L 9 → ¬ L 10 → Blk wx (G 9) 75 #[.int .i64 a, .int .i64 (E j 1), .int .i64 (E j 2)])
                ∧ (¬ L 10 → Lg wx b k E ln ix Ar cr)
                ∧ (L 10 → ¬ L 12 → Lm wx b k E ln ix Ar cr a j (G 10) (G 20))
                ∧ (L 12 → Lg wx b k E (Ce.upn ln a (ln a + 1)) (Ce.upx ix a (ln a) j) (upA Ar a (some ⟨G 10, 0, none⟩)) (Ce.upn cr a (G 20)))
                ∧ (L 12 → L 10)
                ∧ (L 10 → L 7 ∧ L 9)
                ∧ (L 0 → x 45 = .slice (some ⟨b + 2, 0, none⟩) k k)
                ∧ (L 1 → x 46 = .pointer (some ⟨gX, 0, none⟩))
                ∧ (L 2 → x 47 = .int .i64 (a : Int))
                ∧ (L 3 → x 48 = .slice (some ⟨b + 2, 0, none⟩) k k)
                ∧ (L 4 → x 49 = .pointer (some ⟨gX, 0, none⟩))
                ∧ (L 5 → x 50 = .int .i64 (a : Int))
                ∧ (L 6 → x 51 = .pointer (some ⟨b + 2, a, none⟩))
                ∧ (L 7 → x 52 = .slice (Ar a) (ln a) (cr a))
                ∧ (L 8 → x 53 = .agg #[.int .i64 a, .int .i64 (E j 1), .int .i64 (E j 2)])
                ∧ (L 9 → x 54 = .slice (some ⟨G 9, 0, none⟩) 1 1)
                ∧ (L 10 → x 55 = .slice (some ⟨G 10, 0, none⟩) (ln a + 1) (G 20))
                ∧ (L 11 → x 56 = .pointer (some ⟨b + 2, a, none⟩))) [45, 46, 47, 48, 49, 50, 51, 52, 53, 54, 55, 56] 13 (by kernel_rfl) (by kernel_rfl) (by kernel_rfl) ?h0 ?st ?fin
          case h0 =>
            exact ⟨bdr hB, X.drew, own.drew, fun q => q.elim, fun _ => lg.drew, fun q => q.elim, fun q => q.elim, fun q => q.elim, fun q => q.elim, fun q => q.elim, fun q => q.elim, fun q => q.elim, fun q => q.elim, fun q => q.elim, fun q => q.elim, fun q => q.elim, fun q => q.elim, fun q => q.elim, fun q => q.elim, fun q => q.elim, fun q => q.elim⟩
          case st =>
            refine StepsOk.cons (i := 0) rfl (fun L x G w1 K Q hn hp hJ hK => ?_) ?_
            · skip
              simp only [putAll, Act.put, List.setIfInBounds_toArray, List.set_cons_zero, List.set_cons_succ]
              go_simp
              refine hK _ G _ (by kernel_rfl) ?_
              exact ⟨(hJ.1),
                (hJ.2.1),
                (hJ.2.2.1),
                fun q n => (hJ.2.2.2.1) (q.resolve_left (by decide)) (fun m => n (.inr m)),
                fun n => (hJ.2.2.2.2.1) (fun m => n (.inr m)),
                fun q n => (hJ.2.2.2.2.2.1) (q.resolve_left (by decide)) (fun m => n (.inr m)),
                fun q => (hJ.2.2.2.2.2.2.1) (q.resolve_left (by decide)),
                fun q => .inr ((hJ.2.2.2.2.2.2.2.1) (q.resolve_left (by decide))),
                fun q => ⟨.inr ((hJ.2.2.2.2.2.2.2.2.1) (q.resolve_left (by decide))).1, .inr ((hJ.2.2.2.2.2.2.2.2.1) (q.resolve_left (by decide))).2⟩,
                fun _ => rfl,
                fun q => (hJ.2.2.2.2.2.2.2.2.2.2.1) (q.resolve_left (by decide)),
                fun q => (hJ.2.2.2.2.2.2.2.2.2.2.2.1) (q.resolve_left (by decide)),
                fun q => (hJ.2.2.2.2.2.2.2.2.2.2.2.2.1) (q.resolve_left (by decide)),
                fun q => (hJ.2.2.2.2.2.2.2.2.2.2.2.2.2.1) (q.resolve_left (by decide)),
                fun q => (hJ.2.2.2.2.2.2.2.2.2.2.2.2.2.2.1) (q.resolve_left (by decide)),
                fun q => (hJ.2.2.2.2.2.2.2.2.2.2.2.2.2.2.2.1) (q.resolve_left (by decide)),
                fun q => (hJ.2.2.2.2.2.2.2.2.2.2.2.2.2.2.2.2.1) (q.resolve_left (by decide)),
                fun q => (hJ.2.2.2.2.2.2.2.2.2.2.2.2.2.2.2.2.2.1) (q.resolve_left (by decide)),
                fun q => (hJ.2.2.2.2.2.2.2.2.2.2.2.2.2.2.2.2.2.2.1) (q.resolve_left (by decide)),
                fun q => (hJ.2.2.2.2.2.2.2.2.2.2.2.2.2.2.2.2.2.2.2.1) (q.resolve_left (by decide)),
                fun q => (hJ.2.2.2.2.2.2.2.2.2.2.2.2.2.2.2.2.2.2.2.2) (q.resolve_left (by decide))⟩
            refine StepsOk.cons (i := 1) rfl (fun L x G w1 K Q hn hp hJ hK => ?_) ?_
            · skip
              simp only [putAll, Act.put, List.setIfInBounds_toArray, List.set_cons_zero, List.set_cons_succ]
              go_simp
              refine hK _ G _ (by kernel_rfl) ?_
              exact ⟨(hJ.1),
                (hJ.2.1),
                (hJ.2.2.1),
                fun q n => (hJ.2.2.2.1) (q.resolve_left (by decide)) (fun m => n (.inr m)),
                fun n => (hJ.2.2.2.2.1) (fun m => n (.inr m)),
                fun q n => (hJ.2.2.2.2.2.1) (q.resolve_left (by decide)) (fun m => n (.inr m)),
                fun q => (hJ.2.2.2.2.2.2.1) (q.resolve_left (by decide)),
                fun q => .inr ((hJ.2.2.2.2.2.2.2.1) (q.resolve_left (by decide))),
                fun q => ⟨.inr ((hJ.2.2.2.2.2.2.2.2.1) (q.resolve_left (by decide))).1, .inr ((hJ.2.2.2.2.2.2.2.2.1) (q.resolve_left (by decide))).2⟩,
                fun q => (hJ.2.2.2.2.2.2.2.2.2.1) (q.resolve_left (by decide)),
                fun _ => rfl,
                fun q => (hJ.2.2.2.2.2.2.2.2.2.2.2.1) (q.resolve_left (by decide)),
                fun q => (hJ.2.2.2.2.2.2.2.2.2.2.2.2.1) (q.resolve_left (by decide)),
                fun q => (hJ.2.2.2.2.2.2.2.2.2.2.2.2.2.1) (q.resolve_left (by decide)),
                fun q => (hJ.2.2.2.2.2.2.2.2.2.2.2.2.2.2.1) (q.resolve_left (by decide)),
                fun q => (hJ.2.2.2.2.2.2.2.2.2.2.2.2.2.2.2.1) (q.resolve_left (by decide)),
                fun q => (hJ.2.2.2.2.2.2.2.2.2.2.2.2.2.2.2.2.1) (q.resolve_left (by decide)),
                fun q => (hJ.2.2.2.2.2.2.2.2.2.2.2.2.2.2.2.2.2.1) (q.resolve_left (by decide)),
                fun q => (hJ.2.2.2.2.2.2.2.2.2.2.2.2.2.2.2.2.2.2.1) (q.resolve_left (by decide)),
                fun q => (hJ.2.2.2.2.2.2.2.2.2.2.2.2.2.2.2.2.2.2.2.1) (q.resolve_left (by decide)),
                fun q => (hJ.2.2.2.2.2.2.2.2.2.2.2.2.2.2.2.2.2.2.2.2) (q.resolve_left (by decide))⟩
            refine StepsOk.cons (i := 2) rfl (fun L x G w1 K Q hn hp hJ hK => ?_) ?_
            · skip
              have p1 : L 1 := hp ⟨1, .data⟩ (by simp) rfl
              have e1 := (hJ.2.2.2.2.2.2.2.2.2.2.1) p1
              have hc := Blk.open3 (hJ.2.1)
              have c0_ := hc.1
              have c1_ := hc.2.1
              have c2_ := hc.2.2.1
              have c3_ := hc.2.2.2.1
              have c4_ := hc.2.2.2.2
              clear hc
              simp only [putAll, Act.put, List.setIfInBounds_toArray, List.set_cons_zero, List.set_cons_succ]
              go_simp
              refine hK _ G _ (by kernel_rfl) ?_
              exact ⟨(hJ.1),
                (hJ.2.1),
                (hJ.2.2.1),
                fun q n => (hJ.2.2.2.1) (q.resolve_left (by decide)) (fun m => n (.inr m)),
                fun n => (hJ.2.2.2.2.1) (fun m => n (.inr m)),
                fun q n => (hJ.2.2.2.2.2.1) (q.resolve_left (by decide)) (fun m => n (.inr m)),
                fun q => (hJ.2.2.2.2.2.2.1) (q.resolve_left (by decide)),
                fun q => .inr ((hJ.2.2.2.2.2.2.2.1) (q.resolve_left (by decide))),
                fun q => ⟨.inr ((hJ.2.2.2.2.2.2.2.2.1) (q.resolve_left (by decide))).1, .inr ((hJ.2.2.2.2.2.2.2.2.1) (q.resolve_left (by decide))).2⟩,
                fun q => (hJ.2.2.2.2.2.2.2.2.2.1) (q.resolve_left (by decide)),
                fun _ => by first | exact rfl | exact e1,
                fun _ => rfl,
                fun q => (hJ.2.2.2.2.2.2.2.2.2.2.2.2.1) (q.resolve_left (by decide)),
                fun q => (hJ.2.2.2.2.2.2.2.2.2.2.2.2.2.1) (q.resolve_left (by decide)),
                fun q => (hJ.2.2.2.2.2.2.2.2.2.2.2.2.2.2.1) (q.resolve_left (by decide)),
                fun q => (hJ.2.2.2.2.2.2.2.2.2.2.2.2.2.2.2.1) (q.resolve_left (by decide)),
                fun q => (hJ.2.2.2.2.2.2.2.2.2.2.2.2.2.2.2.2.1) (q.resolve_left (by decide)),
                fun q => (hJ.2.2.2.2.2.2.2.2.2.2.2.2.2.2.2.2.2.1) (q.resolve_left (by decide)),
                fun q => (hJ.2.2.2.2.2.2.2.2.2.2.2.2.2.2.2.2.2.2.1) (q.resolve_left (by decide)),
                fun q => (hJ.2.2.2.2.2.2.2.2.2.2.2.2.2.2.2.2.2.2.2.1) (q.resolve_left (by decide)),
                fun q => (hJ.2.2.2.2.2.2.2.2.2.2.2.2.2.2.2.2.2.2.2.2) (q.resolve_left (by decide))⟩
            refine StepsOk.cons (i := 3) rfl (fun L x G w1 K Q hn hp hJ hK => ?_) ?_
            · skip
              simp only [putAll, Act.put, List.setIfInBounds_toArray, List.set_cons_zero, List.set_cons_succ]
              go_simp
              refine hK _ G _ (by kernel_rfl) ?_
              exact ⟨(hJ.1),
                (hJ.2.1),
                (hJ.2.2.1),
                fun q n => (hJ.2.2.2.1) (q.resolve_left (by decide)) (fun m => n (.inr m)),
                fun n => (hJ.2.2.2.2.1) (fun m => n (.inr m)),
                fun q n => (hJ.2.2.2.2.2.1) (q.resolve_left (by decide)) (fun m => n (.inr m)),
                fun q => (hJ.2.2.2.2.2.2.1) (q.resolve_left (by decide)),
                fun q => .inr ((hJ.2.2.2.2.2.2.2.1) (q.resolve_left (by decide))),
                fun q => ⟨.inr ((hJ.2.2.2.2.2.2.2.2.1) (q.resolve_left (by decide))).1, .inr ((hJ.2.2.2.2.2.2.2.2.1) (q.resolve_left (by decide))).2⟩,
                fun q => (hJ.2.2.2.2.2.2.2.2.2.1) (q.resolve_left (by decide)),
                fun q => (hJ.2.2.2.2.2.2.2.2.2.2.1) (q.resolve_left (by decide)),
                fun q => (hJ.2.2.2.2.2.2.2.2.2.2.2.1) (q.resolve_left (by decide)),
                fun _ => rfl,
                fun q => (hJ.2.2.2.2.2.2.2.2.2.2.2.2.2.1) (q.resolve_left (by decide)),
                fun q => (hJ.2.2.2.2.2.2.2.2.2.2.2.2.2.2.1) (q.resolve_left (by decide)),
                fun q => (hJ.2.2.2.2.2.2.2.2.2.2.2.2.2.2.2.1) (q.resolve_left (by decide)),
                fun q => (hJ.2.2.2.2.2.2.2.2.2.2.2.2.2.2.2.2.1) (q.resolve_left (by decide)),
                fun q => (hJ.2.2.2.2.2.2.2.2.2.2.2.2.2.2.2.2.2.1) (q.resolve_left (by decide)),
                fun q => (hJ.2.2.2.2.2.2.2.2.2.2.2.2.2.2.2.2.2.2.1) (q.resolve_left (by decide)),
                fun q => (hJ.2.2.2.2.2.2.2.2.2.2.2.2.2.2.2.2.2.2.2.1) (q.resolve_left (by decide)),
                fun q => (hJ.2.2.2.2.2.2.2.2.2.2.2.2.2.2.2.2.2.2.2.2) (q.resolve_left (by decide))⟩
            refine StepsOk.cons (i := 4) rfl (fun L x G w1 K Q hn hp hJ hK => ?_) ?_
            · skip
              simp only [putAll, Act.put, List.setIfInBounds_toArray, List.set_cons_zero, List.set_cons_succ]
              go_simp
              refine hK _ G _ (by kernel_rfl) ?_
              exact ⟨(hJ.1),
                (hJ.2.1),
                (hJ.2.2.1),
                fun q n => (hJ.2.2.2.1) (q.resolve_left (by decide)) (fun m => n (.inr m)),
                fun n => (hJ.2.2.2.2.1) (fun m => n (.inr m)),
                fun q n => (hJ.2.2.2.2.2.1) (q.resolve_left (by decide)) (fun m => n (.inr m)),
                fun q => (hJ.2.2.2.2.2.2.1) (q.resolve_left (by decide)),
                fun q => .inr ((hJ.2.2.2.2.2.2.2.1) (q.resolve_left (by decide))),
                fun q => ⟨.inr ((hJ.2.2.2.2.2.2.2.2.1) (q.resolve_left (by decide))).1, .inr ((hJ.2.2.2.2.2.2.2.2.1) (q.resolve_left (by decide))).2⟩,
                fun q => (hJ.2.2.2.2.2.2.2.2.2.1) (q.resolve_left (by decide)),
                fun q => (hJ.2.2.2.2.2.2.2.2.2.2.1) (q.resolve_left (by decide)),
                fun q => (hJ.2.2.2.2.2.2.2.2.2.2.2.1) (q.resolve_left (by decide)),
                fun q => (hJ.2.2.2.2.2.2.2.2.2.2.2.2.1) (q.resolve_left (by decide)),
                fun _ => rfl,
                fun q => (hJ.2.2.2.2.2.2.2.2.2.2.2.2.2.2.1) (q.resolve_left (by decide)),
                fun q => (hJ.2.2.2.2.2.2.2.2.2.2.2.2.2.2.2.1) (q.resolve_left (by decide)),
                fun q => (hJ.2.2.2.2.2.2.2.2.2.2.2.2.2.2.2.2.1) (q.resolve_left (by decide)),
                fun q => (hJ.2.2.2.2.2.2.2.2.2.2.2.2.2.2.2.2.2.1) (q.resolve_left (by decide)),
                fun q => (hJ.2.2.2.2.2.2.2.2.2.2.2.2.2.2.2.2.2.2.1) (q.resolve_left (by decide)),
                fun q => (hJ.2.2.2.2.2.2.2.2.2.2.2.2.2.2.2.2.2.2.2.1) (q.resolve_left (by decide)),
                fun q => (hJ.2.2.2.2.2.2.2.2.2.2.2.2.2.2.2.2.2.2.2.2) (q.resolve_left (by decide))⟩
            refine StepsOk.cons (i := 5) rfl (fun L x G w1 K Q hn hp hJ hK => ?_) ?_
            · skip
              have p4 : L 4 := hp ⟨4, .data⟩ (by simp) rfl
              have e4 := (hJ.2.2.2.2.2.2.2.2.2.2.2.2.2.1) p4
              have hc := Blk.open3 (hJ.2.1)
              have c0_ := hc.1
              have c1_ := hc.2.1
              have c2_ := hc.2.2.1
              have c3_ := hc.2.2.2.1
              have c4_ := hc.2.2.2.2
              clear hc
              simp only [putAll, Act.put, List.setIfInBounds_toArray, List.set_cons_zero, List.set_cons_succ]
              go_simp
              refine hK _ G _ (by kernel_rfl) ?_
              exact ⟨(hJ.1),
                (hJ.2.1),
                (hJ.2.2.1),
                fun q n => (hJ.2.2.2.1) (q.resolve_left (by decide)) (fun m => n (.inr m)),
                fun n => (hJ.2.2.2.2.1) (fun m => n (.inr m)),
                fun q n => (hJ.2.2.2.2.2.1) (q.resolve_left (by decide)) (fun m => n (.inr m)),
                fun q => (hJ.2.2.2.2.2.2.1) (q.resolve_left (by decide)),
                fun q => .inr ((hJ.2.2.2.2.2.2.2.1) (q.resolve_left (by decide))),
                fun q => ⟨.inr ((hJ.2.2.2.2.2.2.2.2.1) (q.resolve_left (by decide))).1, .inr ((hJ.2.2.2.2.2.2.2.2.1) (q.resolve_left (by decide))).2⟩,
                fun q => (hJ.2.2.2.2.2.2.2.2.2.1) (q.resolve_left (by decide)),
                fun q => (hJ.2.2.2.2.2.2.2.2.2.2.1) (q.resolve_left (by decide)),
                fun q => (hJ.2.2.2.2.2.2.2.2.2.2.2.1) (q.resolve_left (by decide)),
                fun q => (hJ.2.2.2.2.2.2.2.2.2.2.2.2.1) (q.resolve_left (by decide)),
                fun _ => by first | exact rfl | exact e4,
                fun _ => rfl,
                fun q => (hJ.2.2.2.2.2.2.2.2.2.2.2.2.2.2.2.1) (q.resolve_left (by decide)),
                fun q => (hJ.2.2.2.2.2.2.2.2.2.2.2.2.2.2.2.2.1) (q.resolve_left (by decide)),
                fun q => (hJ.2.2.2.2.2.2.2.2.2.2.2.2.2.2.2.2.2.1) (q.resolve_left (by decide)),
                fun q => (hJ.2.2.2.2.2.2.2.2.2.2.2.2.2.2.2.2.2.2.1) (q.resolve_left (by decide)),
                fun q => (hJ.2.2.2.2.2.2.2.2.2.2.2.2.2.2.2.2.2.2.2.1) (q.resolve_left (by decide)),
                fun q => (hJ.2.2.2.2.2.2.2.2.2.2.2.2.2.2.2.2.2.2.2.2) (q.resolve_left (by decide))⟩
            refine StepsOk.cons (i := 6) rfl (fun L x G w1 K Q hn hp hJ hK => ?_) ?_
            · skip
              have p3 : L 3 := hp ⟨3, .data⟩ (by simp) rfl
              have e3 := (hJ.2.2.2.2.2.2.2.2.2.2.2.2.1) p3
              have p5 : L 5 := hp ⟨5, .data⟩ (by simp) rfl
              have e5 := (hJ.2.2.2.2.2.2.2.2.2.2.2.2.2.2.1) p5
              simp only [putAll, Act.put, List.setIfInBounds_toArray, List.set_cons_zero, List.set_cons_succ]
              go_simp
              refine hK _ G _ (by kernel_rfl) ?_
              exact ⟨(hJ.1),
                (hJ.2.1),
                (hJ.2.2.1),
                fun q n => (hJ.2.2.2.1) (q.resolve_left (by decide)) (fun m => n (.inr m)),
                fun n => (hJ.2.2.2.2.1) (fun m => n (.inr m)),
                fun q n => (hJ.2.2.2.2.2.1) (q.resolve_left (by decide)) (fun m => n (.inr m)),
                fun q => (hJ.2.2.2.2.2.2.1) (q.resolve_left (by decide)),
                fun q => .inr ((hJ.2.2.2.2.2.2.2.1) (q.resolve_left (by decide))),
                fun q => ⟨.inr ((hJ.2.2.2.2.2.2.2.2.1) (q.resolve_left (by decide))).1, .inr ((hJ.2.2.2.2.2.2.2.2.1) (q.resolve_left (by decide))).2⟩,
                fun q => (hJ.2.2.2.2.2.2.2.2.2.1) (q.resolve_left (by decide)),
                fun q => (hJ.2.2.2.2.2.2.2.2.2.2.1) (q.resolve_left (by decide)),
                fun q => (hJ.2.2.2.2.2.2.2.2.2.2.2.1) (q.resolve_left (by decide)),
                fun _ => by first | exact rfl | exact e3,
                fun q => (hJ.2.2.2.2.2.2.2.2.2.2.2.2.2.1) (q.resolve_left (by decide)),
                fun _ => by first | exact rfl | exact e5,
                fun _ => rfl,
                fun q => (hJ.2.2.2.2.2.2.2.2.2.2.2.2.2.2.2.2.1) (q.resolve_left (by decide)),
                fun q => (hJ.2.2.2.2.2.2.2.2.2.2.2.2.2.2.2.2.2.1) (q.resolve_left (by decide)),
                fun q => (hJ.2.2.2.2.2.2.2.2.2.2.2.2.2.2.2.2.2.2.1) (q.resolve_left (by decide)),
                fun q => (hJ.2.2.2.2.2.2.2.2.2.2.2.2.2.2.2.2.2.2.2.1) (q.resolve_left (by decide)),
                fun q => (hJ.2.2.2.2.2.2.2.2.2.2.2.2.2.2.2.2.2.2.2.2) (q.resolve_left (by decide))⟩
            refine StepsOk.cons (i := 7) rfl (fun L x G w1 K Q hn hp hJ hK => ?_) ?_
            · skip
              have p6 : L 6 := hp ⟨6, .data⟩ (by simp) rfl
              have e6 := (hJ.2.2.2.2.2.2.2.2.2.2.2.2.2.2.2.1) p6
              have hl_ := ((hJ.2.2.2.2.1) (fun z => hn ((hJ.2.2.2.2.2.2.2.2.1) z).1)).cell han
              simp only [putAll, Act.put, List.setIfInBounds_toArray, List.set_cons_zero, List.set_cons_succ]
              go_simp
              refine hK _ G _ (by kernel_rfl) ?_
              exact ⟨(hJ.1),
                (hJ.2.1),
                (hJ.2.2.1),
                fun q n => (hJ.2.2.2.1) (q.resolve_left (by decide)) (fun m => n (.inr m)),
                fun n => (hJ.2.2.2.2.1) (fun m => n (.inr m)),
                fun q n => (hJ.2.2.2.2.2.1) (q.resolve_left (by decide)) (fun m => n (.inr m)),
                fun q => (hJ.2.2.2.2.2.2.1) (q.resolve_left (by decide)),
                fun q => .inr ((hJ.2.2.2.2.2.2.2.1) (q.resolve_left (by decide))),
                fun q => ⟨.inr ((hJ.2.2.2.2.2.2.2.2.1) (q.resolve_left (by decide))).1, .inr ((hJ.2.2.2.2.2.2.2.2.1) (q.resolve_left (by decide))).2⟩,
                fun q => (hJ.2.2.2.2.2.2.2.2.2.1) (q.resolve_left (by decide)),
                fun q => (hJ.2.2.2.2.2.2.2.2.2.2.1) (q.resolve_left (by decide)),
                fun q => (hJ.2.2.2.2.2.2.2.2.2.2.2.1) (q.resolve_left (by decide)),
                fun q => (hJ.2.2.2.2.2.2.2.2.2.2.2.2.1) (q.resolve_left (by decide)),
                fun q => (hJ.2.2.2.2.2.2.2.2.2.2.2.2.2.1) (q.resolve_left (by decide)),
                fun q => (hJ.2.2.2.2.2.2.2.2.2.2.2.2.2.2.1) (q.resolve_left (by decide)),
                fun _ => by first | exact rfl | exact e6,
                fun _ => rfl,
                fun q => (hJ.2.2.2.2.2.2.2.2.2.2.2.2.2.2.2.2.2.1) (q.resolve_left (by decide)),
                fun q => (hJ.2.2.2.2.2.2.2.2.2.2.2.2.2.2.2.2.2.2.1) (q.resolve_left (by decide)),
                fun q => (hJ.2.2.2.2.2.2.2.2.2.2.2.2.2.2.2.2.2.2.2.1) (q.resolve_left (by decide)),
                fun q => (hJ.2.2.2.2.2.2.2.2.2.2.2.2.2.2.2.2.2.2.2.2) (q.resolve_left (by decide))⟩
            refine StepsOk.cons (i := 8) rfl (fun L x G w1 K Q hn hp hJ hK => ?_) ?_
            · skip
              have hc := Blk.open3 (hJ.2.1)
              have c0_ := hc.1
              have c1_ := hc.2.1
              have c2_ := hc.2.2.1
              have c3_ := hc.2.2.2.1
              have c4_ := hc.2.2.2.2
              clear hc
              simp only [putAll, Act.put, List.setIfInBounds_toArray, List.set_cons_zero, List.set_cons_succ]
              go_simp
              refine hK _ G _ (by kernel_rfl) ?_
              exact ⟨(hJ.1),
                (hJ.2.1),
                (hJ.2.2.1),
                fun q n => (hJ.2.2.2.1) (q.resolve_left (by decide)) (fun m => n (.inr m)),
                fun n => (hJ.2.2.2.2.1) (fun m => n (.inr m)),
                fun q n => (hJ.2.2.2.2.2.1) (q.resolve_left (by decide)) (fun m => n (.inr m)),
                fun q => (hJ.2.2.2.2.2.2.1) (q.resolve_left (by decide)),
                fun q => .inr ((hJ.2.2.2.2.2.2.2.1) (q.resolve_left (by decide))),
                fun q => ⟨.inr ((hJ.2.2.2.2.2.2.2.2.1) (q.resolve_left (by decide))).1, .inr ((hJ.2.2.2.2.2.2.2.2.1) (q.resolve_left (by decide))).2⟩,
                fun q => (hJ.2.2.2.2.2.2.2.2.2.1) (q.resolve_left (by decide)),
                fun q => (hJ.2.2.2.2.2.2.2.2.2.2.1) (q.resolve_left (by decide)),
                fun q => (hJ.2.2.2.2.2.2.2.2.2.2.2.1) (q.resolve_left (by decide)),
                fun q => (hJ.2.2.2.2.2.2.2.2.2.2.2.2.1) (q.resolve_left (by decide)),
                fun q => (hJ.2.2.2.2.2.2.2.2.2.2.2.2.2.1) (q.resolve_left (by decide)),
                fun q => (hJ.2.2.2.2.2.2.2.2.2.2.2.2.2.2.1) (q.resolve_left (by decide)),
                fun q => (hJ.2.2.2.2.2.2.2.2.2.2.2.2.2.2.2.1) (q.resolve_left (by decide)),
                fun q => (hJ.2.2.2.2.2.2.2.2.2.2.2.2.2.2.2.2.1) (q.resolve_left (by decide)),
                fun _ => rfl,
                fun q => (hJ.2.2.2.2.2.2.2.2.2.2.2.2.2.2.2.2.2.2.1) (q.resolve_left (by decide)),
                fun q => (hJ.2.2.2.2.2.2.2.2.2.2.2.2.2.2.2.2.2.2.2.1) (q.resolve_left (by decide)),
                fun q => (hJ.2.2.2.2.2.2.2.2.2.2.2.2.2.2.2.2.2.2.2.2) (q.resolve_left (by decide))⟩
            refine StepsOk.cons (i := 9) rfl (fun L x G w1 K Q hn hp hJ hK => ?_) ?_
            · skip
              have p8 : L 8 := hp ⟨8, .data⟩ (by simp) rfl
              have e8 := (hJ.2.2.2.2.2.2.2.2.2.2.2.2.2.2.2.2.2.1) p8
              simp only [putAll, Act.put, List.setIfInBounds_toArray, List.set_cons_zero, List.set_cons_succ]
              go_simp
              refine hK _ (fun t => if t = 9 then w1.heap.size else G t) _ (by kernel_rfl) ?_
              exact ⟨bal (hJ.1) _,
                Blk.alloc (hJ.2.1) _,
                Own.alloc (hJ.2.2.1) _,
                fun _ _ => Blk.new w1 _ _,
                fun n => ((hJ.2.2.2.2.1) (fun m => n (.inr m))).alloc _,
                fun q n => (fun z => absurd ((hJ.2.2.2.2.2.2.2.2.1) z).2 hn) (q.resolve_left (by decide)),
                fun q => absurd ((hJ.2.2.2.2.2.2.2.2.1) ((hJ.2.2.2.2.2.2.2.1) (q.resolve_left (by decide)))).2 hn,
                fun q => .inr ((hJ.2.2.2.2.2.2.2.1) (q.resolve_left (by decide))),
                fun q => ⟨.inr ((hJ.2.2.2.2.2.2.2.2.1) (q.resolve_left (by decide))).1, .inr ((hJ.2.2.2.2.2.2.2.2.1) (q.resolve_left (by decide))).2⟩,
                fun q => (hJ.2.2.2.2.2.2.2.2.2.1) (q.resolve_left (by decide)),
                fun q => (hJ.2.2.2.2.2.2.2.2.2.2.1) (q.resolve_left (by decide)),
                fun q => (hJ.2.2.2.2.2.2.2.2.2.2.2.1) (q.resolve_left (by decide)),
                fun q => (hJ.2.2.2.2.2.2.2.2.2.2.2.2.1) (q.resolve_left (by decide)),
                fun q => (hJ.2.2.2.2.2.2.2.2.2.2.2.2.2.1) (q.resolve_left (by decide)),
                fun q => (hJ.2.2.2.2.2.2.2.2.2.2.2.2.2.2.1) (q.resolve_left (by decide)),
                fun q => (hJ.2.2.2.2.2.2.2.2.2.2.2.2.2.2.2.1) (q.resolve_left (by decide)),
                fun q => (hJ.2.2.2.2.2.2.2.2.2.2.2.2.2.2.2.2.1) (q.resolve_left (by decide)),
                fun _ => by first | exact rfl | exact e8,
                fun _ => rfl,
                fun q => absurd ((hJ.2.2.2.2.2.2.2.2.1) (q.resolve_left (by decide))).2 hn,
                fun q => (hJ.2.2.2.2.2.2.2.2.2.2.2.2.2.2.2.2.2.2.2.2) (q.resolve_left (by decide))⟩
            refine StepsOk.cons (i := 10) rfl (fun L x G w1 K Q hn hp hJ hK => ?_) ?_
            · skip
              have p7 : L 7 := hp ⟨7, .data⟩ (by simp) rfl
              have e7 := (hJ.2.2.2.2.2.2.2.2.2.2.2.2.2.2.2.2.1) p7
              have p9 : L 9 := hp ⟨9, .data⟩ (by simp) rfl
              have e9 := (hJ.2.2.2.2.2.2.2.2.2.2.2.2.2.2.2.2.2.2.1) p9
              simp only [putAll, Act.put, List.setIfInBounds_toArray, List.set_cons_zero, List.set_cons_succ]
              simp only [e7, e9]
              have own0 := ((hJ.2.2.2.2.1) hn).el a han
              have src0 := rdE ((hJ.2.2.2.1) p9 hn)
              have hBs : b + 3 ≤ w1.heap.size := by have := ((hJ.2.1)).lt; omega
              refine wp_append_Rd _ _ _ 39 rfl (b + 3) 75 i0 _ 3 24 Try.underlying39 HI.out HZ0.out HZ1.out HZ2.out rfl (by decide) rfl own0 rfl src0 (fun _ _ => rfl) (by omega) (by omega) hBs ?_
              intro A9 c9 w2 own9 hg hob
              refine Exists.elim (own9.pos (by omega)) fun g9 hp9 => ?_
              have e9_ := hp9.1
              subst e9_
              simp only [Act.put, List.setIfInBounds_toArray, List.set_cons_zero, List.set_cons_succ]
              refine hK _ (fun t => if t = 10 then g9 else if t = 20 then c9 else G t) _ (by kernel_rfl) ?_
              exact ⟨(hJ.1).trans (below_grown hg (fun g h => by have := own0.base h; have := HBW.out; omega) (by have := HBW.out; omega)),
                Blk.grown (hJ.2.1) hg nX,
                Own.kept (hJ.2.2.1) hg (.inr nL),
                fun _ n => absurd (.inl rfl) n,
                fun n => absurd (.inl rfl) n,
                fun _ _ => ((hJ.2.2.2.2.1) hn).append han hV own9 hg hob,
                fun q => absurd ((hJ.2.2.2.2.2.2.2.1) (q.resolve_left (by decide))) hn,
                fun q => .inr ((hJ.2.2.2.2.2.2.2.1) (q.resolve_left (by decide))),
                fun _ => ⟨.inr p7, .inr p9⟩,
                fun q => (hJ.2.2.2.2.2.2.2.2.2.1) (q.resolve_left (by decide)),
                fun q => (hJ.2.2.2.2.2.2.2.2.2.2.1) (q.resolve_left (by decide)),
                fun q => (hJ.2.2.2.2.2.2.2.2.2.2.2.1) (q.resolve_left (by decide)),
                fun q => (hJ.2.2.2.2.2.2.2.2.2.2.2.2.1) (q.resolve_left (by decide)),
                fun q => (hJ.2.2.2.2.2.2.2.2.2.2.2.2.2.1) (q.resolve_left (by decide)),
                fun q => (hJ.2.2.2.2.2.2.2.2.2.2.2.2.2.2.1) (q.resolve_left (by decide)),
                fun q => (hJ.2.2.2.2.2.2.2.2.2.2.2.2.2.2.2.1) (q.resolve_left (by decide)),
                fun _ => by first | exact rfl | exact e7,
                fun q => (hJ.2.2.2.2.2.2.2.2.2.2.2.2.2.2.2.2.2.1) (q.resolve_left (by decide)),
                fun _ => by first | exact rfl | exact e9,
                fun _ => rfl,
                fun q => (hJ.2.2.2.2.2.2.2.2.2.2.2.2.2.2.2.2.2.2.2.2) (q.resolve_left (by decide))⟩
            refine StepsOk.cons (i := 11) rfl (fun L x G w1 K Q hn hp hJ hK => ?_) ?_
            · skip
              have p0 : L 0 := hp ⟨0, .data⟩ (by simp) rfl
              have e0 := (hJ.2.2.2.2.2.2.2.2.2.1) p0
              have p2 : L 2 := hp ⟨2, .data⟩ (by simp) rfl
              have e2 := (hJ.2.2.2.2.2.2.2.2.2.2.2.1) p2
              simp only [putAll, Act.put, List.setIfInBounds_toArray, List.set_cons_zero, List.set_cons_succ]
              go_simp
              refine hK _ G _ (by kernel_rfl) ?_
              exact ⟨(hJ.1),
                (hJ.2.1),
                (hJ.2.2.1),
                fun q n => (hJ.2.2.2.1) (q.resolve_left (by decide)) (fun m => n (.inr m)),
                fun n => (hJ.2.2.2.2.1) (fun m => n (.inr m)),
                fun q n => (hJ.2.2.2.2.2.1) (q.resolve_left (by decide)) (fun m => n (.inr m)),
                fun q => (hJ.2.2.2.2.2.2.1) (q.resolve_left (by decide)),
                fun q => .inr ((hJ.2.2.2.2.2.2.2.1) (q.resolve_left (by decide))),
                fun q => ⟨.inr ((hJ.2.2.2.2.2.2.2.2.1) (q.resolve_left (by decide))).1, .inr ((hJ.2.2.2.2.2.2.2.2.1) (q.resolve_left (by decide))).2⟩,
                fun _ => by first | exact rfl | exact e0,
                fun q => (hJ.2.2.2.2.2.2.2.2.2.2.1) (q.resolve_left (by decide)),
                fun _ => by first | exact rfl | exact e2,
                fun q => (hJ.2.2.2.2.2.2.2.2.2.2.2.2.1) (q.resolve_left (by decide)),
                fun q => (hJ.2.2.2.2.2.2.2.2.2.2.2.2.2.1) (q.resolve_left (by decide)),
                fun q => (hJ.2.2.2.2.2.2.2.2.2.2.2.2.2.2.1) (q.resolve_left (by decide)),
                fun q => (hJ.2.2.2.2.2.2.2.2.2.2.2.2.2.2.2.1) (q.resolve_left (by decide)),
                fun q => (hJ.2.2.2.2.2.2.2.2.2.2.2.2.2.2.2.2.1) (q.resolve_left (by decide)),
                fun q => (hJ.2.2.2.2.2.2.2.2.2.2.2.2.2.2.2.2.2.1) (q.resolve_left (by decide)),
                fun q => (hJ.2.2.2.2.2.2.2.2.2.2.2.2.2.2.2.2.2.2.1) (q.resolve_left (by decide)),
                fun q => (hJ.2.2.2.2.2.2.2.2.2.2.2.2.2.2.2.2.2.2.2.1) (q.resolve_left (by decide)),
                fun _ => rfl⟩
            refine StepsOk.cons (i := 12) rfl (fun L x G w1 K Q hn hp hJ hK => ?_) ?_
            · skip
              have p11 : L 11 := hp ⟨11, .data⟩ (by simp) rfl
              have e11 := (hJ.2.2.2.2.2.2.2.2.2.2.2.2.2.2.2.2.2.2.2.2) p11
              have p10 : L 10 := hp ⟨10, .data⟩ (by simp) rfl
              have e10 := (hJ.2.2.2.2.2.2.2.2.2.2.2.2.2.2.2.2.2.2.2.1) p10
              have hl_ := ((hJ.2.2.2.2.2.1) p10 hn).cell han
              have hf_ := ((hJ.2.2.2.2.2.1) p10 hn).row.frozen
              simp only [putAll, Act.put, List.setIfInBounds_toArray, List.set_cons_zero, List.set_cons_succ]
              go_simp
              refine hK _ G _ (by kernel_rfl) ?_
              exact ⟨bst (hJ.1) (p := ⟨b + 2, a, none⟩) (by have := HBW.out; simp; omega) _,
                Blk.far (hJ.2.1) (by simp; omega) _,
                Own.far (hJ.2.2.1) (.inr (by simp [ob])) _,
                fun q n => absurd (.inr p10) n,
                fun n => absurd (.inr p10) n,
                fun q n => absurd (.inl rfl) n,
                fun _ => ((hJ.2.2.2.2.2.1) p10 hn).store han,
                fun _ => .inr p10,
                fun q => ⟨.inr ((hJ.2.2.2.2.2.2.2.2.1) (q.resolve_left (by decide))).1, .inr ((hJ.2.2.2.2.2.2.2.2.1) (q.resolve_left (by decide))).2⟩,
                fun q => (hJ.2.2.2.2.2.2.2.2.2.1) (q.resolve_left (by decide)),
                fun q => (hJ.2.2.2.2.2.2.2.2.2.2.1) (q.resolve_left (by decide)),
                fun q => (hJ.2.2.2.2.2.2.2.2.2.2.2.1) (q.resolve_left (by decide)),
                fun q => (hJ.2.2.2.2.2.2.2.2.2.2.2.2.1) (q.resolve_left (by decide)),
                fun q => (hJ.2.2.2.2.2.2.2.2.2.2.2.2.2.1) (q.resolve_left (by decide)),
                fun q => (hJ.2.2.2.2.2.2.2.2.2.2.2.2.2.2.1) (q.resolve_left (by decide)),
                fun q => (hJ.2.2.2.2.2.2.2.2.2.2.2.2.2.2.2.1) (q.resolve_left (by decide)),
                fun q => (hJ.2.2.2.2.2.2.2.2.2.2.2.2.2.2.2.2.1) (q.resolve_left (by decide)),
                fun q => (hJ.2.2.2.2.2.2.2.2.2.2.2.2.2.2.2.2.2.1) (q.resolve_left (by decide)),
                fun q => (hJ.2.2.2.2.2.2.2.2.2.2.2.2.2.2.2.2.2.2.1) (q.resolve_left (by decide)),
                fun _ => by first | exact rfl | exact e10,
                fun _ => by first | exact rfl | exact e11⟩
            exact StepsOk.nil
          case fin =>
            intro L x G wf hall hJ
            clear X own lg hB
            have own := hJ.2.2.1
            have lg := hJ.2.2.2.2.2.2.1 (hall 12 (by decide))
            have hB := hJ.1
            have y0 := hJ.2.2.2.2.2.2.2.2.2.1 (hall 0 (by decide))
            have y1 := hJ.2.2.2.2.2.2.2.2.2.2.1 (hall 1 (by decide))
            have y2 := hJ.2.2.2.2.2.2.2.2.2.2.2.1 (hall 2 (by decide))
            have y3 := hJ.2.2.2.2.2.2.2.2.2.2.2.2.1 (hall 3 (by decide))
            have y4 := hJ.2.2.2.2.2.2.2.2.2.2.2.2.2.1 (hall 4 (by decide))
            have y5 := hJ.2.2.2.2.2.2.2.2.2.2.2.2.2.2.1 (hall 5 (by decide))
            have y6 := hJ.2.2.2.2.2.2.2.2.2.2.2.2.2.2.2.1 (hall 6 (by decide))
            have y7 := hJ.2.2.2.2.2.2.2.2.2.2.2.2.2.2.2.2.1 (hall 7 (by decide))
            have y8 := hJ.2.2.2.2.2.2.2.2.2.2.2.2.2.2.2.2.2.1 (hall 8 (by decide))
            have y9 := hJ.2.2.2.2.2.2.2.2.2.2.2.2.2.2.2.2.2.2.1 (hall 9 (by decide))
            have y10 := hJ.2.2.2.2.2.2.2.2.2.2.2.2.2.2.2.2.2.2.2.1 (hall 10 (by decide))
            have y11 := hJ.2.2.2.2.2.2.2.2.2.2.2.2.2.2.2.2.2.2.2.2 (hall 11 (by decide))
            simp only [putAll, Act.put, List.setIfInBounds_toArray, List.set_cons_zero, List.set_cons_succ]
            simp only [y0, y1, y2, y3, y4, y5, y6, y7, y8, y9, y10, y11]
            clear hall hJ y0 y1 y2 y3 y4 y5 y6 y7 y8 y9 y10 y11
            go_wp2_with fail
            go_roundw
            case rel => exact ⟨j + 1, _, _, _, _, by omega, by go_num, Lib.hid (HFA.out ▸ hLv.out.next), own, lg, hB⟩
            case measure => simp [intOf]; omega
        · obtain rfl : j = m := by omega
          have hDk0 := Lib.hid (Ce.Dk.start k j E s)
          clear hlt hj
          go_wp2_with fail
          go_loopg [10] k (fun gg _ wr => ∃ (C D : Nat → Int) (F : Nat → Bool) (q : Nat), k - q ≤ gg ∧ Hid (Ce.Dk k j E s C D F q) ∧ Own wr (b + 1) 83 3 (some ⟨b + 1, 0, none⟩) k k (lv C D F) ∧ Lg wr b k E ln ix Ar cr ∧ Below w.heap.size w wr)
          case atStart => exact ⟨_, _, _, 0, by omega, hDk0, own, lg, hB⟩
          case round =>
            clear own lg hB hDk0
            obtain ⟨C, D, F, q, hgq, hDk, own, lg, hB⟩ := hrel
            go_wp2_with fail
            go_loopw [10, 60] (fun at_ i wr => ∃ (v : Nat) (a : Int), v ≤ k ∧ i = .int .i64 v ∧ at_ = .int .i64 a ∧ Hid (Ce.Sel C D F v a) ∧ Own wr (b + 1) 83 3 (some ⟨b + 1, 0, none⟩) k k (lv C D F) ∧ Lg wr b k E ln ix Ar cr ∧ Below w.heap.size w wr) (fun _ i _ => k - (intOf i).toNat)
            case atStart => exact ⟨0, -1, Nat.zero_le _, rfl, rfl, Lib.hid Ce.Sel.start, own, lg, hB⟩
            case round =>
              clear own lg hB
              obtain ⟨v, a, hv, rfl, rfl, hS, own, lg, hB⟩ := hrel
              by_cases hlt : v < k
              · cases hF : F v
                · by_cases hC : C v < 0
                  · have HS := Lib.hid (Ce.Sel.skip hS.out (.inr hC))
                    have d6 : decide (0 ≤ C v) = false := decide_eq_false (by omega)
                    obtain ⟨y0, y1, y2, y3⟩ := own.lab hlt
                    rw [hF] at y2
                    clear hF
                    have X := Blk.new wr 83 #[.int .i64 (C v), .int .i64 (D v), .bool false]
                    replace own := own.alloc (.cells #[.int .i64 (C v), .int .i64 (D v), .bool false] 83)
                    replace lg := lg.alloc (.cells #[.int .i64 (C v), .int .i64 (D v), .bool false] 83)
                    replace hB := bal hB (.cells #[.int .i64 (C v), .int .i64 (D v), .bool false] 83)
                    have lb := own.lt1
                    obtain ⟨x0, x1, x2, x3, x4⟩ := X.open3
                    go_wp2_with fail
                    go_quiet (fail)
                    go_wp2_with fail
                    go_roundw
                    case rel => exact ⟨v + 1, _, by omega, by go_num, rfl, HS, own.drewN _, lg.drewN _, bdnl hB _⟩
                    case measure => simp [intOf]; omega
                  by_cases ha : a < 0
                  · have HS := Lib.hid (Ce.Sel.first hS.out ha hF (by omega))
                    have d6 : 0 ≤ C v := by omega
                    obtain ⟨y0, y1, y2, y3⟩ := own.lab hlt
                    rw [hF] at y2
                    clear hF
                    have X := Blk.new wr 83 #[.int .i64 (C v), .int .i64 (D v), .bool false]
                    replace own := own.alloc (.cells #[.int .i64 (C v), .int .i64 (D v), .bool false] 83)
                    replace lg := lg.alloc (.cells #[.int .i64 (C v), .int .i64 (D v), .bool false] 83)
                    replace hB := bal hB (.cells #[.int .i64 (C v), .int .i64 (D v), .bool false] 83)
                    have lb := own.lt1
                    obtain ⟨x0, x1, x2, x3, x4⟩ := X.open3
                    go_wp2_with fail
                    go_quiet (fail)
                    go_wp2_with fail
                    go_roundw
                    case rel => exact ⟨v + 1, _, by omega, by go_num, rfl, HS, own.drewN _, lg.drewN _, bdnl hB _⟩
                    case measure => simp [intOf]; omega
                  obtain ⟨t, rfl⟩ : ∃ t : Nat, a = (t : Int) := ⟨a.toNat, by omega⟩
                  have ht : t < k := by have := hS.out.lt; omega
                  obtain ⟨bq, hbt⟩ : ∃ bq, Ce.bet (C t) (D t) (C v) (D v) = bq := ⟨_, rfl⟩
                  have HS := Lib.hid (show (bq = true → Ce.Sel C D F (v + 1) (v : Int)) ∧ (bq = false → Ce.Sel C D F (v + 1) (t : Int)) from ⟨fun q => Ce.Sel.turn hS.out hF (by omega) (hbt.trans q), fun q => Ce.Sel.stay hS.out (hbt.trans q)⟩)
                  have HBT := Lib.hid hbt
                  clear hbt
                  have d6 : 0 ≤ C v := by omega
                  have d7 : decide ((t : Int) < 0) = false := decide_eq_false (by omega)
                  have i1 : (0 : Int) ≤ (t : Int) := by omega
                  have i2 : (t : Int) < (k : Int) := by omega
                  obtain ⟨y0, y1, y2, y3⟩ := own.lab hlt
                  rw [hF] at y2
                  clear hF
                  have X := Blk.new wr 83 #[.int .i64 (C v), .int .i64 (D v), .bool false]
                  replace own := own.alloc (.cells #[.int .i64 (C v), .int .i64 (D v), .bool false] 83)
                  replace lg := lg.alloc (.cells #[.int .i64 (C v), .int .i64 (D v), .bool false] 83)
                  replace hB := bal hB (.cells #[.int .i64 (C v), .int .i64 (D v), .bool false] 83)
                  have lb := own.lt1
                  go_wp2_with fail
                  generalize World.alloc wr _ = wL at X own lg hB ⊢
                  generalize wr.heap.size = gX at X ⊢
                  clear y0 y1 y2 y3
                  refine wp_region_inv (fun L x G wx => Below wL.heap.size wL wx
                        ∧ (L 0 → x 65 = .pointer (some ⟨gX, 2, none⟩))
                        ∧ (L 1 → x 66 = .bool (false))
                        ∧ (L 2 → x 67 = .bool (true))
                        ∧ (L 3 → x 68 = .bool (true))
                        ∧ (L 4 → x 69 = .pointer (some ⟨gX, 0, none⟩))
                        ∧ (L 5 → x 70 = .int .i64 (C v))
                        ∧ (L 6 → x 71 = .bool (true))
                        ∧ (L 7 → x 72 = .bool (true))
                        ∧ (L 8 → x 73 = .bool (true))
                        ∧ (L 9 → x 74 = .int .i64 ((t : Int)))
                        ∧ (L 10 → x 75 = .bool (false))
                        ∧ (L 11 → x 76 = .bool (false))
                        ∧ (L 12 → x 77 = .slice (some ⟨b + 1, 0, none⟩) k k)
                        ∧ (L 13 → x 78 = .int .i64 ((t : Int)))
                        ∧ (L 14 → x 79 = .pointer (some ⟨(b + 1), t * 3, none⟩))
                        ∧ (L 15 → x 80 = .agg #[.int .i64 (C t), .int .i64 (D t), .bool (F t)])
                        ∧ (L 16 → x 81 = .pointer (some ⟨gX, 0, none⟩))
                        ∧ (L 17 → x 82 = .int .i64 (C v))
                        ∧ (L 18 → x 83 = .pointer (some ⟨gX, 1, none⟩))
                        ∧ (L 19 → x 84 = .int .i64 (D v))
                        ∧ (L 20 → x 85 = .bool (bq))
                        ∧ (L 21 → x 86 = .bool (bq))
                        ∧ (L 22 → x 87 = .bool (bq))) [65, 66, 67, 68, 69, 70, 71, 72, 73, 74, 75, 76, 77, 78, 79, 80, 81, 82, 83, 84, 85, 86, 87] 23 (by kernel_rfl) (by kernel_rfl) (by kernel_rfl) ?h0 ?st ?fin
                  case h0 =>
                    exact ⟨bdr (Below.refl _ _), fun q => q.elim, fun q => q.elim, fun q => q.elim, fun q => q.elim, fun q => q.elim, fun q => q.elim, fun q => q.elim, fun q => q.elim, fun q => q.elim, fun q => q.elim, fun q => q.elim, fun q => q.elim, fun q => q.elim, fun q => q.elim, fun q => q.elim, fun q => q.elim, fun q => q.elim, fun q => q.elim, fun q => q.elim, fun q => q.elim, fun q => q.elim, fun q => q.elim, fun q => q.elim⟩
                  case st =>
                    refine StepsOk.cons (i := 0) rfl (fun L x G w1 K Q hn hp hJ hK => ?_) ?_
                    · skip
                      simp only [putAll, Act.put, List.setIfInBounds_toArray, List.set_cons_zero, List.set_cons_succ]
                      go_simp
                      refine hK _ G _ (by kernel_rfl) ?_
                      exact ⟨(hJ.1),
                        fun _ => rfl,
                        fun q => (hJ.2.2.1) (q.resolve_left (by decide)),
                        fun q => (hJ.2.2.2.1) (q.resolve_left (by decide)),
                        fun q => (hJ.2.2.2.2.1) (q.resolve_left (by decide)),
                        fun q => (hJ.2.2.2.2.2.1) (q.resolve_left (by decide)),
                        fun q => (hJ.2.2.2.2.2.2.1) (q.resolve_left (by decide)),
                        fun q => (hJ.2.2.2.2.2.2.2.1) (q.resolve_left (by decide)),
                        fun q => (hJ.2.2.2.2.2.2.2.2.1) (q.resolve_left (by decide)),
                        fun q => (hJ.2.2.2.2.2.2.2.2.2.1) (q.resolve_left (by decide)),
                        fun q => (hJ.2.2.2.2.2.2.2.2.2.2.1) (q.resolve_left (by decide)),
                        fun q => (hJ.2.2.2.2.2.2.2.2.2.2.2.1) (q.resolve_left (by decide)),
                        fun q => (hJ.2.2.2.2.2.2.2.2.2.2.2.2.1) (q.resolve_left (by decide)),
                        fun q => (hJ.2.2.2.2.2.2.2.2.2.2.2.2.2.1) (q.resolve_left (by decide)),
                        fun q => (hJ.2.2.2.2.2.2.2.2.2.2.2.2.2.2.1) (q.resolve_left (by decide)),
                        fun q => (hJ.2.2.2.2.2.2.2.2.2.2.2.2.2.2.2.1) (q.resolve_left (by decide)),
                        fun q => (hJ.2.2.2.2.2.2.2.2.2.2.2.2.2.2.2.2.1) (q.resolve_left (by decide)),
                        fun q => (hJ.2.2.2.2.2.2.2.2.2.2.2.2.2.2.2.2.2.1) (q.resolve_left (by decide)),
                        fun q => (hJ.2.2.2.2.2.2.2.2.2.2.2.2.2.2.2.2.2.2.1) (q.resolve_left (by decide)),
                        fun q => (hJ.2.2.2.2.2.2.2.2.2.2.2.2.2.2.2.2.2.2.2.1) (q.resolve_left (by decide)),
                        fun q => (hJ.2.2.2.2.2.2.2.2.2.2.2.2.2.2.2.2.2.2.2.2.1) (q.resolve_left (by decide)),
                        fun q => (hJ.2.2.2.2.2.2.2.2.2.2.2.2.2.2.2.2.2.2.2.2.2.1) (q.resolve_left (by decide)),
                        fun q => (hJ.2.2.2.2.2.2.2.2.2.2.2.2.2.2.2.2.2.2.2.2.2.2.1) (q.resolve_left (by decide)),
                        fun q => (hJ.2.2.2.2.2.2.2.2.2.2.2.2.2.2.2.2.2.2.2.2.2.2.2) (q.resolve_left (by decide))⟩
                    refine StepsOk.cons (i := 1) rfl (fun L x G w1 K Q hn hp hJ hK => ?_) ?_
                    · skip
                      have p0 : L 0 := hp ⟨0, .data⟩ (by simp) rfl
                      have e0 := (hJ.2.1) p0
                      have hc := ((X).keep (hJ.1)).open3
                      have c0 := hc.1
                      have c1 := hc.2.1
                      have c2 := hc.2.2.1
                      clear hc
                      simp only [putAll, Act.put, List.setIfInBounds_toArray, List.set_cons_zero, List.set_cons_succ]
                      go_simp
                      refine hK _ G _ (by kernel_rfl) ?_
                      exact ⟨(hJ.1),
                        fun _ => by first | exact rfl | exact e0,
                        fun _ => rfl,
                        fun q => (hJ.2.2.2.1) (q.resolve_left (by decide)),
                        fun q => (hJ.2.2.2.2.1) (q.resolve_left (by decide)),
                        fun q => (hJ.2.2.2.2.2.1) (q.resolve_left (by decide)),
                        fun q => (hJ.2.2.2.2.2.2.1) (q.resolve_left (by decide)),
                        fun q => (hJ.2.2.2.2.2.2.2.1) (q.resolve_left (by decide)),
                        fun q => (hJ.2.2.2.2.2.2.2.2.1) (q.resolve_left (by decide)),
                        fun q => (hJ.2.2.2.2.2.2.2.2.2.1) (q.resolve_left (by decide)),
                        fun q => (hJ.2.2.2.2.2.2.2.2.2.2.1) (q.resolve_left (by decide)),
                        fun q => (hJ.2.2.2.2.2.2.2.2.2.2.2.1) (q.resolve_left (by decide)),
                        fun q => (hJ.2.2.2.2.2.2.2.2.2.2.2.2.1) (q.resolve_left (by decide)),
                        fun q => (hJ.2.2.2.2.2.2.2.2.2.2.2.2.2.1) (q.resolve_left (by decide)),
                        fun q => (hJ.2.2.2.2.2.2.2.2.2.2.2.2.2.2.1) (q.resolve_left (by decide)),
                        fun q => (hJ.2.2.2.2.2.2.2.2.2.2.2.2.2.2.2.1) (q.resolve_left (by decide)),
                        fun q => (hJ.2.2.2.2.2.2.2.2.2.2.2.2.2.2.2.2.1) (q.resolve_left (by decide)),
                        fun q => (hJ.2.2.2.2.2.2.2.2.2.2.2.2.2.2.2.2.2.1) (q.resolve_left (by decide)),
                        fun q => (hJ.2.2.2.2.2.2.2.2.2.2.2.2.2.2.2.2.2.2.1) (q.resolve_left (by decide)),
                        fun q => (hJ.2.2.2.2.2.2.2.2.2.2.2.2.2.2.2.2.2.2.2.1) (q.resolve_left (by decide)),
                        fun q => (hJ.2.2.2.2.2.2.2.2.2.2.2.2.2.2.2.2.2.2.2.2.1) (q.resolve_left (by decide)),
                        fun q => (hJ.2.2.2.2.2.2.2.2.2.2.2.2.2.2.2.2.2.2.2.2.2.1) (q.resolve_left (by decide)),
                        fun q => (hJ.2.2.2.2.2.2.2.2.2.2.2.2.2.2.2.2.2.2.2.2.2.2.1) (q.resolve_left (by decide)),
                        fun q => (hJ.2.2.2.2.2.2.2.2.2.2.2.2.2.2.2.2.2.2.2.2.2.2.2) (q.resolve_left (by decide))⟩
                    refine StepsOk.cons (i := 2) rfl (fun L x G w1 K Q hn hp hJ hK => ?_) ?_
                    · skip
                      have p1 : L 1 := hp ⟨1, .data⟩ (by simp) rfl
                      have e1 := (hJ.2.2.1) p1
                      simp only [putAll, Act.put, List.setIfInBounds_toArray, List.set_cons_zero, List.set_cons_succ]
                      go_simp
                      refine hK _ G _ (by kernel_rfl) ?_
                      exact ⟨(hJ.1),
                        fun q => (hJ.2.1) (q.resolve_left (by decide)),
                        fun _ => by first | exact rfl | exact e1,
                        fun _ => rfl,
                        fun q => (hJ.2.2.2.2.1) (q.resolve_left (by decide)),
                        fun q => (hJ.2.2.2.2.2.1) (q.resolve_left (by decide)),
                        fun q => (hJ.2.2.2.2.2.2.1) (q.resolve_left (by decide)),
                        fun q => (hJ.2.2.2.2.2.2.2.1) (q.resolve_left (by decide)),
                        fun q => (hJ.2.2.2.2.2.2.2.2.1) (q.resolve_left (by decide)),
                        fun q => (hJ.2.2.2.2.2.2.2.2.2.1) (q.resolve_left (by decide)),
                        fun q => (hJ.2.2.2.2.2.2.2.2.2.2.1) (q.resolve_left (by decide)),
                        fun q => (hJ.2.2.2.2.2.2.2.2.2.2.2.1) (q.resolve_left (by decide)),
                        fun q => (hJ.2.2.2.2.2.2.2.2.2.2.2.2.1) (q.resolve_left (by decide)),
                        fun q => (hJ.2.2.2.2.2.2.2.2.2.2.2.2.2.1) (q.resolve_left (by decide)),
                        fun q => (hJ.2.2.2.2.2.2.2.2.2.2.2.2.2.2.1) (q.resolve_left (by decide)),
                        fun q => (hJ.2.2.2.2.2.2.2.2.2.2.2.2.2.2.2.1) (q.resolve_left (by decide)),
                        fun q => (hJ.2.2.2.2.2.2.2.2.2.2.2.2.2.2.2.2.1) (q.resolve_left (by decide)),
                        fun q => (hJ.2.2.2.2.2.2.2.2.2.2.2.2.2.2.2.2.2.1) (q.resolve_left (by decide)),
                        fun q => (hJ.2.2.2.2.2.2.2.2.2.2.2.2.2.2.2.2.2.2.1) (q.resolve_left (by decide)),
                        fun q => (hJ.2.2.2.2.2.2.2.2.2.2.2.2.2.2.2.2.2.2.2.1) (q.resolve_left (by decide)),
                        fun q => (hJ.2.2.2.2.2.2.2.2.2.2.2.2.2.2.2.2.2.2.2.2.1) (q.resolve_left (by decide)),
                        fun q => (hJ.2.2.2.2.2.2.2.2.2.2.2.2.2.2.2.2.2.2.2.2.2.1) (q.resolve_left (by decide)),
                        fun q => (hJ.2.2.2.2.2.2.2.2.2.2.2.2.2.2.2.2.2.2.2.2.2.2.1) (q.resolve_left (by decide)),
                        fun q => (hJ.2.2.2.2.2.2.2.2.2.2.2.2.2.2.2.2.2.2.2.2.2.2.2) (q.resolve_left (by decide))⟩
                    refine StepsOk.cons (i := 3) rfl (fun L x G w1 K Q hn hp hJ hK => ?_) ?_
                    · skip
                      have p2 : L 2 := hp ⟨2, .data⟩ (by simp) rfl
                      have e2 := (hJ.2.2.2.1) p2
                      simp only [putAll, Act.put, List.setIfInBounds_toArray, List.set_cons_zero, List.set_cons_succ]
                      go_simp
                      refine hK _ G _ (by kernel_rfl) ?_
                      exact ⟨(hJ.1),
                        fun q => (hJ.2.1) (q.resolve_left (by decide)),
                        fun q => (hJ.2.2.1) (q.resolve_left (by decide)),
                        fun _ => by first | exact rfl | exact e2,
                        fun _ => rfl,
                        fun q => (hJ.2.2.2.2.2.1) (q.resolve_left (by decide)),
                        fun q => (hJ.2.2.2.2.2.2.1) (q.resolve_left (by decide)),
                        fun q => (hJ.2.2.2.2.2.2.2.1) (q.resolve_left (by decide)),
                        fun q => (hJ.2.2.2.2.2.2.2.2.1) (q.resolve_left (by decide)),
                        fun q => (hJ.2.2.2.2.2.2.2.2.2.1) (q.resolve_left (by decide)),
                        fun q => (hJ.2.2.2.2.2.2.2.2.2.2.1) (q.resolve_left (by decide)),
                        fun q => (hJ.2.2.2.2.2.2.2.2.2.2.2.1) (q.resolve_left (by decide)),
                        fun q => (hJ.2.2.2.2.2.2.2.2.2.2.2.2.1) (q.resolve_left (by decide)),
                        fun q => (hJ.2.2.2.2.2.2.2.2.2.2.2.2.2.1) (q.resolve_left (by decide)),
                        fun q => (hJ.2.2.2.2.2.2.2.2.2.2.2.2.2.2.1) (q.resolve_left (by decide)),
                        fun q => (hJ.2.2.2.2.2.2.2.2.2.2.2.2.2.2.2.1) (q.resolve_left (by decide)),
                        fun q => (hJ.2.2.2.2.2.2.2.2.2.2.2.2.2.2.2.2.1) (q.resolve_left (by decide)),
                        fun q => (hJ.2.2.2.2.2.2.2.2.2.2.2.2.2.2.2.2.2.1) (q.resolve_left (by decide)),
                        fun q => (hJ.2.2.2.2.2.2.2.2.2.2.2.2.2.2.2.2.2.2.1) (q.resolve_left (by decide)),
                        fun q => (hJ.2.2.2.2.2.2.2.2.2.2.2.2.2.2.2.2.2.2.2.1) (q.resolve_left (by decide)),
                        fun q => (hJ.2.2.2.2.2.2.2.2.2.2.2.2.2.2.2.2.2.2.2.2.1) (q.resolve_left (by decide)),
                        fun q => (hJ.2.2.2.2.2.2.2.2.2.2.2.2.2.2.2.2.2.2.2.2.2.1) (q.resolve_left (by decide)),
                        fun q => (hJ.2.2.2.2.2.2.2.2.2.2.2.2.2.2.2.2.2.2.2.2.2.2.1) (q.resolve_left (by decide)),
                        fun q => (hJ.2.2.2.2.2.2.2.2.2.2.2.2.2.2.2.2.2.2.2.2.2.2.2) (q.resolve_left (by decide))⟩
                    refine StepsOk.consT (i := 4) 3 68 true rfl rfl (by kernel_rfl) (fun L x G w1 hp hJ => hJ.2.2.2.2.1 (hp ⟨3, .guard⟩ (by simp) rfl)) (fun L x G w1 K Q hn hp hJ hK => ?_) ?_
                    · skip
                      simp only [putAll, Act.put, List.setIfInBounds_toArray, List.set_cons_zero, List.set_cons_succ]
                      go_simp
                      refine hK _ G _ (by kernel_rfl) ?_
                      exact ⟨(hJ.1),
                        fun q => (hJ.2.1) (q.resolve_left (by decide)),
                        fun q => (hJ.2.2.1) (q.resolve_left (by decide)),
                        fun q => (hJ.2.2.2.1) (q.resolve_left (by decide)),
                        fun q => (hJ.2.2.2.2.1) (q.resolve_left (by decide)),
                        fun _ => rfl,
                        fun q => (hJ.2.2.2.2.2.2.1) (q.resolve_left (by decide)),
                        fun q => (hJ.2.2.2.2.2.2.2.1) (q.resolve_left (by decide)),
                        fun q => (hJ.2.2.2.2.2.2.2.2.1) (q.resolve_left (by decide)),
                        fun q => (hJ.2.2.2.2.2.2.2.2.2.1) (q.resolve_left (by decide)),
                        fun q => (hJ.2.2.2.2.2.2.2.2.2.2.1) (q.resolve_left (by decide)),
                        fun q => (hJ.2.2.2.2.2.2.2.2.2.2.2.1) (q.resolve_left (by decide)),
                        fun q => (hJ.2.2.2.2.2.2.2.2.2.2.2.2.1) (q.resolve_left (by decide)),
                        fun q => (hJ.2.2.2.2.2.2.2.2.2.2.2.2.2.1) (q.resolve_left (by decide)),
                        fun q => (hJ.2.2.2.2.2.2.2.2.2.2.2.2.2.2.1) (q.resolve_left (by decide)),
                        fun q => (hJ.2.2.2.2.2.2.2.2.2.2.2.2.2.2.2.1) (q.resolve_left (by decide)),
                        fun q => (hJ.2.2.2.2.2.2.2.2.2.2.2.2.2.2.2.2.1) (q.resolve_left (by decide)),
                        fun q => (hJ.2.2.2.2.2.2.2.2.2.2.2.2.2.2.2.2.2.1) (q.resolve_left (by decide)),
                        fun q => (hJ.2.2.2.2.2.2.2.2.2.2.2.2.2.2.2.2.2.2.1) (q.resolve_left (by decide)),
                        fun q => (hJ.2.2.2.2.2.2.2.2.2.2.2.2.2.2.2.2.2.2.2.1) (q.resolve_left (by decide)),
                        fun q => (hJ.2.2.2.2.2.2.2.2.2.2.2.2.2.2.2.2.2.2.2.2.1) (q.resolve_left (by decide)),
                        fun q => (hJ.2.2.2.2.2.2.2.2.2.2.2.2.2.2.2.2.2.2.2.2.2.1) (q.resolve_left (by decide)),
                        fun q => (hJ.2.2.2.2.2.2.2.2.2.2.2.2.2.2.2.2.2.2.2.2.2.2.1) (q.resolve_left (by decide)),
                        fun q => (hJ.2.2.2.2.2.2.2.2.2.2.2.2.2.2.2.2.2.2.2.2.2.2.2) (q.resolve_left (by decide))⟩
                    refine StepsOk.consT (i := 5) 3 68 true rfl rfl (by kernel_rfl) (fun L x G w1 hp hJ => hJ.2.2.2.2.1 (hp ⟨3, .guard⟩ (by simp) rfl)) (fun L x G w1 K Q hn hp hJ hK => ?_) ?_
                    · skip
                      have p4 : L 4 := hp ⟨4, .data⟩ (by simp) rfl
                      have e4 := (hJ.2.2.2.2.2.1) p4
                      have hc := ((X).keep (hJ.1)).open3
                      have c0 := hc.1
                      have c1 := hc.2.1
                      have c2 := hc.2.2.1
                      clear hc
                      simp only [putAll, Act.put, List.setIfInBounds_toArray, List.set_cons_zero, List.set_cons_succ]
                      go_simp
                      refine hK _ G _ (by kernel_rfl) ?_
                      exact ⟨(hJ.1),
                        fun q => (hJ.2.1) (q.resolve_left (by decide)),
                        fun q => (hJ.2.2.1) (q.resolve_left (by decide)),
                        fun q => (hJ.2.2.2.1) (q.resolve_left (by decide)),
                        fun q => (hJ.2.2.2.2.1) (q.resolve_left (by decide)),
                        fun _ => by first | exact rfl | exact e4,
                        fun _ => rfl,
                        fun q => (hJ.2.2.2.2.2.2.2.1) (q.resolve_left (by decide)),
                        fun q => (hJ.2.2.2.2.2.2.2.2.1) (q.resolve_left (by decide)),
                        fun q => (hJ.2.2.2.2.2.2.2.2.2.1) (q.resolve_left (by decide)),
                        fun q => (hJ.2.2.2.2.2.2.2.2.2.2.1) (q.resolve_left (by decide)),
                        fun q => (hJ.2.2.2.2.2.2.2.2.2.2.2.1) (q.resolve_left (by decide)),
                        fun q => (hJ.2.2.2.2.2.2.2.2.2.2.2.2.1) (q.resolve_left (by decide)),
                        fun q => (hJ.2.2.2.2.2.2.2.2.2.2.2.2.2.1) (q.resolve_left (by decide)),
                        fun q => (hJ.2.2.2.2.2.2.2.2.2.2.2.2.2.2.1) (q.resolve_left (by decide)),
                        fun q => (hJ.2.2.2.2.2.2.2.2.2.2.2.2.2.2.2.1) (q.resolve_left (by decide)),
                        fun q => (hJ.2.2.2.2.2.2.2.2.2.2.2.2.2.2.2.2.1) (q.resolve_left (by decide)),
                        fun q => (hJ.2.2.2.2.2.2.2.2.2.2.2.2.2.2.2.2.2.1) (q.resolve_left (by decide)),
                        fun q => (hJ.2.2.2.2.2.2.2.2.2.2.2.2.2.2.2.2.2.2.1) (q.resolve_left (by decide)),
                        fun q => (hJ.2.2.2.2.2.2.2.2.2.2.2.2.2.2.2.2.2.2.2.1) (q.resolve_left (by decide)),
                        fun q => (hJ.2.2.2.2.2.2.2.2.2.2.2.2.2.2.2.2.2.2.2.2.1) (q.resolve_left (by decide)),
                        fun q => (hJ.2.2.2.2.2.2.2.2.2.2.2.2.2.2.2.2.2.2.2.2.2.1) (q.resolve_left (by decide)),
                        fun q => (hJ.2.2.2.2.2.2.2.2.2.2.2.2.2.2.2.2.2.2.2.2.2.2.1) (q.resolve_left (by decide)),
                        fun q => (hJ.2.2.2.2.2.2.2.2.2.2.2.2.2.2.2.2.2.2.2.2.2.2.2) (q.resolve_left (by decide))⟩
                    refine StepsOk.consT (i := 6) 3 68 true rfl rfl (by kernel_rfl) (fun L x G w1 hp hJ => hJ.2.2.2.2.1 (hp ⟨3, .guard⟩ (by simp) rfl)) (fun L x G w1 K Q hn hp hJ hK => ?_) ?_
                    · skip
                      have p5 : L 5 := hp ⟨5, .data⟩ (by simp) rfl
                      have e5 := (hJ.2.2.2.2.2.2.1) p5
                      simp only [putAll, Act.put, List.setIfInBounds_toArray, List.set_cons_zero, List.set_cons_succ]
                      go_simp
                      refine hK _ G _ (by kernel_rfl) ?_
                      exact ⟨(hJ.1),
                        fun q => (hJ.2.1) (q.resolve_left (by decide)),
                        fun q => (hJ.2.2.1) (q.resolve_left (by decide)),
                        fun q => (hJ.2.2.2.1) (q.resolve_left (by decide)),
                        fun q => (hJ.2.2.2.2.1) (q.resolve_left (by decide)),
                        fun q => (hJ.2.2.2.2.2.1) (q.resolve_left (by decide)),
                        fun _ => by first | exact rfl | exact e5,
                        fun _ => rfl,
                        fun q => (hJ.2.2.2.2.2.2.2.2.1) (q.resolve_left (by decide)),
                        fun q => (hJ.2.2.2.2.2.2.2.2.2.1) (q.resolve_left (by decide)),
                        fun q => (hJ.2.2.2.2.2.2.2.2.2.2.1) (q.resolve_left (by decide)),
                        fun q => (hJ.2.2.2.2.2.2.2.2.2.2.2.1) (q.resolve_left (by decide)),
                        fun q => (hJ.2.2.2.2.2.2.2.2.2.2.2.2.1) (q.resolve_left (by decide)),
                        fun q => (hJ.2.2.2.2.2.2.2.2.2.2.2.2.2.1) (q.resolve_left (by decide)),
                        fun q => (hJ.2.2.2.2.2.2.2.2.2.2.2.2.2.2.1) (q.resolve_left (by decide)),
                        fun q => (hJ.2.2.2.2.2.2.2.2.2.2.2.2.2.2.2.1) (q.resolve_left (by decide)),
                        fun q => (hJ.2.2.2.2.2.2.2.2.2.2.2.2.2.2.2.2.1) (q.resolve_left (by decide)),
                        fun q => (hJ.2.2.2.2.2.2.2.2.2.2.2.2.2.2.2.2.2.1) (q.resolve_left (by decide)),
                        fun q => (hJ.2.2.2.2.2.2.2.2.2.2.2.2.2.2.2.2.2.2.1) (q.resolve_left (by decide)),
                        fun q => (hJ.2.2.2.2.2.2.2.2.2.2.2.2.2.2.2.2.2.2.2.1) (q.resolve_left (by decide)),
                        fun q => (hJ.2.2.2.2.2.2.2.2.2.2.2.2.2.2.2.2.2.2.2.2.1) (q.resolve_left (by decide)),
                        fun q => (hJ.2.2.2.2.2.2.2.2.2.2.2.2.2.2.2.2.2.2.2.2.2.1) (q.resolve_left (by decide)),
                        fun q => (hJ.2.2.2.2.2.2.2.2.2.2.2.2.2.2.2.2.2.2.2.2.2.2.1) (q.resolve_left (by decide)),
                        fun q => (hJ.2.2.2.2.2.2.2.2.2.2.2.2.2.2.2.2.2.2.2.2.2.2.2) (q.resolve_left (by decide))⟩
                    refine StepsOk.cons (i := 7) rfl (fun L x G w1 K Q hn hp hJ hK => ?_) ?_
                    · skip
                      have p3 : L 3 := hp ⟨3, .data⟩ (by simp) rfl
                      have e3 := (hJ.2.2.2.2.1) p3
                      have p6 : L 6 := hp ⟨6, .data⟩ (by simp) rfl
                      have e6 := (hJ.2.2.2.2.2.2.2.1) p6
                      simp only [putAll, Act.put, List.setIfInBounds_toArray, List.set_cons_zero, List.set_cons_succ]
                      go_simp
                      refine hK _ G _ (by kernel_rfl) ?_
                      exact ⟨(hJ.1),
                        fun q => (hJ.2.1) (q.resolve_left (by decide)),
                        fun q => (hJ.2.2.1) (q.resolve_left (by decide)),
                        fun q => (hJ.2.2.2.1) (q.resolve_left (by decide)),
                        fun _ => by first | exact rfl | exact e3,
                        fun q => (hJ.2.2.2.2.2.1) (q.resolve_left (by decide)),
                        fun q => (hJ.2.2.2.2.2.2.1) (q.resolve_left (by decide)),
                        fun _ => by first | exact rfl | exact e6,
                        fun _ => rfl,
                        fun q => (hJ.2.2.2.2.2.2.2.2.2.1) (q.resolve_left (by decide)),
                        fun q => (hJ.2.2.2.2.2.2.2.2.2.2.1) (q.resolve_left (by decide)),
                        fun q => (hJ.2.2.2.2.2.2.2.2.2.2.2.1) (q.resolve_left (by decide)),
                        fun q => (hJ.2.2.2.2.2.2.2.2.2.2.2.2.1) (q.resolve_left (by decide)),
                        fun q => (hJ.2.2.2.2.2.2.2.2.2.2.2.2.2.1) (q.resolve_left (by decide)),
                        fun q => (hJ.2.2.2.2.2.2.2.2.2.2.2.2.2.2.1) (q.resolve_left (by decide)),
                        fun q => (hJ.2.2.2.2.2.2.2.2.2.2.2.2.2.2.2.1) (q.resolve_left (by decide)),
                        fun q => (hJ.2.2.2.2.2.2.2.2.2.2.2.2.2.2.2.2.1) (q.resolve_left (by decide)),
                        fun q => (hJ.2.2.2.2.2.2.2.2.2.2.2.2.2.2.2.2.2.1) (q.resolve_left (by decide)),
                        fun q => (hJ.2.2.2.2.2.2.2.2.2.2.2.2.2.2.2.2.2.2.1) (q.resolve_left (by decide)),
                        fun q => (hJ.2.2.2.2.2.2.2.2.2.2.2.2.2.2.2.2.2.2.2.1) (q.resolve_left (by decide)),
                        fun q => (hJ.2.2.2.2.2.2.2.2.2.2.2.2.2.2.2.2.2.2.2.2.1) (q.resolve_left (by decide)),
                        fun q => (hJ.2.2.2.2.2.2.2.2.2.2.2.2.2.2.2.2.2.2.2.2.2.1) (q.resolve_left (by decide)),
                        fun q => (hJ.2.2.2.2.2.2.2.2.2.2.2.2.2.2.2.2.2.2.2.2.2.2.1) (q.resolve_left (by decide)),
                        fun q => (hJ.2.2.2.2.2.2.2.2.2.2.2.2.2.2.2.2.2.2.2.2.2.2.2) (q.resolve_left (by decide))⟩
                    refine StepsOk.cons (i := 8) rfl (fun L x G w1 K Q hn hp hJ hK => ?_) ?_
                    · skip
                      have p7 : L 7 := hp ⟨7, .data⟩ (by simp) rfl
                      have e7 := (hJ.2.2.2.2.2.2.2.2.1) p7
                      simp only [putAll, Act.put, List.setIfInBounds_toArray, List.set_cons_zero, List.set_cons_succ]
                      go_simp
                      refine hK _ G _ (by kernel_rfl) ?_
                      exact ⟨(hJ.1),
                        fun q => (hJ.2.1) (q.resolve_left (by decide)),
                        fun q => (hJ.2.2.1) (q.resolve_left (by decide)),
                        fun q => (hJ.2.2.2.1) (q.resolve_left (by decide)),
                        fun q => (hJ.2.2.2.2.1) (q.resolve_left (by decide)),
                        fun q => (hJ.2.2.2.2.2.1) (q.resolve_left (by decide)),
                        fun q => (hJ.2.2.2.2.2.2.1) (q.resolve_left (by decide)),
                        fun q => (hJ.2.2.2.2.2.2.2.1) (q.resolve_left (by decide)),
                        fun _ => by first | exact rfl | exact e7,
                        fun _ => rfl,
                        fun q => (hJ.2.2.2.2.2.2.2.2.2.2.1) (q.resolve_left (by decide)),
                        fun q => (hJ.2.2.2.2.2.2.2.2.2.2.2.1) (q.resolve_left (by decide)),
                        fun q => (hJ.2.2.2.2.2.2.2.2.2.2.2.2.1) (q.resolve_left (by decide)),
                        fun q => (hJ.2.2.2.2.2.2.2.2.2.2.2.2.2.1) (q.resolve_left (by decide)),
                        fun q => (hJ.2.2.2.2.2.2.2.2.2.2.2.2.2.2.1) (q.resolve_left (by decide)),
                        fun q => (hJ.2.2.2.2.2.2.2.2.2.2.2.2.2.2.2.1) (q.resolve_left (by decide)),
                        fun q => (hJ.2.2.2.2.2.2.2.2.2.2.2.2.2.2.2.2.1) (q.resolve_left (by decide)),
                        fun q => (hJ.2.2.2.2.2.2.2.2.2.2.2.2.2.2.2.2.2.1) (q.resolve_left (by decide)),
                        fun q => (hJ.2.2.2.2.2.2.2.2.2.2.2.2.2.2.2.2.2.2.1) (q.resolve_left (by decide)),
                        fun q => (hJ.2.2.2.2.2.2.2.2.2.2.2.2.2.2.2.2.2.2.2.1) (q.resolve_left (by decide)),
                        fun q => (hJ.2.2.2.2.2.2.2.2.2.2.2.2.2.2.2.2.2.2.2.2.1) (q.resolve_left (by decide)),
                        fun q => (hJ.2.2.2.2.2.2.2.2.2.2.2.2.2.2.2.2.2.2.2.2.2.1) (q.resolve_left (by decide)),
                        fun q => (hJ.2.2.2.2.2.2.2.2.2.2.2.2.2.2.2.2.2.2.2.2.2.2.1) (q.resolve_left (by decide)),
                        fun q => (hJ.2.2.2.2.2.2.2.2.2.2.2.2.2.2.2.2.2.2.2.2.2.2.2) (q.resolve_left (by decide))⟩
                    refine StepsOk.consT (i := 9) 8 73 true rfl rfl (by kernel_rfl) (fun L x G w1 hp hJ => hJ.2.2.2.2.2.2.2.2.2.1 (hp ⟨8, .guard⟩ (by simp) rfl)) (fun L x G w1 K Q hn hp hJ hK => ?_) ?_
                    · skip
                      simp only [putAll, Act.put, List.setIfInBounds_toArray, List.set_cons_zero, List.set_cons_succ]
                      go_simp
                      refine hK _ G _ (by kernel_rfl) ?_
                      exact ⟨(hJ.1),
                        fun q => (hJ.2.1) (q.resolve_left (by decide)),
                        fun q => (hJ.2.2.1) (q.resolve_left (by decide)),
                        fun q => (hJ.2.2.2.1) (q.resolve_left (by decide)),
                        fun q => (hJ.2.2.2.2.1) (q.resolve_left (by decide)),
                        fun q => (hJ.2.2.2.2.2.1) (q.resolve_left (by decide)),
                        fun q => (hJ.2.2.2.2.2.2.1) (q.resolve_left (by decide)),
                        fun q => (hJ.2.2.2.2.2.2.2.1) (q.resolve_left (by decide)),
                        fun q => (hJ.2.2.2.2.2.2.2.2.1) (q.resolve_left (by decide)),
                        fun q => (hJ.2.2.2.2.2.2.2.2.2.1) (q.resolve_left (by decide)),
                        fun _ => rfl,
                        fun q => (hJ.2.2.2.2.2.2.2.2.2.2.2.1) (q.resolve_left (by decide)),
                        fun q => (hJ.2.2.2.2.2.2.2.2.2.2.2.2.1) (q.resolve_left (by decide)),
                        fun q => (hJ.2.2.2.2.2.2.2.2.2.2.2.2.2.1) (q.resolve_left (by decide)),
                        fun q => (hJ.2.2.2.2.2.2.2.2.2.2.2.2.2.2.1) (q.resolve_left (by decide)),
                        fun q => (hJ.2.2.2.2.2.2.2.2.2.2.2.2.2.2.2.1) (q.resolve_left (by decide)),
                        fun q => (hJ.2.2.2.2.2.2.2.2.2.2.2.2.2.2.2.2.1) (q.resolve_left (by decide)),
                        fun q => (hJ.2.2.2.2.2.2.2.2.2.2.2.2.2.2.2.2.2.1) (q.resolve_left (by decide)),
                        fun q => (hJ.2.2.2.2.2.2.2.2.2.2.2.2.2.2.2.2.2.2.1) (q.resolve_left (by decide)),
                        fun q => (hJ.2.2.2.2.2.2.2.2.2.2.2.2.2.2.2.2.2.2.2.1) (q.resolve_left (by decide)),
                        fun q => (hJ.2.2.2.2.2.2.2.2.2.2.2.2.2.2.2.2.2.2.2.2.1) (q.resolve_left (by decide)),
                        fun q => (hJ.2.2.2.2.2.2.2.2.2.2.2.2.2.2.2.2.2.2.2.2.2.1) (q.resolve_left (by decide)),
                        fun q => (hJ.2.2.2.2.2.2.2.2.2.2.2.2.2.2.2.2.2.2.2.2.2.2.1) (q.resolve_left (by decide)),
                        fun q => (hJ.2.2.2.2.2.2.2.2.2.2.2.2.2.2.2.2.2.2.2.2.2.2.2) (q.resolve_left (by decide))⟩
                    refine StepsOk.consT (i := 10) 8 73 true rfl rfl (by kernel_rfl) (fun L x G w1 hp hJ => hJ.2.2.2.2.2.2.2.2.2.1 (hp ⟨8, .guard⟩ (by simp) rfl)) (fun L x G w1 K Q hn hp hJ hK => ?_) ?_
                    · skip
                      have p9 : L 9 := hp ⟨9, .data⟩ (by simp) rfl
                      have e9 := (hJ.2.2.2.2.2.2.2.2.2.2.1) p9
                      simp only [putAll, Act.put, List.setIfInBounds_toArray, List.set_cons_zero, List.set_cons_succ]
                      go_simp
                      refine hK _ G _ (by kernel_rfl) ?_
                      exact ⟨(hJ.1),
                        fun q => (hJ.2.1) (q.resolve_left (by decide)),
                        fun q => (hJ.2.2.1) (q.resolve_left (by decide)),
                        fun q => (hJ.2.2.2.1) (q.resolve_left (by decide)),
                        fun q => (hJ.2.2.2.2.1) (q.resolve_left (by decide)),
                        fun q => (hJ.2.2.2.2.2.1) (q.resolve_left (by decide)),
                        fun q => (hJ.2.2.2.2.2.2.1) (q.resolve_left (by decide)),
                        fun q => (hJ.2.2.2.2.2.2.2.1) (q.resolve_left (by decide)),
                        fun q => (hJ.2.2.2.2.2.2.2.2.1) (q.resolve_left (by decide)),
                        fun q => (hJ.2.2.2.2.2.2.2.2.2.1) (q.resolve_left (by decide)),
                        fun _ => by first | exact rfl | exact e9,
                        fun _ => rfl,
                        fun q => (hJ.2.2.2.2.2.2.2.2.2.2.2.2.1) (q.resolve_left (by decide)),
                        fun q => (hJ.2.2.2.2.2.2.2.2.2.2.2.2.2.1) (q.resolve_left (by decide)),
                        fun q => (hJ.2.2.2.2.2.2.2.2.2.2.2.2.2.2.1) (q.resolve_left (by decide)),
                        fun q => (hJ.2.2.2.2.2.2.2.2.2.2.2.2.2.2.2.1) (q.resolve_left (by decide)),
                        fun q => (hJ.2.2.2.2.2.2.2.2.2.2.2.2.2.2.2.2.1) (q.resolve_left (by decide)),
                        fun q => (hJ.2.2.2.2.2.2.2.2.2.2.2.2.2.2.2.2.2.1) (q.resolve_left (by decide)),
                        fun q => (hJ.2.2.2.2.2.2.2.2.2.2.2.2.2.2.2.2.2.2.1) (q.resolve_left (by decide)),
                        fun q => (hJ.2.2.2.2.2.2.2.2.2.2.2.2.2.2.2.2.2.2.2.1) (q.resolve_left (by decide)),
                        fun q => (hJ.2.2.2.2.2.2.2.2.2.2.2.2.2.2.2.2.2.2.2.2.1) (q.resolve_left (by decide)),
                        fun q => (hJ.2.2.2.2.2.2.2.2.2.2.2.2.2.2.2.2.2.2.2.2.2.1) (q.resolve_left (by decide)),
                        fun q => (hJ.2.2.2.2.2.2.2.2.2.2.2.2.2.2.2.2.2.2.2.2.2.2.1) (q.resolve_left (by decide)),
                        fun q => (hJ.2.2.2.2.2.2.2.2.2.2.2.2.2.2.2.2.2.2.2.2.2.2.2) (q.resolve_left (by decide))⟩
                    refine StepsOk.consT (i := 11) 8 73 true rfl rfl (by kernel_rfl) (fun L x G w1 hp hJ => hJ.2.2.2.2.2.2.2.2.2.1 (hp ⟨8, .guard⟩ (by simp) rfl)) (fun L x G w1 K Q hn hp hJ hK => ?_) ?_
                    · skip
                      have p10 : L 10 := hp ⟨10, .data⟩ (by simp) rfl
                      have e10 := (hJ.2.2.2.2.2.2.2.2.2.2.2.1) p10
                      simp only [putAll, Act.put, List.setIfInBounds_toArray, List.set_cons_zero, List.set_cons_succ]
                      go_simp
                      refine hK _ G _ (by kernel_rfl) ?_
                      exact ⟨(hJ.1),
                        fun q => (hJ.2.1) (q.resolve_left (by decide)),
                        fun q => (hJ.2.2.1) (q.resolve_left (by decide)),
                        fun q => (hJ.2.2.2.1) (q.resolve_left (by decide)),
                        fun q => (hJ.2.2.2.2.1) (q.resolve_left (by decide)),
                        fun q => (hJ.2.2.2.2.2.1) (q.resolve_left (by decide)),
                        fun q => (hJ.2.2.2.2.2.2.1) (q.resolve_left (by decide)),
                        fun q => (hJ.2.2.2.2.2.2.2.1) (q.resolve_left (by decide)),
                        fun q => (hJ.2.2.2.2.2.2.2.2.1) (q.resolve_left (by decide)),
                        fun q => (hJ.2.2.2.2.2.2.2.2.2.1) (q.resolve_left (by decide)),
                        fun q => (hJ.2.2.2.2.2.2.2.2.2.2.1) (q.resolve_left (by decide)),
                        fun _ => by first | exact rfl | exact e10,
                        fun _ => rfl,
                        fun q => (hJ.2.2.2.2.2.2.2.2.2.2.2.2.2.1) (q.resolve_left (by decide)),
                        fun q => (hJ.2.2.2.2.2.2.2.2.2.2.2.2.2.2.1) (q.resolve_left (by decide)),
                        fun q => (hJ.2.2.2.2.2.2.2.2.2.2.2.2.2.2.2.1) (q.resolve_left (by decide)),
                        fun q => (hJ.2.2.2.2.2.2.2.2.2.2.2.2.2.2.2.2.1) (q.resolve_left (by decide)),
                        fun q => (hJ.2.2.2.2.2.2.2.2.2.2.2.2.2.2.2.2.2.1) (q.resolve_left (by decide)),
                        fun q => (hJ.2.2.2.2.2.2.2.2.2.2.2.2.2.2.2.2.2.2.1) (q.resolve_left (by decide)),
                        fun q => (hJ.2.2.2.2.2.2.2.2.2.2.2.2.2.2.2.2.2.2.2.1) (q.resolve_left (by decide)),
                        fun q => (hJ.2.2.2.2.2.2.2.2.2.2.2.2.2.2.2.2.2.2.2.2.1) (q.resolve_left (by decide)),
                        fun q => (hJ.2.2.2.2.2.2.2.2.2.2.2.2.2.2.2.2.2.2.2.2.2.1) (q.resolve_left (by decide)),
                        fun q => (hJ.2.2.2.2.2.2.2.2.2.2.2.2.2.2.2.2.2.2.2.2.2.2.1) (q.resolve_left (by decide)),
                        fun q => (hJ.2.2.2.2.2.2.2.2.2.2.2.2.2.2.2.2.2.2.2.2.2.2.2) (q.resolve_left (by decide))⟩
                    refine StepsOk.consT (i := 12) 11 76 false rfl rfl (by kernel_rfl) (fun L x G w1 hp hJ => hJ.2.2.2.2.2.2.2.2.2.2.2.2.1 (hp ⟨11, .guard⟩ (by simp) rfl)) (fun L x G w1 K Q hn hp hJ hK => ?_) ?_
                    · skip
                      simp only [putAll, Act.put, List.setIfInBounds_toArray, List.set_cons_zero, List.set_cons_succ]
                      go_simp
                      refine hK _ G _ (by kernel_rfl) ?_
                      exact ⟨(hJ.1),
                        fun q => (hJ.2.1) (q.resolve_left (by decide)),
                        fun q => (hJ.2.2.1) (q.resolve_left (by decide)),
                        fun q => (hJ.2.2.2.1) (q.resolve_left (by decide)),
                        fun q => (hJ.2.2.2.2.1) (q.resolve_left (by decide)),
                        fun q => (hJ.2.2.2.2.2.1) (q.resolve_left (by decide)),
                        fun q => (hJ.2.2.2.2.2.2.1) (q.resolve_left (by decide)),
                        fun q => (hJ.2.2.2.2.2.2.2.1) (q.resolve_left (by decide)),
                        fun q => (hJ.2.2.2.2.2.2.2.2.1) (q.resolve_left (by decide)),
                        fun q => (hJ.2.2.2.2.2.2.2.2.2.1) (q.resolve_left (by decide)),
                        fun q => (hJ.2.2.2.2.2.2.2.2.2.2.1) (q.resolve_left (by decide)),
                        fun q => (hJ.2.2.2.2.2.2.2.2.2.2.2.1) (q.resolve_left (by decide)),
                        fun q => (hJ.2.2.2.2.2.2.2.2.2.2.2.2.1) (q.resolve_left (by decide)),
                        fun _ => rfl,
                        fun q => (hJ.2.2.2.2.2.2.2.2.2.2.2.2.2.2.1) (q.resolve_left (by decide)),
                        fun q => (hJ.2.2.2.2.2.2.2.2.2.2.2.2.2.2.2.1) (q.resolve_left (by decide)),
                        fun q => (hJ.2.2.2.2.2.2.2.2.2.2.2.2.2.2.2.2.1) (q.resolve_left (by decide)),
                        fun q => (hJ.2.2.2.2.2.2.2.2.2.2.2.2.2.2.2.2.2.1) (q.resolve_left (by decide)),
                        fun q => (hJ.2.2.2.2.2.2.2.2.2.2.2.2.2.2.2.2.2.2.1) (q.resolve_left (by decide)),
                        fun q => (hJ.2.2.2.2.2.2.2.2.2.2.2.2.2.2.2.2.2.2.2.1) (q.resolve_left (by decide)),
                        fun q => (hJ.2.2.2.2.2.2.2.2.2.2.2.2.2.2.2.2.2.2.2.2.1) (q.resolve_left (by decide)),
                        fun q => (hJ.2.2.2.2.2.2.2.2.2.2.2.2.2.2.2.2.2.2.2.2.2.1) (q.resolve_left (by decide)),
                        fun q => (hJ.2.2.2.2.2.2.2.2.2.2.2.2.2.2.2.2.2.2.2.2.2.2.1) (q.resolve_left (by decide)),
                        fun q => (hJ.2.2.2.2.2.2.2.2.2.2.2.2.2.2.2.2.2.2.2.2.2.2.2) (q.resolve_left (by decide))⟩
                    refine StepsOk.consT (i := 13) 11 76 false rfl rfl (by kernel_rfl) (fun L x G w1 hp hJ => hJ.2.2.2.2.2.2.2.2.2.2.2.2.1 (hp ⟨11, .guard⟩ (by simp) rfl)) (fun L x G w1 K Q hn hp hJ hK => ?_) ?_
                    · skip
                      simp only [putAll, Act.put, List.setIfInBounds_toArray, List.set_cons_zero, List.set_cons_succ]
                      go_simp
                      refine hK _ G _ (by kernel_rfl) ?_
                      exact ⟨(hJ.1),
                        fun q => (hJ.2.1) (q.resolve_left (by decide)),
                        fun q => (hJ.2.2.1) (q.resolve_left (by decide)),
                        fun q => (hJ.2.2.2.1) (q.resolve_left (by decide)),
                        fun q => (hJ.2.2.2.2.1) (q.resolve_left (by decide)),
                        fun q => (hJ.2.2.2.2.2.1) (q.resolve_left (by decide)),
                        fun q => (hJ.2.2.2.2.2.2.1) (q.resolve_left (by decide)),
                        fun q => (hJ.2.2.2.2.2.2.2.1) (q.resolve_left (by decide)),
                        fun q => (hJ.2.2.2.2.2.2.2.2.1) (q.resolve_left (by decide)),
                        fun q => (hJ.2.2.2.2.2.2.2.2.2.1) (q.resolve_left (by decide)),
                        fun q => (hJ.2.2.2.2.2.2.2.2.2.2.1) (q.resolve_left (by decide)),
                        fun q => (hJ.2.2.2.2.2.2.2.2.2.2.2.1) (q.resolve_left (by decide)),
                        fun q => (hJ.2.2.2.2.2.2.2.2.2.2.2.2.1) (q.resolve_left (by decide)),
                        fun q => (hJ.2.2.2.2.2.2.2.2.2.2.2.2.2.1) (q.resolve_left (by decide)),
                        fun _ => rfl,
                        fun q => (hJ.2.2.2.2.2.2.2.2.2.2.2.2.2.2.2.1) (q.resolve_left (by decide)),
                        fun q => (hJ.2.2.2.2.2.2.2.2.2.2.2.2.2.2.2.2.1) (q.resolve_left (by decide)),
                        fun q => (hJ.2.2.2.2.2.2.2.2.2.2.2.2.2.2.2.2.2.1) (q.resolve_left (by decide)),
                        fun q => (hJ.2.2.2.2.2.2.2.2.2.2.2.2.2.2.2.2.2.2.1) (q.resolve_left (by decide)),
                        fun q => (hJ.2.2.2.2.2.2.2.2.2.2.2.2.2.2.2.2.2.2.2.1) (q.resolve_left (by decide)),
                        fun q => (hJ.2.2.2.2.2.2.2.2.2.2.2.2.2.2.2.2.2.2.2.2.1) (q.resolve_left (by decide)),
                        fun q => (hJ.2.2.2.2.2.2.2.2.2.2.2.2.2.2.2.2.2.2.2.2.2.1) (q.resolve_left (by decide)),
                        fun q => (hJ.2.2.2.2.2.2.2.2.2.2.2.2.2.2.2.2.2.2.2.2.2.2.1) (q.resolve_left (by decide)),
                        fun q => (hJ.2.2.2.2.2.2.2.2.2.2.2.2.2.2.2.2.2.2.2.2.2.2.2) (q.resolve_left (by decide))⟩
                    refine StepsOk.consT (i := 14) 11 76 false rfl rfl (by kernel_rfl) (fun L x G w1 hp hJ => hJ.2.2.2.2.2.2.2.2.2.2.2.2.1 (hp ⟨11, .guard⟩ (by simp) rfl)) (fun L x G w1 K Q hn hp hJ hK => ?_) ?_
                    · skip
                      have p12 : L 12 := hp ⟨12, .data⟩ (by simp) rfl
                      have e12 := (hJ.2.2.2.2.2.2.2.2.2.2.2.2.2.1) p12
                      have p13 : L 13 := hp ⟨13, .data⟩ (by simp) rfl
                      have e13 := (hJ.2.2.2.2.2.2.2.2.2.2.2.2.2.2.1) p13
                      simp only [putAll, Act.put, List.setIfInBounds_toArray, List.set_cons_zero, List.set_cons_succ]
                      go_simp
                      refine hK _ G _ (by kernel_rfl) ?_
                      exact ⟨(hJ.1),
                        fun q => (hJ.2.1) (q.resolve_left (by decide)),
                        fun q => (hJ.2.2.1) (q.resolve_left (by decide)),
                        fun q => (hJ.2.2.2.1) (q.resolve_left (by decide)),
                        fun q => (hJ.2.2.2.2.1) (q.resolve_left (by decide)),
                        fun q => (hJ.2.2.2.2.2.1) (q.resolve_left (by decide)),
                        fun q => (hJ.2.2.2.2.2.2.1) (q.resolve_left (by decide)),
                        fun q => (hJ.2.2.2.2.2.2.2.1) (q.resolve_left (by decide)),
                        fun q => (hJ.2.2.2.2.2.2.2.2.1) (q.resolve_left (by decide)),
                        fun q => (hJ.2.2.2.2.2.2.2.2.2.1) (q.resolve_left (by decide)),
                        fun q => (hJ.2.2.2.2.2.2.2.2.2.2.1) (q.resolve_left (by decide)),
                        fun q => (hJ.2.2.2.2.2.2.2.2.2.2.2.1) (q.resolve_left (by decide)),
                        fun q => (hJ.2.2.2.2.2.2.2.2.2.2.2.2.1) (q.resolve_left (by decide)),
                        fun _ => by first | exact rfl | exact e12,
                        fun _ => by first | exact rfl | exact e13,
                        fun _ => rfl,
                        fun q => (hJ.2.2.2.2.2.2.2.2.2.2.2.2.2.2.2.2.1) (q.resolve_left (by decide)),
                        fun q => (hJ.2.2.2.2.2.2.2.2.2.2.2.2.2.2.2.2.2.1) (q.resolve_left (by decide)),
                        fun q => (hJ.2.2.2.2.2.2.2.2.2.2.2.2.2.2.2.2.2.2.1) (q.resolve_left (by decide)),
                        fun q => (hJ.2.2.2.2.2.2.2.2.2.2.2.2.2.2.2.2.2.2.2.1) (q.resolve_left (by decide)),
                        fun q => (hJ.2.2.2.2.2.2.2.2.2.2.2.2.2.2.2.2.2.2.2.2.1) (q.resolve_left (by decide)),
                        fun q => (hJ.2.2.2.2.2.2.2.2.2.2.2.2.2.2.2.2.2.2.2.2.2.1) (q.resolve_left (by decide)),
                        fun q => (hJ.2.2.2.2.2.2.2.2.2.2.2.2.2.2.2.2.2.2.2.2.2.2.1) (q.resolve_left (by decide)),
                        fun q => (hJ.2.2.2.2.2.2.2.2.2.2.2.2.2.2.2.2.2.2.2.2.2.2.2) (q.resolve_left (by decide))⟩
                    refine StepsOk.consT (i := 15) 11 76 false rfl rfl (by kernel_rfl) (fun L x G w1 hp hJ => hJ.2.2.2.2.2.2.2.2.2.2.2.2.1 (hp ⟨11, .guard⟩ (by simp) rfl)) (fun L x G w1 K Q hn hp hJ hK => ?_) ?_
                    · skip
                      have p14 : L 14 := hp ⟨14, .data⟩ (by simp) rfl
                      have e14 := (hJ.2.2.2.2.2.2.2.2.2.2.2.2.2.2.2.1) p14
                      have hc := ((own).keep (hJ.1)).lab ht
                      have c0 := hc.1
                      have c1 := hc.2.1
                      have c2 := hc.2.2.1
                      clear hc
                      simp only [putAll, Act.put, List.setIfInBounds_toArray, List.set_cons_zero, List.set_cons_succ]
                      go_simp
                      refine hK _ G _ (by kernel_rfl) ?_
                      exact ⟨(hJ.1),
                        fun q => (hJ.2.1) (q.resolve_left (by decide)),
                        fun q => (hJ.2.2.1) (q.resolve_left (by decide)),
                        fun q => (hJ.2.2.2.1) (q.resolve_left (by decide)),
                        fun q => (hJ.2.2.2.2.1) (q.resolve_left (by decide)),
                        fun q => (hJ.2.2.2.2.2.1) (q.resolve_left (by decide)),
                        fun q => (hJ.2.2.2.2.2.2.1) (q.resolve_left (by decide)),
                        fun q => (hJ.2.2.2.2.2.2.2.1) (q.resolve_left (by decide)),
                        fun q => (hJ.2.2.2.2.2.2.2.2.1) (q.resolve_left (by decide)),
                        fun q => (hJ.2.2.2.2.2.2.2.2.2.1) (q.resolve_left (by decide)),
                        fun q => (hJ.2.2.2.2.2.2.2.2.2.2.1) (q.resolve_left (by decide)),
                        fun q => (hJ.2.2.2.2.2.2.2.2.2.2.2.1) (q.resolve_left (by decide)),
                        fun q => (hJ.2.2.2.2.2.2.2.2.2.2.2.2.1) (q.resolve_left (by decide)),
                        fun q => (hJ.2.2.2.2.2.2.2.2.2.2.2.2.2.1) (q.resolve_left (by decide)),
                        fun q => (hJ.2.2.2.2.2.2.2.2.2.2.2.2.2.2.1) (q.resolve_left (by decide)),
                        fun _ => by first | exact rfl | exact e14,
                        fun _ => rfl,
                        fun q => (hJ.2.2.2.2.2.2.2.2.2.2.2.2.2.2.2.2.2.1) (q.resolve_left (by decide)),
                        fun q => (hJ.2.2.2.2.2.2.2.2.2.2.2.2.2.2.2.2.2.2.1) (q.resolve_left (by decide)),
                        fun q => (hJ.2.2.2.2.2.2.2.2.2.2.2.2.2.2.2.2.2.2.2.1) (q.resolve_left (by decide)),
                        fun q => (hJ.2.2.2.2.2.2.2.2.2.2.2.2.2.2.2.2.2.2.2.2.1) (q.resolve_left (by decide)),
                        fun q => (hJ.2.2.2.2.2.2.2.2.2.2.2.2.2.2.2.2.2.2.2.2.2.1) (q.resolve_left (by decide)),
                        fun q => (hJ.2.2.2.2.2.2.2.2.2.2.2.2.2.2.2.2.2.2.2.2.2.2.1) (q.resolve_left (by decide)),
                        fun q => (hJ.2.2.2.2.2.2.2.2.2.2.2.2.2.2.2.2.2.2.2.2.2.2.2) (q.resolve_left (by decide))⟩
                    refine StepsOk.consT (i := 16) 11 76 false rfl rfl (by kernel_rfl) (fun L x G w1 hp hJ => hJ.2.2.2.2.2.2.2.2.2.2.2.2.1 (hp ⟨11, .guard⟩ (by simp) rfl)) (fun L x G w1 K Q hn hp hJ hK => ?_) ?_
                    · skip
                      simp only [putAll, Act.put, List.setIfInBounds_toArray, List.set_cons_zero, List.set_cons_succ]
                      go_simp
                      refine hK _ G _ (by kernel_rfl) ?_
                      exact ⟨(hJ.1),
                        fun q => (hJ.2.1) (q.resolve_left (by decide)),
                        fun q => (hJ.2.2.1) (q.resolve_left (by decide)),
                        fun q => (hJ.2.2.2.1) (q.resolve_left (by decide)),
                        fun q => (hJ.2.2.2.2.1) (q.resolve_left (by decide)),
                        fun q => (hJ.2.2.2.2.2.1) (q.resolve_left (by decide)),
                        fun q => (hJ.2.2.2.2.2.2.1) (q.resolve_left (by decide)),
                        fun q => (hJ.2.2.2.2.2.2.2.1) (q.resolve_left (by decide)),
                        fun q => (hJ.2.2.2.2.2.2.2.2.1) (q.resolve_left (by decide)),
                        fun q => (hJ.2.2.2.2.2.2.2.2.2.1) (q.resolve_left (by decide)),
                        fun q => (hJ.2.2.2.2.2.2.2.2.2.2.1) (q.resolve_left (by decide)),
                        fun q => (hJ.2.2.2.2.2.2.2.2.2.2.2.1) (q.resolve_left (by decide)),
                        fun q => (hJ.2.2.2.2.2.2.2.2.2.2.2.2.1) (q.resolve_left (by decide)),
                        fun q => (hJ.2.2.2.2.2.2.2.2.2.2.2.2.2.1) (q.resolve_left (by decide)),
                        fun q => (hJ.2.2.2.2.2.2.2.2.2.2.2.2.2.2.1) (q.resolve_left (by decide)),
                        fun q => (hJ.2.2.2.2.2.2.2.2.2.2.2.2.2.2.2.1) (q.resolve_left (by decide)),
                        fun q => (hJ.2.2.2.2.2.2.2.2.2.2.2.2.2.2.2.2.1) (q.resolve_left (by decide)),
                        fun _ => rfl,
                        fun q => (hJ.2.2.2.2.2.2.2.2.2.2.2.2.2.2.2.2.2.2.1) (q.resolve_left (by decide)),
                        fun q => (hJ.2.2.2.2.2.2.2.2.2.2.2.2.2.2.2.2.2.2.2.1) (q.resolve_left (by decide)),
                        fun q => (hJ.2.2.2.2.2.2.2.2.2.2.2.2.2.2.2.2.2.2.2.2.1) (q.resolve_left (by decide)),
                        fun q => (hJ.2.2.2.2.2.2.2.2.2.2.2.2.2.2.2.2.2.2.2.2.2.1) (q.resolve_left (by decide)),
                        fun q => (hJ.2.2.2.2.2.2.2.2.2.2.2.2.2.2.2.2.2.2.2.2.2.2.1) (q.resolve_left (by decide)),
                        fun q => (hJ.2.2.2.2.2.2.2.2.2.2.2.2.2.2.2.2.2.2.2.2.2.2.2) (q.resolve_left (by decide))⟩
                    refine StepsOk.consT (i := 17) 11 76 false rfl rfl (by kernel_rfl) (fun L x G w1 hp hJ => hJ.2.2.2.2.2.2.2.2.2.2.2.2.1 (hp ⟨11, .guard⟩ (by simp) rfl)) (fun L x G w1 K Q hn hp hJ hK => ?_) ?_
                    · skip
                      have p16 : L 16 := hp ⟨16, .data⟩ (by simp) rfl
                      have e16 := (hJ.2.2.2.2.2.2.2.2.2.2.2.2.2.2.2.2.2.1) p16
                      have hc := ((X).keep (hJ.1)).open3
                      have c0 := hc.1
                      have c1 := hc.2.1
                      have c2 := hc.2.2.1
                      clear hc
                      simp only [putAll, Act.put, List.setIfInBounds_toArray, List.set_cons_zero, List.set_cons_succ]
                      go_simp
                      refine hK _ G _ (by kernel_rfl) ?_
                      exact ⟨(hJ.1),
                        fun q => (hJ.2.1) (q.resolve_left (by decide)),
                        fun q => (hJ.2.2.1) (q.resolve_left (by decide)),
                        fun q => (hJ.2.2.2.1) (q.resolve_left (by decide)),
                        fun q => (hJ.2.2.2.2.1) (q.resolve_left (by decide)),
                        fun q => (hJ.2.2.2.2.2.1) (q.resolve_left (by decide)),
                        fun q => (hJ.2.2.2.2.2.2.1) (q.resolve_left (by decide)),
                        fun q => (hJ.2.2.2.2.2.2.2.1) (q.resolve_left (by decide)),
                        fun q => (hJ.2.2.2.2.2.2.2.2.1) (q.resolve_left (by decide)),
                        fun q => (hJ.2.2.2.2.2.2.2.2.2.1) (q.resolve_left (by decide)),
                        fun q => (hJ.2.2.2.2.2.2.2.2.2.2.1) (q.resolve_left (by decide)),
                        fun q => (hJ.2.2.2.2.2.2.2.2.2.2.2.1) (q.resolve_left (by decide)),
                        fun q => (hJ.2.2.2.2.2.2.2.2.2.2.2.2.1) (q.resolve_left (by decide)),
                        fun q => (hJ.2.2.2.2.2.2.2.2.2.2.2.2.2.1) (q.resolve_left (by decide)),
                        fun q => (hJ.2.2.2.2.2.2.2.2.2.2.2.2.2.2.1) (q.resolve_left (by decide)),
                        fun q => (hJ.2.2.2.2.2.2.2.2.2.2.2.2.2.2.2.1) (q.resolve_left (by decide)),
                        fun q => (hJ.2.2.2.2.2.2.2.2.2.2.2.2.2.2.2.2.1) (q.resolve_left (by decide)),
                        fun _ => by first | exact rfl | exact e16,
                        fun _ => rfl,
                        fun q => (hJ.2.2.2.2.2.2.2.2.2.2.2.2.2.2.2.2.2.2.2.1) (q.resolve_left (by decide)),
                        fun q => (hJ.2.2.2.2.2.2.2.2.2.2.2.2.2.2.2.2.2.2.2.2.1) (q.resolve_left (by decide)),
                        fun q => (hJ.2.2.2.2.2.2.2.2.2.2.2.2.2.2.2.2.2.2.2.2.2.1) (q.resolve_left (by decide)),
                        fun q => (hJ.2.2.2.2.2.2.2.2.2.2.2.2.2.2.2.2.2.2.2.2.2.2.1) (q.resolve_left (by decide)),
                        fun q => (hJ.2.2.2.2.2.2.2.2.2.2.2.2.2.2.2.2.2.2.2.2.2.2.2) (q.resolve_left (by decide))⟩
                    refine StepsOk.consT (i := 18) 11 76 false rfl rfl (by kernel_rfl) (fun L x G w1 hp hJ => hJ.2.2.2.2.2.2.2.2.2.2.2.2.1 (hp ⟨11, .guard⟩ (by simp) rfl)) (fun L x G w1 K Q hn hp hJ hK => ?_) ?_
                    · skip
                      simp only [putAll, Act.put, List.setIfInBounds_toArray, List.set_cons_zero, List.set_cons_succ]
                      go_simp
                      refine hK _ G _ (by kernel_rfl) ?_
                      exact ⟨(hJ.1),
                        fun q => (hJ.2.1) (q.resolve_left (by decide)),
                        fun q => (hJ.2.2.1) (q.resolve_left (by decide)),
                        fun q => (hJ.2.2.2.1) (q.resolve_left (by decide)),
                        fun q => (hJ.2.2.2.2.1) (q.resolve_left (by decide)),
                        fun q => (hJ.2.2.2.2.2.1) (q.resolve_left (by decide)),
                        fun q => (hJ.2.2.2.2.2.2.1) (q.resolve_left (by decide)),
                        fun q => (hJ.2.2.2.2.2.2.2.1) (q.resolve_left (by decide)),
                        fun q => (hJ.2.2.2.2.2.2.2.2.1) (q.resolve_left (by decide)),
                        fun q => (hJ.2.2.2.2.2.2.2.2.2.1) (q.resolve_left (by decide)),
                        fun q => (hJ.2.2.2.2.2.2.2.2.2.2.1) (q.resolve_left (by decide)),
                        fun q => (hJ.2.2.2.2.2.2.2.2.2.2.2.1) (q.resolve_left (by decide)),
                        fun q => (hJ.2.2.2.2.2.2.2.2.2.2.2.2.1) (q.resolve_left (by decide)),
                        fun q => (hJ.2.2.2.2.2.2.2.2.2.2.2.2.2.1) (q.resolve_left (by decide)),
                        fun q => (hJ.2.2.2.2.2.2.2.2.2.2.2.2.2.2.1) (q.resolve_left (by decide)),
                        fun q => (hJ.2.2.2.2.2.2.2.2.2.2.2.2.2.2.2.1) (q.resolve_left (by decide)),
                        fun q => (hJ.2.2.2.2.2.2.2.2.2.2.2.2.2.2.2.2.1) (q.resolve_left (by decide)),
                        fun q => (hJ.2.2.2.2.2.2.2.2.2.2.2.2.2.2.2.2.2.1) (q.resolve_left (by decide)),
                        fun q => (hJ.2.2.2.2.2.2.2.2.2.2.2.2.2.2.2.2.2.2.1) (q.resolve_left (by decide)),
                        fun _ => rfl,
                        fun q => (hJ.2.2.2.2.2.2.2.2.2.2.2.2.2.2.2.2.2.2.2.2.1) (q.resolve_left (by decide)),
                        fun q => (hJ.2.2.2.2.2.2.2.2.2.2.2.2.2.2.2.2.2.2.2.2.2.1) (q.resolve_left (by decide)),
                        fun q => (hJ.2.2.2.2.2.2.2.2.2.2.2.2.2.2.2.2.2.2.2.2.2.2.1) (q.resolve_left (by decide)),
                        fun q => (hJ.2.2.2.2.2.2.2.2.2.2.2.2.2.2.2.2.2.2.2.2.2.2.2) (q.resolve_left (by decide))⟩
                    refine StepsOk.consT (i := 19) 11 76 false rfl rfl (by kernel_rfl) (fun L x G w1 hp hJ => hJ.2.2.2.2.2.2.2.2.2.2.2.2.1 (hp ⟨11, .guard⟩ (by simp) rfl)) (fun L x G w1 K Q hn hp hJ hK => ?_) ?_
                    · skip
                      have p18 : L 18 := hp ⟨18, .data⟩ (by simp) rfl
                      have e18 := (hJ.2.2.2.2.2.2.2.2.2.2.2.2.2.2.2.2.2.2.2.1) p18
                      have hc := ((X).keep (hJ.1)).open3
                      have c0 := hc.1
                      have c1 := hc.2.1
                      have c2 := hc.2.2.1
                      clear hc
                      simp only [putAll, Act.put, List.setIfInBounds_toArray, List.set_cons_zero, List.set_cons_succ]
                      go_simp
                      refine hK _ G _ (by kernel_rfl) ?_
                      exact ⟨(hJ.1),
                        fun q => (hJ.2.1) (q.resolve_left (by decide)),
                        fun q => (hJ.2.2.1) (q.resolve_left (by decide)),
                        fun q => (hJ.2.2.2.1) (q.resolve_left (by decide)),
                        fun q => (hJ.2.2.2.2.1) (q.resolve_left (by decide)),
                        fun q => (hJ.2.2.2.2.2.1) (q.resolve_left (by decide)),
                        fun q => (hJ.2.2.2.2.2.2.1) (q.resolve_left (by decide)),
                        fun q => (hJ.2.2.2.2.2.2.2.1) (q.resolve_left (by decide)),
                        fun q => (hJ.2.2.2.2.2.2.2.2.1) (q.resolve_left (by decide)),
                        fun q => (hJ.2.2.2.2.2.2.2.2.2.1) (q.resolve_left (by decide)),
                        fun q => (hJ.2.2.2.2.2.2.2.2.2.2.1) (q.resolve_left (by decide)),
                        fun q => (hJ.2.2.2.2.2.2.2.2.2.2.2.1) (q.resolve_left (by decide)),
                        fun q => (hJ.2.2.2.2.2.2.2.2.2.2.2.2.1) (q.resolve_left (by decide)),
                        fun q => (hJ.2.2.2.2.2.2.2.2.2.2.2.2.2.1) (q.resolve_left (by decide)),
                        fun q => (hJ.2.2.2.2.2.2.2.2.2.2.2.2.2.2.1) (q.resolve_left (by decide)),
                        fun q => (hJ.2.2.2.2.2.2.2.2.2.2.2.2.2.2.2.1) (q.resolve_left (by decide)),
                        fun q => (hJ.2.2.2.2.2.2.2.2.2.2.2.2.2.2.2.2.1) (q.resolve_left (by decide)),
                        fun q => (hJ.2.2.2.2.2.2.2.2.2.2.2.2.2.2.2.2.2.1) (q.resolve_left (by decide)),
                        fun q => (hJ.2.2.2.2.2.2.2.2.2.2.2.2.2.2.2.2.2.2.1) (q.resolve_left (by decide)),
                        fun _ => by first | exact rfl | exact e18,
                        fun _ => rfl,
                        fun q => (hJ.2.2.2.2.2.2.2.2.2.2.2.2.2.2.2.2.2.2.2.2.2.1) (q.resolve_left (by decide)),
                        fun q => (hJ.2.2.2.2.2.2.2.2.2.2.2.2.2.2.2.2.2.2.2.2.2.2.1) (q.resolve_left (by decide)),
                        fun q => (hJ.2.2.2.2.2.2.2.2.2.2.2.2.2.2.2.2.2.2.2.2.2.2.2) (q.resolve_left (by decide))⟩
                    refine StepsOk.consT (i := 20) 11 76 false rfl rfl (by kernel_rfl) (fun L x G w1 hp hJ => hJ.2.2.2.2.2.2.2.2.2.2.2.2.1 (hp ⟨11, .guard⟩ (by simp) rfl)) (fun L x G w1 K Q hn hp hJ hK => ?_) ?_
                    · skip
                      have p15 : L 15 := hp ⟨15, .data⟩ (by simp) rfl
                      have e15 := (hJ.2.2.2.2.2.2.2.2.2.2.2.2.2.2.2.2.1) p15
                      have p17 : L 17 := hp ⟨17, .data⟩ (by simp) rfl
                      have e17 := (hJ.2.2.2.2.2.2.2.2.2.2.2.2.2.2.2.2.2.2.1) p17
                      have p19 : L 19 := hp ⟨19, .data⟩ (by simp) rfl
                      have e19 := (hJ.2.2.2.2.2.2.2.2.2.2.2.2.2.2.2.2.2.2.2.2.1) p19
                      simp only [putAll, Act.put, List.setIfInBounds_toArray, List.set_cons_zero, List.set_cons_succ]
                      go_simp
                      refine (better_c _ _ _ _ _ _).mono ?_
                      rw [HBT.out]
                      rintro e w2 ⟨rfl, hb⟩
                      have hz := hb.size
                      try go_simp
                      refine hK _ G _ (by kernel_rfl) ?_
                      exact ⟨bt (hJ.1) hb,
                        fun q => (hJ.2.1) (q.resolve_left (by decide)),
                        fun q => (hJ.2.2.1) (q.resolve_left (by decide)),
                        fun q => (hJ.2.2.2.1) (q.resolve_left (by decide)),
                        fun q => (hJ.2.2.2.2.1) (q.resolve_left (by decide)),
                        fun q => (hJ.2.2.2.2.2.1) (q.resolve_left (by decide)),
                        fun q => (hJ.2.2.2.2.2.2.1) (q.resolve_left (by decide)),
                        fun q => (hJ.2.2.2.2.2.2.2.1) (q.resolve_left (by decide)),
                        fun q => (hJ.2.2.2.2.2.2.2.2.1) (q.resolve_left (by decide)),
                        fun q => (hJ.2.2.2.2.2.2.2.2.2.1) (q.resolve_left (by decide)),
                        fun q => (hJ.2.2.2.2.2.2.2.2.2.2.1) (q.resolve_left (by decide)),
                        fun q => (hJ.2.2.2.2.2.2.2.2.2.2.2.1) (q.resolve_left (by decide)),
                        fun q => (hJ.2.2.2.2.2.2.2.2.2.2.2.2.1) (q.resolve_left (by decide)),
                        fun q => (hJ.2.2.2.2.2.2.2.2.2.2.2.2.2.1) (q.resolve_left (by decide)),
                        fun q => (hJ.2.2.2.2.2.2.2.2.2.2.2.2.2.2.1) (q.resolve_left (by decide)),
                        fun q => (hJ.2.2.2.2.2.2.2.2.2.2.2.2.2.2.2.1) (q.resolve_left (by decide)),
                        fun _ => by first | exact rfl | exact e15,
                        fun q => (hJ.2.2.2.2.2.2.2.2.2.2.2.2.2.2.2.2.2.1) (q.resolve_left (by decide)),
                        fun _ => by first | exact rfl | exact e17,
                        fun q => (hJ.2.2.2.2.2.2.2.2.2.2.2.2.2.2.2.2.2.2.2.1) (q.resolve_left (by decide)),
                        fun _ => by first | exact rfl | exact e19,
                        fun _ => rfl,
                        fun q => (hJ.2.2.2.2.2.2.2.2.2.2.2.2.2.2.2.2.2.2.2.2.2.2.1) (q.resolve_left (by decide)),
                        fun q => (hJ.2.2.2.2.2.2.2.2.2.2.2.2.2.2.2.2.2.2.2.2.2.2.2) (q.resolve_left (by decide))⟩
                    refine StepsOk.consT (i := 21) 8 73 true rfl rfl (by kernel_rfl) (fun L x G w1 hp hJ => hJ.2.2.2.2.2.2.2.2.2.1 (hp ⟨8, .guard⟩ (by simp) rfl)) (fun L x G w1 K Q hn hp hJ hK => ?_) ?_
                    · skip
                      have p11 : L 11 := hp ⟨11, .data⟩ (by simp) rfl
                      have e11 := (hJ.2.2.2.2.2.2.2.2.2.2.2.2.1) p11
                      have p20 : L 20 := hp ⟨20, .data⟩ (by simp) rfl
                      have e20 := (hJ.2.2.2.2.2.2.2.2.2.2.2.2.2.2.2.2.2.2.2.2.2.1) p20
                      simp only [putAll, Act.put, List.setIfInBounds_toArray, List.set_cons_zero, List.set_cons_succ]
                      go_simp
                      refine hK _ G _ (by kernel_rfl) ?_
                      exact ⟨(hJ.1),
                        fun q => (hJ.2.1) (q.resolve_left (by decide)),
                        fun q => (hJ.2.2.1) (q.resolve_left (by decide)),
                        fun q => (hJ.2.2.2.1) (q.resolve_left (by decide)),
                        fun q => (hJ.2.2.2.2.1) (q.resolve_left (by decide)),
                        fun q => (hJ.2.2.2.2.2.1) (q.resolve_left (by decide)),
                        fun q => (hJ.2.2.2.2.2.2.1) (q.resolve_left (by decide)),
                        fun q => (hJ.2.2.2.2.2.2.2.1) (q.resolve_left (by decide)),
                        fun q => (hJ.2.2.2.2.2.2.2.2.1) (q.resolve_left (by decide)),
                        fun q => (hJ.2.2.2.2.2.2.2.2.2.1) (q.resolve_left (by decide)),
                        fun q => (hJ.2.2.2.2.2.2.2.2.2.2.1) (q.resolve_left (by decide)),
                        fun q => (hJ.2.2.2.2.2.2.2.2.2.2.2.1) (q.resolve_left (by decide)),
                        fun _ => by first | exact rfl | exact e11,
                        fun q => (hJ.2.2.2.2.2.2.2.2.2.2.2.2.2.1) (q.resolve_left (by decide)),
                        fun q => (hJ.2.2.2.2.2.2.2.2.2.2.2.2.2.2.1) (q.resolve_left (by decide)),
                        fun q => (hJ.2.2.2.2.2.2.2.2.2.2.2.2.2.2.2.1) (q.resolve_left (by decide)),
                        fun q => (hJ.2.2.2.2.2.2.2.2.2.2.2.2.2.2.2.2.1) (q.resolve_left (by decide)),
                        fun q => (hJ.2.2.2.2.2.2.2.2.2.2.2.2.2.2.2.2.2.1) (q.resolve_left (by decide)),
                        fun q => (hJ.2.2.2.2.2.2.2.2.2.2.2.2.2.2.2.2.2.2.1) (q.resolve_left (by decide)),
                        fun q => (hJ.2.2.2.2.2.2.2.2.2.2.2.2.2.2.2.2.2.2.2.1) (q.resolve_left (by decide)),
                        fun q => (hJ.2.2.2.2.2.2.2.2.2.2.2.2.2.2.2.2.2.2.2.2.1) (q.resolve_left (by decide)),
                        fun _ => by first | exact rfl | exact e20,
                        fun _ => rfl,
                        fun q => (hJ.2.2.2.2.2.2.2.2.2.2.2.2.2.2.2.2.2.2.2.2.2.2.2) (q.resolve_left (by decide))⟩
                    refine StepsOk.cons (i := 22) rfl (fun L x G w1 K Q hn hp hJ hK => ?_) ?_
                    · skip
                      have p8 : L 8 := hp ⟨8, .data⟩ (by simp) rfl
                      have e8 := (hJ.2.2.2.2.2.2.2.2.2.1) p8
                      have p21 : L 21 := hp ⟨21, .data⟩ (by simp) rfl
                      have e21 := (hJ.2.2.2.2.2.2.2.2.2.2.2.2.2.2.2.2.2.2.2.2.2.2.1) p21
                      simp only [putAll, Act.put, List.setIfInBounds_toArray, List.set_cons_zero, List.set_cons_succ]
                      go_simp
                      refine hK _ G _ (by kernel_rfl) ?_
                      exact ⟨(hJ.1),
                        fun q => (hJ.2.1) (q.resolve_left (by decide)),
                        fun q => (hJ.2.2.1) (q.resolve_left (by decide)),
                        fun q => (hJ.2.2.2.1) (q.resolve_left (by decide)),
                        fun q => (hJ.2.2.2.2.1) (q.resolve_left (by decide)),
                        fun q => (hJ.2.2.2.2.2.1) (q.resolve_left (by decide)),
                        fun q => (hJ.2.2.2.2.2.2.1) (q.resolve_left (by decide)),
                        fun q => (hJ.2.2.2.2.2.2.2.1) (q.resolve_left (by decide)),
                        fun q => (hJ.2.2.2.2.2.2.2.2.1) (q.resolve_left (by decide)),
                        fun _ => by first | exact rfl | exact e8,
                        fun q => (hJ.2.2.2.2.2.2.2.2.2.2.1) (q.resolve_left (by decide)),
                        fun q => (hJ.2.2.2.2.2.2.2.2.2.2.2.1) (q.resolve_left (by decide)),
                        fun q => (hJ.2.2.2.2.2.2.2.2.2.2.2.2.1) (q.resolve_left (by decide)),
                        fun q => (hJ.2.2.2.2.2.2.2.2.2.2.2.2.2.1) (q.resolve_left (by decide)),
                        fun q => (hJ.2.2.2.2.2.2.2.2.2.2.2.2.2.2.1) (q.resolve_left (by decide)),
                        fun q => (hJ.2.2.2.2.2.2.2.2.2.2.2.2.2.2.2.1) (q.resolve_left (by decide)),
                        fun q => (hJ.2.2.2.2.2.2.2.2.2.2.2.2.2.2.2.2.1) (q.resolve_left (by decide)),
                        fun q => (hJ.2.2.2.2.2.2.2.2.2.2.2.2.2.2.2.2.2.1) (q.resolve_left (by decide)),
                        fun q => (hJ.2.2.2.2.2.2.2.2.2.2.2.2.2.2.2.2.2.2.1) (q.resolve_left (by decide)),
                        fun q => (hJ.2.2.2.2.2.2.2.2.2.2.2.2.2.2.2.2.2.2.2.1) (q.resolve_left (by decide)),
                        fun q => (hJ.2.2.2.2.2.2.2.2.2.2.2.2.2.2.2.2.2.2.2.2.1) (q.resolve_left (by decide)),
                        fun q => (hJ.2.2.2.2.2.2.2.2.2.2.2.2.2.2.2.2.2.2.2.2.2.1) (q.resolve_left (by decide)),
                        fun _ => by first | exact rfl | exact e21,
                        fun _ => rfl⟩
                    exact StepsOk.nil
                  case fin =>
                    intro L x G w51 hall hJ
                    have u0 := hJ.2.1 (hall 0 (by decide))
                    have u1 := hJ.2.2.1 (hall 1 (by decide))
                    have u2 := hJ.2.2.2.1 (hall 2 (by decide))
                    have u3 := hJ.2.2.2.2.1 (hall 3 (by decide))
                    have u4 := hJ.2.2.2.2.2.1 (hall 4 (by decide))
                    have u5 := hJ.2.2.2.2.2.2.1 (hall 5 (by decide))
                    have u6 := hJ.2.2.2.2.2.2.2.1 (hall 6 (by decide))
                    have u7 := hJ.2.2.2.2.2.2.2.2.1 (hall 7 (by decide))
                    have u8 := hJ.2.2.2.2.2.2.2.2.2.1 (hall 8 (by decide))
                    have u9 := hJ.2.2.2.2.2.2.2.2.2.2.1 (hall 9 (by decide))
                    have u10 := hJ.2.2.2.2.2.2.2.2.2.2.2.1 (hall 10 (by decide))
                    have u11 := hJ.2.2.2.2.2.2.2.2.2.2.2.2.1 (hall 11 (by decide))
                    have u12 := hJ.2.2.2.2.2.2.2.2.2.2.2.2.2.1 (hall 12 (by decide))
                    have u13 := hJ.2.2.2.2.2.2.2.2.2.2.2.2.2.2.1 (hall 13 (by decide))
                    have u14 := hJ.2.2.2.2.2.2.2.2.2.2.2.2.2.2.2.1 (hall 14 (by decide))
                    have u15 := hJ.2.2.2.2.2.2.2.2.2.2.2.2.2.2.2.2.1 (hall 15 (by decide))
                    have u16 := hJ.2.2.2.2.2.2.2.2.2.2.2.2.2.2.2.2.2.1 (hall 16 (by decide))
                    have u17 := hJ.2.2.2.2.2.2.2.2.2.2.2.2.2.2.2.2.2.2.1 (hall 17 (by decide))
                    have u18 := hJ.2.2.2.2.2.2.2.2.2.2.2.2.2.2.2.2.2.2.2.1 (hall 18 (by decide))
                    have u19 := hJ.2.2.2.2.2.2.2.2.2.2.2.2.2.2.2.2.2.2.2.2.1 (hall 19 (by decide))
                    have u20 := hJ.2.2.2.2.2.2.2.2.2.2.2.2.2.2.2.2.2.2.2.2.2.1 (hall 20 (by decide))
                    have u21 := hJ.2.2.2.2.2.2.2.2.2.2.2.2.2.2.2.2.2.2.2.2.2.2.1 (hall 21 (by decide))
                    have u22 := hJ.2.2.2.2.2.2.2.2.2.2.2.2.2.2.2.2.2.2.2.2.2.2.2 (hall 22 (by decide))
                    have hr_ := hJ.1
                    replace X := X.keep hr_
                    replace own := own.keep hr_
                    replace lg := lg.keep hr_
                    replace hB := bt hB hr_
                    have sz51 := hr_.size
                    clear hr_
                    simp only [putAll, Act.put, List.setIfInBounds_toArray, List.set_cons_zero, List.set_cons_succ]
                    simp only [u0, u1, u2, u3, u4, u5, u6, u7, u8, u9, u10, u11, u12, u13, u14, u15, u16, u17, u18, u19, u20, u21, u22]
                    clear hall hJ u0 u1 u2 u3 u4 u5 u6 u7 u8 u9 u10 u11 u12 u13 u14 u15 u16 u17 u18 u19 u20 u21 u22
                    cases bq
                    · have HS2 := Lib.hid (HS.out.2 rfl)
                      go_wp2_with fail
                      go_roundw
                      case rel => exact ⟨v + 1, _, by omega, by go_num, rfl, HS2, own, lg, hB⟩
                      case measure => simp [intOf]; omega
                    · have HS2 := Lib.hid (HS.out.1 rfl)
                      go_wp2_with fail
                      go_roundw
                      case rel => exact ⟨v + 1, _, by omega, by go_num, rfl, HS2, own, lg, hB⟩
                      case measure => simp [intOf]; omega
                · have HS := Lib.hid (Ce.Sel.skip hS.out (.inl hF))
                  obtain ⟨y0, y1, y2, y3⟩ := own.lab hlt
                  rw [hF] at y2
                  clear hF
                  have X := Blk.new wr 83 #[.int .i64 (C v), .int .i64 (D v), .bool true]
                  replace own := own.alloc (.cells #[.int .i64 (C v), .int .i64 (D v), .bool true] 83)
                  replace lg := lg.alloc (.cells #[.int .i64 (C v), .int .i64 (D v), .bool true] 83)
                  replace hB := bal hB (.cells #[.int .i64 (C v), .int .i64 (D v), .bool true] 83)
                  have lb := own.lt1
                  obtain ⟨x0, x1, x2, x3, x4⟩ := X.open3
                  go_wp2_with fail
                  go_quiet (fail)
                  go_wp2_with fail
                  go_roundw
                  case rel => exact ⟨v + 1, _, by omega, by go_num, rfl, HS, own.drewN _, lg.drewN _, bdnl hB _⟩
                  case measure => simp [intOf]; omega
              · obtain rfl : v = k := by omega
                rcases hS.out with ⟨h1, h2⟩ | ⟨t, h1, ht, hF, hC, hmin⟩
                · subst h1
                  have HD := Lib.hid (hDk.out.done h2 fun i hi => by have := (O.e i hi).f0; have := (O.e i hi).f1; unfold Ce.fr; omega)
                  go_wp2_with fail
                  go_returns
                  exact ⟨C, D, F, HD, by rw [HBW.out]; rfl, by rw [HBW.out]; exact own.rd, hB⟩
                subst h1
                have hx0 := Lib.hid (hDk.out.take ht hF hC hmin)
                have hkq := Lib.hid (hDk.out.k_lt ht hF)
                obtain ⟨y0, y1, y2, y3⟩ := own.lab ht
                have l1 := own.lt1
                have i1 : (0 : Int) ≤ (t : Int) := by omega
                have i2 : (t : Int) < (v : Int) := by omega
                have own2 := own.setF ht
                have lg2 := lg.far (p := ⟨b + 1, t * 3 + 2, none⟩) (by simp) (.bool true)
                have hB2 := bst hB (p := ⟨b + 1, t * 3 + 2, none⟩) (by have := HBW.out; simp; omega) (.bool true)
                have hl2 := lg2.cell ht
                have lb2 := lg2.row.lt1
                have hs0 := hS
                clear hS hDk hF hmin
                go_wp2_with fail
                clear own lg hB y0 y1 y2 y3 hl2
                go_loopw [102] (fun i wr => ∃ (C D : Nat → Int) (p : Nat), p ≤ ln t ∧ i = .int .i64 p ∧ Hid (Ce.Dx v j E s C D (Ce.upb F t) (q + 1) t (fun e => ∃ x, x < p ∧ ix t x = e)) ∧ Own wr (b + 1) 83 3 (some ⟨b + 1, 0, none⟩) v v (lv C D (Ce.upb F t)) ∧ Lg wr b v E ln ix Ar cr ∧ Below w.heap.size w wr) (fun i _ => ln t - (intOf i).toNat)
                case atStart => exact ⟨C, D, 0, Nat.zero_le _, rfl, Lib.hid (hx0.out.congr fun e z => by obtain ⟨x, hx, _⟩ := z; omega), own2, lg2, hB2⟩
                case round =>
                  clear own2 lg2 hB2 hx0 hs0 hC
                  obtain ⟨C, D, p, hp, rfl, hX, own, lg, hB⟩ := hrel
                  by_cases hlt : p < ln t
                  · obtain ⟨hem, hfe⟩ := hLv.out.s t p hlt
                    obtain ⟨e, he_⟩ : ∃ e, ix t p = e := ⟨_, rfl⟩
                    rw [he_] at hem hfe
                    have he := O.e e hem
                    obtain ⟨u, eu⟩ : ∃ x : Nat, E e 1 = (x : Int) := ⟨(E e 1).toNat, by have := he.t0; omega⟩
                    have huk : u < v := by have := he.t1; omega
                    have htu : Ce.to E e = u := by unfold Ce.to; omega
                    have e0 : E e 0 = (t : Int) := by have := he.f0; unfold Ce.fr at hfe; omega
                    have z0 := he.c0
                    have z1 := he.c1
                    have hn5 : v ≤ 512 := hn2
                    have ba := hX.out.ca ht
                    have bc := hX.out.cb hn5 ht
                    have bu := hX.out.cb hn5 huk
                    obtain ⟨ba1, ba2, ba3, ba4⟩ := ba
                    obtain ⟨bc1, bc2, bc3⟩ := bc
                    have bc4 := bc3 ba1
                    clear bc3
                    obtain ⟨gr, eA, hgr1, hgr2, v0, v1, v2⟩ := (lg.el t ht).rd3 hlt
                    simp only [he_, e0, eu] at v0 v1 v2
                    have HX := Lib.hid (show ∀ P : Nat → Prop, (∀ y, (∃ x, x < p + 1 ∧ ix t x = y) → P y ∨ y = e) → True from fun _ _ => trivial)
                    have HQ : Hid (∀ y, (∃ x, x < p + 1 ∧ ix t x = y) → (∃ x, x < p ∧ ix t x = y) ∨ y = e) := Lib.hid fun y z => by
                      obtain ⟨x, hx, hy⟩ := z
                      by_cases w : x = p
                      · right; rw [← hy, w]; exact he_
                      · exact .inl ⟨x, by omega, hy⟩
                    have TU := Lib.hid htu
                    have FE := Lib.hid hfe
                    have HA := Lib.hid eA
                    have E0 := Lib.hid e0
                    have E1 := Lib.hid eu
                    rw [HA.out]
                    clear he he_ eA HX htu hfe e0 eu
                    obtain ⟨y0, y1, y2, y3⟩ := own.lab ht
                    obtain ⟨u0, u1, u2, u3⟩ := own.lab huk
                    have i3 : (0 : Int) ≤ (u : Int) := by omega
                    have i4 : (u : Int) < (v : Int) := by omega
                    have l2 := own.lt1
                    have X := Blk.new wr 75 #[.int .i64 t, .int .i64 u, .int .i64 (E e 2)]
                    replace own := own.alloc (.cells #[.int .i64 t, .int .i64 u, .int .i64 (E e 2)] 75)
                    replace lg := lg.alloc (.cells #[.int .i64 t, .int .i64 u, .int .i64 (E e 2)] 75)
                    replace hB := bal hB (.cells #[.int .i64 t, .int .i64 u, .int .i64 (E e 2)] 75)
                    obtain ⟨x0, x1, x2, x3, x4⟩ := X.open3
                    have hpl : p < 8192 := by have := hLv.out.b t; omega
                    cases hu : Ce.upb F t u
                    · rw [hu] at u2
                      obtain ⟨bq, hbt⟩ : ∃ bq, Ce.bet (C u) (D u) (C t + E e 2) (D t + 1) = bq := ⟨_, rfl⟩
                      have HBT := Lib.hid hbt
                      have HU := Lib.hid hu
                      clear hbt hu
                      go_wp2_with fail
                      go_quiet (fail)
                      go_wp2_with fail
                      refine (better_c _ _ _ _ _ _).mono ?_
                      rw [HBT.out]
                      rintro e_ w5 ⟨rfl, hb⟩
                      replace own := (own.drewN nq).keep hb
                      replace lg := (lg.drewN nq).keep hb
                      replace hB := bt (bdnl hB nq) hb
                      clear hb y0 y1 y2 y3 u0 u1 u2 u3 x0 x1 x2 x3 x4 X v0 v1 v2
                      cases bq
                      · have hno := Ce.bet_no.1 HBT.out
                        have HP := Lib.hid ((hX.out.stay FE.out (by rw [TU.out]; omega) (by rw [TU.out]; unfold Ce.le2; unfold Ce.lt2 at hno; omega)).congr HQ.out)
                        clear hno
                        go_wp2_with fail
                        go_roundw
                        case rel => exact ⟨C, D, p + 1, by omega, by go_num, HP, own, lg, hB⟩
                        case measure => simp [intOf]; omega
                      · have hyes := Ce.bet_iff.1 HBT.out
                        have hP := (hX.out.lower ht hem z0 z1 FE.out (by rw [TU.out]; exact huk) (by rw [TU.out]; exact HU.out) (by rw [TU.out]; exact hyes)).congr HQ.out
                        rw [TU.out] at hP
                        have HP := Lib.hid hP
                        clear hyes hP
                        obtain ⟨u0, u1, u2, u3⟩ := own.lab huk
                        have l3 := own.lt1
                        have own2 := Lib.hid ((own.setC huk (C t + E e 2)).setD huk (D t + 1))
                        have lg2 := (lg.far (p := ⟨b + 1, u * 3, none⟩) (by simp) (.int .i64 (C t + E e 2))).far (p := ⟨b + 1, u * 3 + 1, none⟩) (by simp) (.int .i64 (D t + 1))
                        have hB2 := bst (bst hB (p := ⟨b + 1, u * 3, none⟩) (by have := HBW.out; simp; omega) (.int .i64 (C t + E e 2))) (p := ⟨b + 1, u * 3 + 1, none⟩) (by have := HBW.out; simp; omega) (.int .i64 (D t + 1))
                        have HLG := Lib.hid lg2
                        have HB2 := Lib.hid hB2
                        clear lg2 hB2
                        go_wp2_with fail
                        go_roundw
                        case rel => exact ⟨Ce.up C u (C t + E e 2), Ce.up D u (D t + 1), p + 1, by omega, by go_num, HP, own2.out, HLG.out, HB2.out⟩
                        case measure => simp [intOf]; omega
                    · rw [hu] at u2
                      have HP := Lib.hid ((hX.out.past z0 FE.out (by rw [TU.out]; exact huk) (by rw [TU.out]; exact hu)).congr HQ.out)
                      clear hu
                      go_wp2_with fail
                      go_quiet (fail)
                      go_wp2_with fail
                      go_roundw
                      case rel => exact ⟨C, D, p + 1, by omega, by go_num, HP, own.drewN _, lg.drewN _, bdnl hB _⟩
                      case measure => simp [intOf]; omega
                  · obtain rfl : p = ln t := by omega
                    have HDK := Lib.hid (hX.out.all fun i hi hfi => by
                      obtain ⟨x, hx, hy⟩ := hLv.out.c i hi
                      rw [hfi] at hx hy
                      exact ⟨x, hx, hy⟩)
                    clear hX
                    go_wp2_with fail
                    go_roundg (v - (q + 1))
                    case measure => have := hkq.out; omega
                    case rel => exact ⟨C, D, Ce.upb F t, q + 1, Nat.le_refl _, HDK, own, lg, hB⟩
end Go.Proofs.Ytoeklllahpegfaa
