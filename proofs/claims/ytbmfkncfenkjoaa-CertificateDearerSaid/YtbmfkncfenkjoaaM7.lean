/-
  The walk of CertificateDearer.
-/
import Derived.Test.YtbmfkncfenkjoaaM7p
import Derived.Test.YtbmfkncfenkjoaaM5
namespace Go.Proofs.Ytbmfkncfenkjoaa
set_option linter.unusedVariables false
set_option linter.unusedSimpArgs false
open Go.RowKit
attribute [local irreducible] World.setCell World.cell?

set_option maxRecDepth 100000 in
set_option maxHeartbeats 4000000 in
theorem law_dearer (A : Option Addr) (n : Int) (m c : Nat) (E : Ce.Tab) (w : World) (T : Rd w 3 A m c (iv E)) (n1 : -9223372036854775808 ≤ n) (n2 : n ≤ 9223372036854775807) (a b : Int) (ha : -9223372036854775808 ≤ a ∧ a ≤ 9223372036854775807) (hb_' : -9223372036854775808 ≤ b ∧ b ≤ 9223372036854775807) (B : Option Addr) (q d : Nat) (M : Nat → Int) (U : Rd w 1 B q d (uv M)) (hM : ∀ i, i < q → 0 ≤ M i ∧ M i ≤ 4294967295) : Calls Try.prog 10 #[.agg #[.int .i64 n, .slice A m c], .agg #[.int .i64 a, .int .i64 b], .slice B q d] w fun e w' => e = .returned (.bool true) ∧ Below w.heap.size w w' := by
  have r1 := T.le
  have r2 := T.mx
  have r3 := U.le
  have r4 := U.mx
  by_cases h : Ce.en n m E a b = 0
  rotate_left
  · have h1 : (Ce.en n m E a b != 0) = true := by simpa using h
    have H := Lib.hid h
    clear h
    go_enter Try.func10, Try.ntmps10
    try simp only [List.append_eq, List.cons_append, List.nil_append]
    have Gb := Blk.new w 24 #[.int .i64 (n), .slice A m c]
    have hB := ba w (.cells #[.int .i64 (n), .slice A m c] 24)
    have Xb := Blk.new1 w (.cells #[.int .i64 (n), .slice A m c] 24) 26 #[.int .i64 (a), .int .i64 (b)]
    replace Gb := Gb.alloc (.cells #[.int .i64 (a), .int .i64 (b)] 26)
    replace hB := bal hB (.cells #[.int .i64 (a), .int .i64 (b)] 26)
    go_wp2_with fail
    refine (awake_c _).mono ?_
    rintro e w1 ⟨rfl, hb⟩
    replace Gb := Gb.keep hb
    replace Xb := Xb.keep hb
    replace hB := bt hB hb
    clear hb
    obtain ⟨c00, c01, c02, c03⟩ := Gb.open2
    obtain ⟨c10, c11, c12, c13⟩ := Xb.open2
    go_wp2_with fail
    refine (solve_no _ _ _ _ _ _ (T.keep hB) n1 n2 _ _ H.out).mono ?_
    rintro e w2 ⟨rfl, hb⟩
    clear c00 c01 c02 c03 c10 c11 c12 c13
    replace Gb := Gb.keep hb
    replace Xb := Xb.keep hb
    replace hB := bt hB hb
    clear hb
    go_wp2_with fail
    go_returns
    exact ⟨rfl, hB⟩
  have hN := Ce.en_ok.1 h
  clear h
  obtain ⟨N, eN⟩ : ∃ N : Nat, n = (N : Int) := ⟨n.toNat, by have := hN.ok.n1; omega⟩
  obtain ⟨s, es⟩ : ∃ s : Nat, a = (s : Int) := ⟨a.toNat, by have := hN.a0; omega⟩
  obtain ⟨t, et⟩ : ∃ t : Nat, b = (t : Int) := ⟨b.toNat, by have := hN.b0; omega⟩
  subst eN es et
  have O := hN.ok
  have hs : s < N := by have := hN.a1; omega
  have ht : t < N := by have := hN.b1; omega
  have o1 := O.n1
  have o2 := O.n2
  have o3 := O.hm
  obtain ⟨i0, hi, hz0, hz1, hz2⟩ := info_parts infoE
  have HI := Lib.hid hi
  have HZ0 := Lib.hid hz0
  have HZ1 := Lib.hid hz1
  have HZ2 := Lib.hid hz2
  clear hi hz0 hz1 hz2
  go_enter Try.func10, Try.ntmps10
  try simp only [List.append_eq, List.cons_append, List.nil_append]
  have Gb := Blk.new w 24 #[.int .i64 (N), .slice A m c]
  have hB := ba w (.cells #[.int .i64 (N), .slice A m c] 24)
  have Xb := Blk.new1 w (.cells #[.int .i64 (N), .slice A m c] 24) 26 #[.int .i64 (s), .int .i64 (t)]
  replace Gb := Gb.alloc (.cells #[.int .i64 (s), .int .i64 (t)] 26)
  replace hB := bal hB (.cells #[.int .i64 (s), .int .i64 (t)] 26)
  go_wp2_with fail
  refine (awake_c _).mono ?_
  rintro e w1 ⟨rfl, hb⟩
  replace Gb := Gb.keep hb
  replace Xb := Xb.keep hb
  replace hB := bt hB hb
  clear hb
  obtain ⟨c00, c01, c02, c03⟩ := Gb.open2
  obtain ⟨c10, c11, c12, c13⟩ := Xb.open2
  go_wp2_with fail
  refine (solve_c _ N m c E s _ (T.keep hB) O hs t ht).mono ?_
  rintro e w2 ⟨C, D, HL, hb, hres⟩
  clear c00 c01 c02 c03 c10 c11 c12 c13
  replace Gb := Gb.keep hb
  replace Xb := Xb.keep hb
  replace hB := bt hB hb
  clear hb
  rcases hres with ⟨hC, rfl⟩ | ⟨hC, A1, k1, A2, k2, rfl, R, P⟩
  · go_wp2_with fail
    go_returns
    exact ⟨rfl, hB⟩
  have hMn : ∀ i, i < q → 0 ≤ M i := fun i hi => (hM i hi).1
  clear R
  go_wp2_with fail
  refine wp_region_inv (fun L x G wx => Below w2.heap.size w2 wx
        ∧ (L 2 → ¬ L 5 → Own wx w2.heap.size 59 3 (some ⟨G 2, 0, none⟩) 0 0 (iv E))
        ∧ (L 5 → Own wx w2.heap.size 59 3 (oa (G 5)) m (G 15) (iv E))
        ∧ (L 7 → w2.heap.size ≤ G 7 ∧ G 7 < wx.heap.size)
        ∧ (L 2 → G 2 < wx.heap.size)
        ∧ (L 7 → ¬ L 8 → Blk wx (G 7) 24 #[.int .i64 0, .slice none 0 0])
        ∧ (L 8 → Blk wx (G 7) 24 #[.int .i64 N, .slice (oa (G 5)) m (G 15)])
        ∧ (L 2 → L 7 → G 2 ≠ G 7)
        ∧ (L 5 → L 7 → ob (oa (G 5)) ≠ some (G 7))
        ∧ (L 8 → L 7 ∧ L 6)
        ∧ (L 5 → L 2)
        ∧ (L 6 → L 5)
        ∧ (L 0 → x 36 = .pointer (some ⟨w.heap.size, 0, none⟩))
        ∧ (L 1 → x 37 = .int .i64 (N : Int))
        ∧ (L 2 → x 38 = .slice (some ⟨G 2, 0, none⟩) 0 0)
        ∧ (L 3 → x 39 = .pointer (some ⟨w.heap.size, 1, none⟩))
        ∧ (L 4 → x 40 = .slice A m c)
        ∧ (L 5 → x 41 = .slice (oa (G 5)) m (G 15))
        ∧ (L 6 → x 42 = .agg #[.int .i64 N, .slice (oa (G 5)) m (G 15)])
        ∧ (L 7 → x 10 = .pointer (some ⟨G 7, 0, none⟩))) [36, 37, 38, 39, 40, 41, 42, 10] 9 (by kernel_rfl) (by kernel_rfl) (by kernel_rfl) ?h0 ?st ?fin
  case h0 => exact ⟨bdr (Below.refl _ _), fun q => q.elim, fun q => q.elim, fun q => q.elim, fun q => q.elim, fun q => q.elim, fun q => q.elim, fun q => q.elim, fun q => q.elim, fun q => q.elim, fun q => q.elim, fun q => q.elim, fun q => q.elim, fun q => q.elim, fun q => q.elim, fun q => q.elim, fun q => q.elim, fun q => q.elim, fun q => q.elim, fun q => q.elim⟩
  case st =>
    refine StepsOk.cons (i := 0) rfl (fun L x G w1 K Q hn hp hJ hK => ?_) ?_
    · skip
      simp only [putAll, Act.put, List.setIfInBounds_toArray, List.set_cons_zero, List.set_cons_succ]
      go_simp
      refine hK _ G _ (by kernel_rfl) ?_
      exact ⟨(hJ.1),
        fun q n => (hJ.2.1) (q.resolve_left (by decide)) (fun m => n (.inr m)),
        fun q => (hJ.2.2.1) (q.resolve_left (by decide)),
        fun q => (hJ.2.2.2.1) (q.resolve_left (by decide)),
        fun q => (hJ.2.2.2.2.1) (q.resolve_left (by decide)),
        fun q n => (hJ.2.2.2.2.2.1) (q.resolve_left (by decide)) (fun m => n (.inr m)),
        fun q => (hJ.2.2.2.2.2.2.1) (q.resolve_left (by decide)),
        fun q r => (hJ.2.2.2.2.2.2.2.1) (q.resolve_left (by decide)) (r.resolve_left (by decide)),
        fun q r => (hJ.2.2.2.2.2.2.2.2.1) (q.resolve_left (by decide)) (r.resolve_left (by decide)),
        fun q => ⟨.inr ((hJ.2.2.2.2.2.2.2.2.2.1) (q.resolve_left (by decide))).1, .inr ((hJ.2.2.2.2.2.2.2.2.2.1) (q.resolve_left (by decide))).2⟩,
        fun q => .inr ((hJ.2.2.2.2.2.2.2.2.2.2.1) (q.resolve_left (by decide))),
        fun q => .inr ((hJ.2.2.2.2.2.2.2.2.2.2.2.1) (q.resolve_left (by decide))),
        fun _ => rfl,
        fun q => (hJ.2.2.2.2.2.2.2.2.2.2.2.2.2.1) (q.resolve_left (by decide)),
        fun q => (hJ.2.2.2.2.2.2.2.2.2.2.2.2.2.2.1) (q.resolve_left (by decide)),
        fun q => (hJ.2.2.2.2.2.2.2.2.2.2.2.2.2.2.2.1) (q.resolve_left (by decide)),
        fun q => (hJ.2.2.2.2.2.2.2.2.2.2.2.2.2.2.2.2.1) (q.resolve_left (by decide)),
        fun q => (hJ.2.2.2.2.2.2.2.2.2.2.2.2.2.2.2.2.2.1) (q.resolve_left (by decide)),
        fun q => (hJ.2.2.2.2.2.2.2.2.2.2.2.2.2.2.2.2.2.2.1) (q.resolve_left (by decide)),
        fun q => (hJ.2.2.2.2.2.2.2.2.2.2.2.2.2.2.2.2.2.2.2) (q.resolve_left (by decide))⟩
    refine StepsOk.cons (i := 1) rfl (fun L x G w1 K Q hn hp hJ hK => ?_) ?_
    · skip
      have p0 : L 0 := hp ⟨0, .data⟩ (by simp) rfl
      have e0 := (hJ.2.2.2.2.2.2.2.2.2.2.2.2.1) p0
      have hc := (Gb.keep (hJ.1)).open2
      have c0_ := hc.1
      have c1_ := hc.2.1
      clear hc
      simp only [putAll, Act.put, List.setIfInBounds_toArray, List.set_cons_zero, List.set_cons_succ]
      go_simp
      refine hK _ G _ (by kernel_rfl) ?_
      exact ⟨(hJ.1),
        fun q n => (hJ.2.1) (q.resolve_left (by decide)) (fun m => n (.inr m)),
        fun q => (hJ.2.2.1) (q.resolve_left (by decide)),
        fun q => (hJ.2.2.2.1) (q.resolve_left (by decide)),
        fun q => (hJ.2.2.2.2.1) (q.resolve_left (by decide)),
        fun q n => (hJ.2.2.2.2.2.1) (q.resolve_left (by decide)) (fun m => n (.inr m)),
        fun q => (hJ.2.2.2.2.2.2.1) (q.resolve_left (by decide)),
        fun q r => (hJ.2.2.2.2.2.2.2.1) (q.resolve_left (by decide)) (r.resolve_left (by decide)),
        fun q r => (hJ.2.2.2.2.2.2.2.2.1) (q.resolve_left (by decide)) (r.resolve_left (by decide)),
        fun q => ⟨.inr ((hJ.2.2.2.2.2.2.2.2.2.1) (q.resolve_left (by decide))).1, .inr ((hJ.2.2.2.2.2.2.2.2.2.1) (q.resolve_left (by decide))).2⟩,
        fun q => .inr ((hJ.2.2.2.2.2.2.2.2.2.2.1) (q.resolve_left (by decide))),
        fun q => .inr ((hJ.2.2.2.2.2.2.2.2.2.2.2.1) (q.resolve_left (by decide))),
        fun _ => by first | exact rfl | exact e0,
        fun _ => rfl,
        fun q => (hJ.2.2.2.2.2.2.2.2.2.2.2.2.2.2.1) (q.resolve_left (by decide)),
        fun q => (hJ.2.2.2.2.2.2.2.2.2.2.2.2.2.2.2.1) (q.resolve_left (by decide)),
        fun q => (hJ.2.2.2.2.2.2.2.2.2.2.2.2.2.2.2.2.1) (q.resolve_left (by decide)),
        fun q => (hJ.2.2.2.2.2.2.2.2.2.2.2.2.2.2.2.2.2.1) (q.resolve_left (by decide)),
        fun q => (hJ.2.2.2.2.2.2.2.2.2.2.2.2.2.2.2.2.2.2.1) (q.resolve_left (by decide)),
        fun q => (hJ.2.2.2.2.2.2.2.2.2.2.2.2.2.2.2.2.2.2.2) (q.resolve_left (by decide))⟩
    refine StepsOk.cons (i := 2) rfl (fun L x G w1 K Q hn hp hJ hK => ?_) ?_
    · skip
      simp only [putAll, Act.put, List.setIfInBounds_toArray, List.set_cons_zero, List.set_cons_succ]
      go_simp
      refine hK _ (fun t => if t = 2 then w1.heap.size else G t) _ (by kernel_rfl) ?_
      exact ⟨bal (hJ.1) _,
        fun _ _ => own_empty_E _ _ ((hJ.1)).size,
        fun q => ((hJ.2.2.1) (q.resolve_left (by decide))).alloc _,
        fun q => ⟨((hJ.2.2.2.1) (q.resolve_left (by decide))).1, by have := ((hJ.2.2.2.1) (q.resolve_left (by decide))).2; simp; omega⟩,
        fun _ => by simp,
        fun q n => ((hJ.2.2.2.2.2.1) (q.resolve_left (by decide)) (fun m => n (.inr m))).alloc _,
        fun q => absurd ((hJ.2.2.2.2.2.2.2.2.2.2.1) ((hJ.2.2.2.2.2.2.2.2.2.2.2.1) ((hJ.2.2.2.2.2.2.2.2.2.1) (q.resolve_left (by decide))).2)) hn,
        fun _ r => Nat.ne_of_gt ((hJ.2.2.2.1) (r.resolve_left (by decide))).2,
        fun q => absurd ((hJ.2.2.2.2.2.2.2.2.2.2.1) (q.resolve_left (by decide))) hn,
        fun q => ⟨.inr ((hJ.2.2.2.2.2.2.2.2.2.1) (q.resolve_left (by decide))).1, .inr ((hJ.2.2.2.2.2.2.2.2.2.1) (q.resolve_left (by decide))).2⟩,
        fun q => .inr ((hJ.2.2.2.2.2.2.2.2.2.2.1) (q.resolve_left (by decide))),
        fun q => .inr ((hJ.2.2.2.2.2.2.2.2.2.2.2.1) (q.resolve_left (by decide))),
        fun q => (hJ.2.2.2.2.2.2.2.2.2.2.2.2.1) (q.resolve_left (by decide)),
        fun q => (hJ.2.2.2.2.2.2.2.2.2.2.2.2.2.1) (q.resolve_left (by decide)),
        fun _ => rfl,
        fun q => (hJ.2.2.2.2.2.2.2.2.2.2.2.2.2.2.2.1) (q.resolve_left (by decide)),
        fun q => (hJ.2.2.2.2.2.2.2.2.2.2.2.2.2.2.2.2.1) (q.resolve_left (by decide)),
        fun q => absurd ((hJ.2.2.2.2.2.2.2.2.2.2.1) (q.resolve_left (by decide))) hn,
        fun q => absurd ((hJ.2.2.2.2.2.2.2.2.2.2.1) ((hJ.2.2.2.2.2.2.2.2.2.2.2.1) (q.resolve_left (by decide)))) hn,
        fun q => (hJ.2.2.2.2.2.2.2.2.2.2.2.2.2.2.2.2.2.2.2) (q.resolve_left (by decide))⟩
    refine StepsOk.cons (i := 3) rfl (fun L x G w1 K Q hn hp hJ hK => ?_) ?_
    · skip
      simp only [putAll, Act.put, List.setIfInBounds_toArray, List.set_cons_zero, List.set_cons_succ]
      go_simp
      refine hK _ G _ (by kernel_rfl) ?_
      exact ⟨(hJ.1),
        fun q n => (hJ.2.1) (q.resolve_left (by decide)) (fun m => n (.inr m)),
        fun q => (hJ.2.2.1) (q.resolve_left (by decide)),
        fun q => (hJ.2.2.2.1) (q.resolve_left (by decide)),
        fun q => (hJ.2.2.2.2.1) (q.resolve_left (by decide)),
        fun q n => (hJ.2.2.2.2.2.1) (q.resolve_left (by decide)) (fun m => n (.inr m)),
        fun q => (hJ.2.2.2.2.2.2.1) (q.resolve_left (by decide)),
        fun q r => (hJ.2.2.2.2.2.2.2.1) (q.resolve_left (by decide)) (r.resolve_left (by decide)),
        fun q r => (hJ.2.2.2.2.2.2.2.2.1) (q.resolve_left (by decide)) (r.resolve_left (by decide)),
        fun q => ⟨.inr ((hJ.2.2.2.2.2.2.2.2.2.1) (q.resolve_left (by decide))).1, .inr ((hJ.2.2.2.2.2.2.2.2.2.1) (q.resolve_left (by decide))).2⟩,
        fun q => .inr ((hJ.2.2.2.2.2.2.2.2.2.2.1) (q.resolve_left (by decide))),
        fun q => .inr ((hJ.2.2.2.2.2.2.2.2.2.2.2.1) (q.resolve_left (by decide))),
        fun q => (hJ.2.2.2.2.2.2.2.2.2.2.2.2.1) (q.resolve_left (by decide)),
        fun q => (hJ.2.2.2.2.2.2.2.2.2.2.2.2.2.1) (q.resolve_left (by decide)),
        fun q => (hJ.2.2.2.2.2.2.2.2.2.2.2.2.2.2.1) (q.resolve_left (by decide)),
        fun _ => rfl,
        fun q => (hJ.2.2.2.2.2.2.2.2.2.2.2.2.2.2.2.2.1) (q.resolve_left (by decide)),
        fun q => (hJ.2.2.2.2.2.2.2.2.2.2.2.2.2.2.2.2.2.1) (q.resolve_left (by decide)),
        fun q => (hJ.2.2.2.2.2.2.2.2.2.2.2.2.2.2.2.2.2.2.1) (q.resolve_left (by decide)),
        fun q => (hJ.2.2.2.2.2.2.2.2.2.2.2.2.2.2.2.2.2.2.2) (q.resolve_left (by decide))⟩
    refine StepsOk.cons (i := 4) rfl (fun L x G w1 K Q hn hp hJ hK => ?_) ?_
    · skip
      have p3 : L 3 := hp ⟨3, .data⟩ (by simp) rfl
      have e3 := (hJ.2.2.2.2.2.2.2.2.2.2.2.2.2.2.2.1) p3
      have hc := (Gb.keep (hJ.1)).open2
      have c0_ := hc.1
      have c1_ := hc.2.1
      clear hc
      simp only [putAll, Act.put, List.setIfInBounds_toArray, List.set_cons_zero, List.set_cons_succ]
      go_simp
      refine hK _ G _ (by kernel_rfl) ?_
      exact ⟨(hJ.1),
        fun q n => (hJ.2.1) (q.resolve_left (by decide)) (fun m => n (.inr m)),
        fun q => (hJ.2.2.1) (q.resolve_left (by decide)),
        fun q => (hJ.2.2.2.1) (q.resolve_left (by decide)),
        fun q => (hJ.2.2.2.2.1) (q.resolve_left (by decide)),
        fun q n => (hJ.2.2.2.2.2.1) (q.resolve_left (by decide)) (fun m => n (.inr m)),
        fun q => (hJ.2.2.2.2.2.2.1) (q.resolve_left (by decide)),
        fun q r => (hJ.2.2.2.2.2.2.2.1) (q.resolve_left (by decide)) (r.resolve_left (by decide)),
        fun q r => (hJ.2.2.2.2.2.2.2.2.1) (q.resolve_left (by decide)) (r.resolve_left (by decide)),
        fun q => ⟨.inr ((hJ.2.2.2.2.2.2.2.2.2.1) (q.resolve_left (by decide))).1, .inr ((hJ.2.2.2.2.2.2.2.2.2.1) (q.resolve_left (by decide))).2⟩,
        fun q => .inr ((hJ.2.2.2.2.2.2.2.2.2.2.1) (q.resolve_left (by decide))),
        fun q => .inr ((hJ.2.2.2.2.2.2.2.2.2.2.2.1) (q.resolve_left (by decide))),
        fun q => (hJ.2.2.2.2.2.2.2.2.2.2.2.2.1) (q.resolve_left (by decide)),
        fun q => (hJ.2.2.2.2.2.2.2.2.2.2.2.2.2.1) (q.resolve_left (by decide)),
        fun q => (hJ.2.2.2.2.2.2.2.2.2.2.2.2.2.2.1) (q.resolve_left (by decide)),
        fun _ => by first | exact rfl | exact e3,
        fun _ => rfl,
        fun q => (hJ.2.2.2.2.2.2.2.2.2.2.2.2.2.2.2.2.2.1) (q.resolve_left (by decide)),
        fun q => (hJ.2.2.2.2.2.2.2.2.2.2.2.2.2.2.2.2.2.2.1) (q.resolve_left (by decide)),
        fun q => (hJ.2.2.2.2.2.2.2.2.2.2.2.2.2.2.2.2.2.2.2) (q.resolve_left (by decide))⟩
    refine StepsOk.cons (i := 5) rfl (fun L x G w1 K Q hn hp hJ hK => ?_) ?_
    · skip
      have p2 : L 2 := hp ⟨2, .data⟩ (by simp) rfl
      have e2 := (hJ.2.2.2.2.2.2.2.2.2.2.2.2.2.2.1) p2
      have p4 : L 4 := hp ⟨4, .data⟩ (by simp) rfl
      have e4 := (hJ.2.2.2.2.2.2.2.2.2.2.2.2.2.2.2.2.1) p4
      simp only [putAll, Act.put, List.setIfInBounds_toArray, List.set_cons_zero, List.set_cons_succ]
      simp only [e2, e4]
      have own0 := (hJ.2.1) p2 hn
      have src0 := T.keep (bt hB (hJ.1))
      have hBs := ((hJ.1)).size
      refine wp_append_Rd _ _ _ 22 rfl w2.heap.size 59 i0 _ 3 24 Try.underlying22 HI.out HZ0.out HZ1.out HZ2.out rfl (by decide) rfl own0 rfl src0 (one_iv _) (by omega) (by omega) hBs ?_
      intro A9 c9 w2 own9 hgr_ hob
      rw [Nat.zero_add] at own9 ⊢
      refine Exists.elim (oa_form own9) fun u9 hu => ?_
      subst hu
      simp only [Act.put, List.setIfInBounds_toArray, List.set_cons_zero, List.set_cons_succ]
      refine hK _ (fun t => if t = 5 then u9 else if t = 15 then c9 else G t) _ (by kernel_rfl) ?_
      exact ⟨((hJ.1)).trans (below_grown hgr_ (fun g h => own0.base h) hBs),
        fun _ n => absurd (.inl rfl) n,
        fun _ => own9.congr (fun _ _ _ _ => app_0 _ _ _ _),
        fun q => ⟨((hJ.2.2.2.1) (q.resolve_left (by decide))).1, Nat.lt_of_lt_of_le ((hJ.2.2.2.1) (q.resolve_left (by decide))).2 hgr_.size⟩,
        fun q => Nat.lt_of_lt_of_le ((hJ.2.2.2.2.1) (q.resolve_left (by decide))) hgr_.size,
        fun q n => ((hJ.2.2.2.2.2.1) (q.resolve_left (by decide)) (fun m => n (.inr m))).grown hgr_ (fun z => (hJ.2.2.2.2.2.2.2.1) p2 (q.resolve_left (by decide)) (by simpa [ob] using z)),
        fun q => absurd ((hJ.2.2.2.2.2.2.2.2.2.2.2.1) ((hJ.2.2.2.2.2.2.2.2.2.1) (q.resolve_left (by decide))).2) hn,
        fun q r => (hJ.2.2.2.2.2.2.2.1) (q.resolve_left (by decide)) (r.resolve_left (by decide)),
        fun _ r => ap5_ ((hJ.2.2.2.2.2.2.2.1) p2 (r.resolve_left (by decide))) ((hJ.2.2.2.1) (r.resolve_left (by decide))).2 hob,
        fun q => ⟨.inr ((hJ.2.2.2.2.2.2.2.2.2.1) (q.resolve_left (by decide))).1, .inr ((hJ.2.2.2.2.2.2.2.2.2.1) (q.resolve_left (by decide))).2⟩,
        fun _ => .inr p2,
        fun q => .inr ((hJ.2.2.2.2.2.2.2.2.2.2.2.1) (q.resolve_left (by decide))),
        fun q => (hJ.2.2.2.2.2.2.2.2.2.2.2.2.1) (q.resolve_left (by decide)),
        fun q => (hJ.2.2.2.2.2.2.2.2.2.2.2.2.2.1) (q.resolve_left (by decide)),
        fun _ => by first | exact rfl | exact e2,
        fun q => (hJ.2.2.2.2.2.2.2.2.2.2.2.2.2.2.2.1) (q.resolve_left (by decide)),
        fun _ => by first | exact rfl | exact e4,
        fun _ => rfl,
        fun q => absurd ((hJ.2.2.2.2.2.2.2.2.2.2.2.1) (q.resolve_left (by decide))) hn,
        fun q => (hJ.2.2.2.2.2.2.2.2.2.2.2.2.2.2.2.2.2.2.2) (q.resolve_left (by decide))⟩
    refine StepsOk.cons (i := 6) rfl (fun L x G w1 K Q hn hp hJ hK => ?_) ?_
    · skip
      have p1 : L 1 := hp ⟨1, .data⟩ (by simp) rfl
      have e1 := (hJ.2.2.2.2.2.2.2.2.2.2.2.2.2.1) p1
      have p5 : L 5 := hp ⟨5, .data⟩ (by simp) rfl
      have e5 := (hJ.2.2.2.2.2.2.2.2.2.2.2.2.2.2.2.2.2.1) p5
      simp only [putAll, Act.put, List.setIfInBounds_toArray, List.set_cons_zero, List.set_cons_succ]
      go_simp
      refine hK _ G _ (by kernel_rfl) ?_
      exact ⟨(hJ.1),
        fun q n => (hJ.2.1) (q.resolve_left (by decide)) (fun m => n (.inr m)),
        fun q => (hJ.2.2.1) (q.resolve_left (by decide)),
        fun q => (hJ.2.2.2.1) (q.resolve_left (by decide)),
        fun q => (hJ.2.2.2.2.1) (q.resolve_left (by decide)),
        fun q n => (hJ.2.2.2.2.2.1) (q.resolve_left (by decide)) (fun m => n (.inr m)),
        fun q => (hJ.2.2.2.2.2.2.1) (q.resolve_left (by decide)),
        fun q r => (hJ.2.2.2.2.2.2.2.1) (q.resolve_left (by decide)) (r.resolve_left (by decide)),
        fun q r => (hJ.2.2.2.2.2.2.2.2.1) (q.resolve_left (by decide)) (r.resolve_left (by decide)),
        fun q => ⟨.inr ((hJ.2.2.2.2.2.2.2.2.2.1) (q.resolve_left (by decide))).1, .inr ((hJ.2.2.2.2.2.2.2.2.2.1) (q.resolve_left (by decide))).2⟩,
        fun q => .inr ((hJ.2.2.2.2.2.2.2.2.2.2.1) (q.resolve_left (by decide))),
        fun _ => .inr p5,
        fun q => (hJ.2.2.2.2.2.2.2.2.2.2.2.2.1) (q.resolve_left (by decide)),
        fun _ => by first | exact rfl | exact e1,
        fun q => (hJ.2.2.2.2.2.2.2.2.2.2.2.2.2.2.1) (q.resolve_left (by decide)),
        fun q => (hJ.2.2.2.2.2.2.2.2.2.2.2.2.2.2.2.1) (q.resolve_left (by decide)),
        fun q => (hJ.2.2.2.2.2.2.2.2.2.2.2.2.2.2.2.2.1) (q.resolve_left (by decide)),
        fun _ => by first | exact rfl | exact e5,
        fun _ => rfl,
        fun q => (hJ.2.2.2.2.2.2.2.2.2.2.2.2.2.2.2.2.2.2.2) (q.resolve_left (by decide))⟩
    refine StepsOk.cons (i := 7) rfl (fun L x G w1 K Q hn hp hJ hK => ?_) ?_
    · skip
      simp only [putAll, Act.put, List.setIfInBounds_toArray, List.set_cons_zero, List.set_cons_succ]
      go_simp
      refine hK _ (fun t => if t = 7 then w1.heap.size else G t) _ (by kernel_rfl) ?_
      exact ⟨bal (hJ.1) _,
        fun q n => ((hJ.2.1) (q.resolve_left (by decide)) (fun m => n (.inr m))).alloc _,
        fun q => ((hJ.2.2.1) (q.resolve_left (by decide))).alloc _,
        fun _ => ⟨((hJ.1)).size, by simp⟩,
        fun q => by have := (hJ.2.2.2.2.1) (q.resolve_left (by decide)); simp; omega,
        fun _ _ => Blk.new w1 _ _,
        fun q => absurd ((hJ.2.2.2.2.2.2.2.2.2.1) (q.resolve_left (by decide))).1 hn,
        fun q _ => Nat.ne_of_lt ((hJ.2.2.2.2.1) (q.resolve_left (by decide))),
        fun q _ => fun z => Nat.lt_irrefl _ (((hJ.2.2.1) (q.resolve_left (by decide))).top z),
        fun q => ⟨.inr ((hJ.2.2.2.2.2.2.2.2.2.1) (q.resolve_left (by decide))).1, .inr ((hJ.2.2.2.2.2.2.2.2.2.1) (q.resolve_left (by decide))).2⟩,
        fun q => .inr ((hJ.2.2.2.2.2.2.2.2.2.2.1) (q.resolve_left (by decide))),
        fun q => .inr ((hJ.2.2.2.2.2.2.2.2.2.2.2.1) (q.resolve_left (by decide))),
        fun q => (hJ.2.2.2.2.2.2.2.2.2.2.2.2.1) (q.resolve_left (by decide)),
        fun q => (hJ.2.2.2.2.2.2.2.2.2.2.2.2.2.1) (q.resolve_left (by decide)),
        fun q => (hJ.2.2.2.2.2.2.2.2.2.2.2.2.2.2.1) (q.resolve_left (by decide)),
        fun q => (hJ.2.2.2.2.2.2.2.2.2.2.2.2.2.2.2.1) (q.resolve_left (by decide)),
        fun q => (hJ.2.2.2.2.2.2.2.2.2.2.2.2.2.2.2.2.1) (q.resolve_left (by decide)),
        fun q => (hJ.2.2.2.2.2.2.2.2.2.2.2.2.2.2.2.2.2.1) (q.resolve_left (by decide)),
        fun q => (hJ.2.2.2.2.2.2.2.2.2.2.2.2.2.2.2.2.2.2.1) (q.resolve_left (by decide)),
        fun _ => rfl⟩
    refine StepsOk.cons (i := 8) rfl (fun L x G w1 K Q hn hp hJ hK => ?_) ?_
    · skip
      have p7 : L 7 := hp ⟨7, .data⟩ (by simp) rfl
      have e7 := (hJ.2.2.2.2.2.2.2.2.2.2.2.2.2.2.2.2.2.2.2) p7
      have p6 : L 6 := hp ⟨6, .data⟩ (by simp) rfl
      have e6 := (hJ.2.2.2.2.2.2.2.2.2.2.2.2.2.2.2.2.2.2.1) p6
      have hc := ((hJ.2.2.2.2.2.1) p7 hn).open2
      have c0_ := hc.1
      have c1_ := hc.2.1
      have c2_ := hc.2.2.1
      clear hc
      simp only [putAll, Act.put, List.setIfInBounds_toArray, List.set_cons_zero, List.set_cons_succ]
      go_simp
      refine hK _ G _ (by kernel_rfl) ?_
      exact ⟨bst (bst (hJ.1) (p := ⟨G 7, 0, none⟩) ((hJ.2.2.2.1) p7).1 _) (p := ⟨G 7, 1, none⟩) ((hJ.2.2.2.1) p7).1 _,
        fun q n => absurd (.inr ((hJ.2.2.2.2.2.2.2.2.2.2.2.1) p6)) n,
        fun q => (((hJ.2.2.1) (q.resolve_left (by decide))).far (.inr ((hJ.2.2.2.2.2.2.2.2.1) (q.resolve_left (by decide)) p7)) _).far (.inr ((hJ.2.2.2.2.2.2.2.2.1) (q.resolve_left (by decide)) p7)) _,
        fun q => ⟨((hJ.2.2.2.1) (q.resolve_left (by decide))).1, by simpa using ((hJ.2.2.2.1) (q.resolve_left (by decide))).2⟩,
        fun q => by simpa using (hJ.2.2.2.2.1) (q.resolve_left (by decide)),
        fun _ n => absurd (.inl rfl) n,
        fun _ => by simpa using (((hJ.2.2.2.2.2.1) p7 hn).set_ 0 (.int .i64 (N : Int))).set_ 1 (.slice (oa (G 5)) m (G 15)),
        fun q r => (hJ.2.2.2.2.2.2.2.1) (q.resolve_left (by decide)) (r.resolve_left (by decide)),
        fun q r => (hJ.2.2.2.2.2.2.2.2.1) (q.resolve_left (by decide)) (r.resolve_left (by decide)),
        fun _ => ⟨.inr p7, .inr p6⟩,
        fun q => .inr ((hJ.2.2.2.2.2.2.2.2.2.2.1) (q.resolve_left (by decide))),
        fun q => .inr ((hJ.2.2.2.2.2.2.2.2.2.2.2.1) (q.resolve_left (by decide))),
        fun q => (hJ.2.2.2.2.2.2.2.2.2.2.2.2.1) (q.resolve_left (by decide)),
        fun q => (hJ.2.2.2.2.2.2.2.2.2.2.2.2.2.1) (q.resolve_left (by decide)),
        fun q => (hJ.2.2.2.2.2.2.2.2.2.2.2.2.2.2.1) (q.resolve_left (by decide)),
        fun q => (hJ.2.2.2.2.2.2.2.2.2.2.2.2.2.2.2.1) (q.resolve_left (by decide)),
        fun q => (hJ.2.2.2.2.2.2.2.2.2.2.2.2.2.2.2.2.1) (q.resolve_left (by decide)),
        fun q => (hJ.2.2.2.2.2.2.2.2.2.2.2.2.2.2.2.2.2.1) (q.resolve_left (by decide)),
        fun _ => by first | exact rfl | exact e6,
        fun _ => by first | exact rfl | exact e7⟩
    exact StepsOk.nil
  case fin =>
    intro L x G wf hall hJ
    have own := hJ.2.2.1 (hall 5 (by decide))
    have Hb := hJ.2.2.2.2.2.2.1 (hall 8 (by decide))
    have hgH := (hJ.2.2.2.1 (hall 7 (by decide))).1
    have apH := hJ.2.2.2.2.2.2.2.2.1 (hall 5 (by decide)) (hall 7 (by decide))
    have hb_ := hJ.1
    have y0 := hJ.2.2.2.2.2.2.2.2.2.2.2.2.1 (hall 0 (by decide))
    have y1 := hJ.2.2.2.2.2.2.2.2.2.2.2.2.2.1 (hall 1 (by decide))
    have y2 := hJ.2.2.2.2.2.2.2.2.2.2.2.2.2.2.1 (hall 2 (by decide))
    have y3 := hJ.2.2.2.2.2.2.2.2.2.2.2.2.2.2.2.1 (hall 3 (by decide))
    have y4 := hJ.2.2.2.2.2.2.2.2.2.2.2.2.2.2.2.2.1 (hall 4 (by decide))
    have y5 := hJ.2.2.2.2.2.2.2.2.2.2.2.2.2.2.2.2.2.1 (hall 5 (by decide))
    have y6 := hJ.2.2.2.2.2.2.2.2.2.2.2.2.2.2.2.2.2.2.1 (hall 6 (by decide))
    have y7 := hJ.2.2.2.2.2.2.2.2.2.2.2.2.2.2.2.2.2.2.2 (hall 7 (by decide))
    simp only [putAll, Act.put, List.setIfInBounds_toArray, List.set_cons_zero, List.set_cons_succ]
    simp only [y0, y1, y2, y3, y4, y5, y6, y7]
    clear hall hJ y0 y1 y2 y3 y4 y5 y6 y7
    generalize G 7 = gH at *
    generalize oa (G 5) = A9 at *
    generalize G 15 = c9 at *
    replace own := own.congr (V' := iv (Ce.raise E q M 0)) fun i j _ _ => by unfold iv; rw [Ce.raise_0]
    clear Gb
    obtain ⟨h0, h1, h2, h3⟩ := Hb.open2
    go_wp2_with fail
    clear h0 h1 h2 h3
    go_loopw [46] (fun i wr => ∃ k : Nat, k ≤ m ∧ i = .int .i64 k ∧ Own wr w2.heap.size 59 3 A9 m c9 (iv (Ce.raise E q M k)) ∧ Blk wr gH 24 #[.int .i64 N, .slice A9 m c9] ∧ Below w2.heap.size w2 wr) (fun i _ => m - (intOf i).toNat)
    case atStart => exact ⟨0, Nat.zero_le _, rfl, own, Hb, hb_⟩
    case round =>
      clear own Hb
      obtain ⟨k, hk, rfl, own, Hb, hW⟩ := hrel
      by_cases hlt : k < m
      · by_cases hq : k < q
        rotate_left
        · have hq2 : decide ((k : Int) < (q : Int)) = false := decide_eq_false (by omega)
          have own2 := own.congr (V' := iv (Ce.raise E q M (k + 1))) fun i j _ _ => by unfold iv; rw [Ce.raise_step E q M (by omega)]
          go_wp2_with fail
          go_roundw
          case rel => exact ⟨k + 1, by omega, by go_num, own2, Hb, hW⟩
          case measure => simp [intOf]; omega
        obtain ⟨gE, rfl, g1, g2⟩ := own.pos (by omega)
        obtain ⟨bb, off, eA, hbl, u0⟩ := (U.keep (bt hB hW)).atw hq
        have HA := Lib.hid eA
        rw [HA.out]
        clear eA
        obtain ⟨m0, m1⟩ := hM k hq
        have ec0 := (O.e k hlt).c0
        have ec1 := (O.e k hlt).c1
        have y0 := own.E2 hlt (x := E k 2) (Ce.raise_late E q M (Nat.le_refl k) 2)
        have y1 := own.frozen
        have y2 := own.lt1
        have neH : gH ≠ gE := fun z => apH (by rw [z]; rfl)
        obtain ⟨h0, h1, h2, h3⟩ := Hb.open2
        by_cases hmin : 1099511627776 < E k 2 + M k
        · have OW := Lib.hid (own.set (V' := iv (Ce.raise E q M (k + 1))) hlt (show 2 < 3 by omega) (.int .i64 1099511627776) (by unfold iv; rw [Ce.raise_at E q M hq, if_pos hmin]) (fun i' j' _ _ h => by unfold iv; rw [Ce.raise_step E q M (by omega)]))
          have HB2 := Lib.hid (Hb.far (p := ⟨gE, k * 3 + 2, none⟩) neH (.int .i64 1099511627776))
          have HW2 := Lib.hid (bst hW (p := ⟨gE, k * 3 + 2, none⟩) g1 (.int .i64 1099511627776))
          go_wp2_with fail
          go_region
          go_wp2_with fail
          go_roundw
          case rel => exact ⟨k + 1, by omega, by go_num, OW.out.drew, HB2.out.drew, HW2.out.drew⟩
          case measure => simp [intOf]; omega
        · have OW := Lib.hid (own.set (V' := iv (Ce.raise E q M (k + 1))) hlt (show 2 < 3 by omega) (.int .i64 (E k 2 + M k)) (by unfold iv; rw [Ce.raise_at E q M hq, if_neg hmin]) (fun i' j' _ _ h => by unfold iv; rw [Ce.raise_step E q M (by omega)]))
          have HB2 := Lib.hid (Hb.far (p := ⟨gE, k * 3 + 2, none⟩) neH (.int .i64 (E k 2 + M k)))
          have HW2 := Lib.hid (bst hW (p := ⟨gE, k * 3 + 2, none⟩) g1 (.int .i64 (E k 2 + M k)))
          go_wp2_with fail
          go_region
          go_wp2_with fail
          go_roundw
          case rel => exact ⟨k + 1, by omega, by go_num, OW.out.drew, HB2.out.drew, HW2.out.drew⟩
          case measure => simp [intOf]; omega
      · obtain rfl : k = m := by omega
        have O2 := Ce.raise_ok O hMn k
        have T2 := own.rd
        replace P := P.keep hW
        replace Xb := Xb.keep hW
        replace hB := bt hB hW
        clear own hW hk hlt
        obtain ⟨e1, e2⟩ := Ce.dearer_b O hMn k HL.out hs ht hC
        have E1 := Lib.hid e1
        have E2 := Lib.hid e2
        clear e1 e2
        obtain ⟨c00, c01, c02, c03⟩ := Hb.open2
        obtain ⟨c10, c11, c12, c13⟩ := Xb.open2
        go_wp2_with fail
        refine (bound_c _ _ _ _ _ _ T2 n1 n2 _ _ _ _ _ _ P).mono ?_
        rw [E1.out, E2.out]
        rintro e w61 ⟨rfl, hb⟩
        clear c00 c01 c02 c03 c10 c11 c12 c13
        replace Hb := Hb.keep hb
        replace Xb := Xb.keep hb
        replace P := P.keep hb
        replace T2 := T2.keep hb
        replace hB := bt hB hb
        clear hb
        obtain ⟨c00, c01, c02, c03⟩ := Hb.open2
        obtain ⟨c10, c11, c12, c13⟩ := Xb.open2
        go_wp2_with fail
        refine (solve_c _ N k c9 (Ce.raise E q M k) s _ T2 O2 hs t ht).mono ?_
        rintro e w62 ⟨C', D', HL', hb, hres⟩
        clear c00 c01 c02 c03 c10 c11 c12 c13
        replace Hb := Hb.keep hb
        replace Xb := Xb.keep hb
        replace P := P.keep hb
        replace T2 := T2.keep hb
        replace hB := bt hB hb
        clear hb
        obtain ⟨f1, f2⟩ := Ce.dearer_c O hMn k HL.out HL'.out hs ht hC
        rcases hres with ⟨hC', _⟩ | ⟨hC', A5, k5, A6, k6, rfl, R, P2⟩
        · omega
        obtain ⟨e1, e2, e3, e4, e5⟩ := Ce.prove_ok O2 HL'.out hs ht hC'
        have E3 := Lib.hid e1
        have E4 := Lib.hid e2
        clear e1 e2 e3 e4 e5
        obtain ⟨c00, c01, c02, c03⟩ := Hb.open2
        obtain ⟨c10, c11, c12, c13⟩ := Xb.open2
        go_wp2_with fail
        refine (cost_c _ _ _ _ _ _ T2 n1 n2 _ _ _ _ _ _ R).mono ?_
        rw [E3.out, E4.out]
        rintro e w63 ⟨rfl, hb⟩
        clear c00 c01 c02 c03 c10 c11 c12 c13
        replace Hb := Hb.keep hb
        replace Xb := Xb.keep hb
        replace P := P.keep hb
        replace T2 := T2.keep hb
        replace R := R.keep hb
        replace hB := bt hB hb
        clear hb
        go_wp2_with fail
        go_returns
        exact ⟨rfl, hB⟩
end Go.Proofs.Ytbmfkncfenkjoaa
