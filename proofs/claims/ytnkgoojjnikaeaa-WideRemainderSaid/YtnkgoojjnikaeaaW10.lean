/-
  Contracts: a size doubled, a difference of sizes, long division.
-/
import Derived.Test.YtnkgoojjnikaeaaW2
import Derived.Test.YtnkgoojjnikaeaaBits
import Derived.LoopTactic
namespace Go.Proofs.Ytnkgoojjnikaeaa
set_option linter.unusedVariables false
set_option linter.unusedSimpArgs false
open Go.RowKit

set_option maxHeartbeats 1000000 in
theorem twice_c (h l s b : Int) (w : World) (H : Wi.Sz h l s) (hs : s < 170141183460469231731687303715884105728) (b0 : 0 ≤ b) (b1 : b ≤ 1) : Calls Try.prog 74 #[.agg #[.int .u64 h, .int .u64 l], .int .u64 b] w fun e w' =>
    e = .returned (.agg #[.int .u64 (Wi.Hq (2 * s + b)), .int .u64 (Wi.Lr (2 * s + b))]) ∧ Below w.heap.size w w' := by
  obtain ⟨h1, h2, h3, h4, hv⟩ := H.bd
  have h5 : h ≤ 9223372036854775807 := by omega
  have HV := Lib.hid hv
  clear hv
  have o1 : bits .or .u64 (h * 2) (l / 9223372036854775808) = h * 2 + l / 9223372036854775808 := by
    have := or_bit (x := h) (b := l / 9223372036854775808) h1 (by omega) (by omega)
    rw [IntWalk.u64_in _ (by omega)] at this
    omega
  have o2 := or_bit h3 b0 b1
  go_enter Try.func74, Try.ntmps74
  go_wp2_with fail
  go_returns
  have e := HV.out
  exact ⟨ret_a (Wi.sz_eq (by omega) (by omega) (by omega) (by omega) (by omega)), by go_grown⟩
set_option maxHeartbeats 1000000 in
theorem less_c (h l s h' l' t : Int) (w : World) (H : Wi.Sz h l s) (H' : Wi.Sz h' l' t) (hs : t ≤ s) : Calls Try.prog 67 #[.agg #[.int .u64 h, .int .u64 l], .agg #[.int .u64 h', .int .u64 l']] w fun e w' =>
    e = .returned (.agg #[.int .u64 (Wi.Hq (s - t)), .int .u64 (Wi.Lr (s - t))]) ∧ Below w.heap.size w w' := by
  obtain ⟨h1, h2, h3, h4, hv⟩ := H.bd
  obtain ⟨g1, g2, g3, g4, hv'⟩ := H'.bd
  have HV := Lib.hid hv
  have HV' := Lib.hid hv'
  clear hv hv'
  obtain ⟨x, k, s1, s2, k1, k2, hs1, q1⟩ := sub_ex l l' 0 h3 h4 g3 g4 (by omega) (by omega)
  obtain ⟨y, m, t1, t2, m1, m2, ht1, q2⟩ := sub_ex h h' k h1 h2 g1 g2 k1 k2
  go_enter Try.func67, Try.ntmps67
  go_wp2_with (first | simp only [q1] | simp only [q2])
  go_returns
  have e := HV.out
  have e1 := HV'.out
  have e2 := hs1.out
  have e3 := ht1.out
  exact ⟨ret_a (Wi.sz_eq t1 t2 s1 s2 (by omega)), by go_grown⟩
theorem inS_div {s d : Int} (hs : Wi.inS s) (hd : 0 < d) (j : Nat) : 0 ≤ Wi.top s j ∧ Wi.top s j ≤ s ∧ 0 ≤ Wi.top s j / d ∧ Wi.top s j / d ≤ Wi.top s j := by
  have a : 0 ≤ Wi.top s j := Int.ediv_nonneg hs.1 (Int.le_of_lt (Int.pow_pos (by decide)))
  exact ⟨a, Int.ediv_le_self _ hs.1, Int.ediv_nonneg a (by omega), Int.ediv_le_self _ a⟩
set_option maxRecDepth 100000 in
set_option maxHeartbeats 2000000 in
theorem over_c (h l s h' l' d : Int) (w : World) (H : Wi.Sz h l s) (H' : Wi.Sz h' l' d) (hd : 0 < d) (hd2 : d ≤ 170141183460469231731687303715884105728) : Calls Try.prog 66 #[.agg #[.int .u64 h, .int .u64 l], .agg #[.int .u64 h', .int .u64 l']] w fun e w' =>
    e = .returned (.tuple #[.agg #[.int .u64 (Wi.Hq (s / d)), .int .u64 (Wi.Lr (s / d))], .agg #[.int .u64 (Wi.Hq (s % d)), .int .u64 (Wi.Lr (s % d))]]) ∧ Below w.heap.size w w' := by
  obtain ⟨h1, h2, h3, h4, hv⟩ := H.bd
  clear hv
  go_enter Try.func66, Try.ntmps66
  go_wp2_with fail
  go_loopw [6] (fun v6 wr => ∃ (j : Nat), j ≤ 128 ∧ v6 = .int .i64 ((j : Int) - 1) ∧ Blk wr w.heap.size 54 #[.int .u64 h, .int .u64 l] ∧ Blk wr (w.heap.size + 1) 54 #[.int .u64 h', .int .u64 l'] ∧
    Blk wr (w.heap.size + 1 + 1) 54 #[.int .u64 (Wi.Hq (Wi.top s j / d)), .int .u64 (Wi.Lr (Wi.top s j / d))] ∧ Blk wr (w.heap.size + 1 + 1 + 1) 54 #[.int .u64 (Wi.Hq (Wi.top s j % d)), .int .u64 (Wi.Lr (Wi.top s j % d))] ∧ Below w.heap.size w wr)
    (fun v6 _ => (intOf v6 + 1).toNat)
  case atStart =>
    have e : Wi.top s 128 = 0 := Wi.top_128 H.hv
    refine ⟨128, by omega, rfl, ((Blk.new w _ _).alloc _ |>.alloc _).alloc _, ((Blk.new1 w _ _ _).alloc _).alloc _, ?_, ?_, by go_grown⟩
    · rw [e, Int.zero_ediv]; exact (Blk.new2 w _ _ _ _).alloc _
    · rw [e, Int.zero_emod]
      have z : (#[.int .u64 (Wi.Hq 0), .int .u64 (Wi.Lr 0)] : Array Value) = #[.int .u64 0, .int .u64 0] := rfl
      rw [z]
      have := Blk.new2 (w.alloc (.cells #[.int .u64 h, .int .u64 l] 54)) (.cells #[.int .u64 h', .int .u64 l'] 54) (.cells #[.int .u64 0, .int .u64 0] 54) 54 #[.int .u64 0, .int .u64 0]
      simpa using this
  case round =>
    rename_i wr
    obtain ⟨j, hj, rfl, BS, BD, BQ, BR, hB⟩ := hrel
    rcases j with _ | n
    · rw [Wi.top_0] at BQ BR
      obtain ⟨q0, q1, q2, q3⟩ := BQ.open2
      obtain ⟨p0, p1, p2, p3⟩ := BR.open2
      go_wp2_with fail
      go_region
      go_wp2_with fail
      refine bodyPost_ret (by simp [results, Try.results66, go_sem, q0, q1, q2, q3, p0, p1, p2, p3]; try rfl) rfl ?_
      exact ⟨rfl, by repeat (first | exact Below.refl _ _ | (with_reducible assumption) | (with_reducible apply bal) | (with_reducible apply bdr) | (with_reducible apply bdnl) | (with_reducible refine bst ?_ (by first | (simp; done) | (simp; omega) | omega) _) | (with_reducible refine bt ?_ (by with_reducible assumption)))⟩
    · have ez : ((n + 1 : Nat) : Int) - 1 = (n : Int) := by omega
      rw [ez]
      clear ez
      have hc := and_63 (n := n) (by omega)
      obtain ⟨b0, b1⟩ := Wi.bit_bd s n
      have t1 := inS_div H.hv hd (n + 1)
      have t2 := inS_div H.hv hd n
      have t3 := Wi.top_succ s n
      have r0 := Int.emod_nonneg (Wi.top s (n + 1)) (show d ≠ 0 by omega)
      have r1 := Int.emod_lt_of_pos (Wi.top s (n + 1)) hd
      have DS := Lib.hid (Wi.div_step (S := Wi.top s (n + 1)) hd b0 b1)
      rw [← t3] at DS
      have g1 : Wi.top s (n + 1) / d < 170141183460469231731687303715884105728 := by
        have := H.hv; unfold Wi.inS at this; omega
      have g0 := t1.2.2.1
      clear t1 t2 t3
      generalize Wi.top s (n + 1) / d = q at *
      generalize Wi.top s (n + 1) % d = r at *
      obtain ⟨a0, a1, a2, a3⟩ := BS.open2
      obtain ⟨q0, q1, q2, q3⟩ := BQ.open2
      obtain ⟨p0, p1, p2, p3⟩ := BR.open2
      by_cases hn : n < 64
      · have em : n % 64 = n := by omega
        rw [em] at hc
        clear em
        have hb := and_one (div_word n h3 h4).1 (div_word n h3 h4).2
        rw [Wi.bit_lo H hn] at hb
        generalize Wi.bitAt s n = b at *
        go_wp2_with fail
        refine (twice_c _ _ _ _ _ (Wi.sz_self ⟨r0, by omega⟩) (by omega) b0 b1).mono ?_
        rintro e w1 ⟨rfl, hb1⟩
        clear a0 a1 a2 a3 q0 q1 q2 q3 p0 p1 p2 p3
        replace BS := BS.keep hb1
        replace BD := BD.keep hb1
        replace BQ := BQ.keep hb1
        replace BR := BR.keep hb1
        replace hB := bt hB hb1
        clear hb1
        obtain ⟨q0, q1, q2, q3⟩ := BQ.open2
        obtain ⟨p0, p1, p2, p3⟩ := BR.open2
        go_wp2_with fail
        replace BR := (BR.set_ 0 (.int .u64 (Wi.Hq (2 * r + b)))).set_ 1 (.int .u64 (Wi.Lr (2 * r + b)))
        replace BS := (BS.far (p := ⟨w.heap.size + 1 + 1 + 1, 0, none⟩) (by first | (simp; done) | (simp; omega)) (.int .u64 (Wi.Hq (2 * r + b)))).far (p := ⟨w.heap.size + 1 + 1 + 1, 1, none⟩) (by first | (simp; done) | (simp; omega)) (.int .u64 (Wi.Lr (2 * r + b)))
        replace BD := (BD.far (p := ⟨w.heap.size + 1 + 1 + 1, 0, none⟩) (by first | (simp; done) | (simp; omega)) (.int .u64 (Wi.Hq (2 * r + b)))).far (p := ⟨w.heap.size + 1 + 1 + 1, 1, none⟩) (by first | (simp; done) | (simp; omega)) (.int .u64 (Wi.Lr (2 * r + b)))
        replace BQ := (BQ.far (p := ⟨w.heap.size + 1 + 1 + 1, 0, none⟩) (by first | (simp; done) | (simp; omega)) (.int .u64 (Wi.Hq (2 * r + b)))).far (p := ⟨w.heap.size + 1 + 1 + 1, 1, none⟩) (by first | (simp; done) | (simp; omega)) (.int .u64 (Wi.Lr (2 * r + b)))
        replace hB := bst (bst hB (p := ⟨w.heap.size + 1 + 1 + 1, 0, none⟩) (by first | (simp; done) | (simp; omega)) (.int .u64 (Wi.Hq (2 * r + b)))) (p := ⟨w.heap.size + 1 + 1 + 1, 1, none⟩) (by first | (simp; done) | (simp; omega)) (.int .u64 (Wi.Lr (2 * r + b)))
        simp only [List.setIfInBounds_toArray, List.set_cons_zero, List.set_cons_succ] at BR
        clear q0 q1 q2 q3
        clear p0 p1 p2 p3
        refine (twice_c _ _ _ _ _ (Wi.sz_self ⟨g0, by omega⟩) (by omega) (by omega) (by omega)).mono ?_
        rw [Int.add_zero]
        rintro e w2 ⟨rfl, hb1⟩
        replace BS := BS.keep hb1
        replace BD := BD.keep hb1
        replace BQ := BQ.keep hb1
        replace BR := BR.keep hb1
        replace hB := bt hB hb1
        clear hb1
        obtain ⟨c0, c1, c2, c3⟩ := BD.open2
        obtain ⟨q0, q1, q2, q3⟩ := BQ.open2
        obtain ⟨p0, p1, p2, p3⟩ := BR.open2
        go_wp2_with fail
        replace BQ := (BQ.set_ 0 (.int .u64 (Wi.Hq (2 * q)))).set_ 1 (.int .u64 (Wi.Lr (2 * q)))
        replace BS := (BS.far (p := ⟨w.heap.size + 1 + 1, 0, none⟩) (by first | (simp; done) | (simp; omega)) (.int .u64 (Wi.Hq (2 * q)))).far (p := ⟨w.heap.size + 1 + 1, 1, none⟩) (by first | (simp; done) | (simp; omega)) (.int .u64 (Wi.Lr (2 * q)))
        replace BD := (BD.far (p := ⟨w.heap.size + 1 + 1, 0, none⟩) (by first | (simp; done) | (simp; omega)) (.int .u64 (Wi.Hq (2 * q)))).far (p := ⟨w.heap.size + 1 + 1, 1, none⟩) (by first | (simp; done) | (simp; omega)) (.int .u64 (Wi.Lr (2 * q)))
        replace BR := (BR.far (p := ⟨w.heap.size + 1 + 1, 0, none⟩) (by first | (simp; done) | (simp; omega)) (.int .u64 (Wi.Hq (2 * q)))).far (p := ⟨w.heap.size + 1 + 1, 1, none⟩) (by first | (simp; done) | (simp; omega)) (.int .u64 (Wi.Lr (2 * q)))
        replace hB := bst (bst hB (p := ⟨w.heap.size + 1 + 1, 0, none⟩) (by first | (simp; done) | (simp; omega)) (.int .u64 (Wi.Hq (2 * q)))) (p := ⟨w.heap.size + 1 + 1, 1, none⟩) (by first | (simp; done) | (simp; omega)) (.int .u64 (Wi.Lr (2 * q)))
        simp only [List.setIfInBounds_toArray, List.set_cons_zero, List.set_cons_succ] at BQ
        clear c0 c1 c2 c3
        clear q0 q1 q2 q3
        clear p0 p1 p2 p3
        refine (scmp_c _ _ _ _ _ _ _ (Wi.sz_self (v := 2 * r + b) ⟨by omega, by omega⟩) H').mono ?_
        rintro e w3 ⟨rfl, hb1⟩
        replace BS := BS.keep hb1
        replace BD := BD.keep hb1
        replace BQ := BQ.keep hb1
        replace BR := BR.keep hb1
        replace hB := bt hB hb1
        clear hb1
        obtain ⟨c0, c1, c2, c3⟩ := BD.open2
        obtain ⟨q0, q1, q2, q3⟩ := BQ.open2
        obtain ⟨p0, p1, p2, p3⟩ := BR.open2
        by_cases hX : d ≤ 2 * r + b
        · have hcm : 0 ≤ Wi.cm (2 * r + b) d := by unfold Wi.cm; split <;> (try split) <;> omega
          obtain ⟨z1, z2⟩ := DS.out.1 hX
          have Z1 := Lib.hid z1
          have Z2 := Lib.hid z2
          have o1 : bits .or .u64 (Wi.Lr (2 * q)) 1 = Wi.Lr (2 * q + 1) := by
            have e := or_bit (x := q % 9223372036854775808) (b := 1) (by omega) (by omega) (by omega)
            rw [IntWalk.u64_in _ (by omega)] at e
            have e2 : q % 9223372036854775808 * 2 = Wi.Lr (2 * q) := by unfold Wi.Lr; omega
            rw [e2] at e
            rw [e]; unfold Wi.Lr; omega
          have o2 : Wi.Hq (2 * q + 1) = Wi.Hq (2 * q) := by unfold Wi.Hq; omega
          have O2 := Lib.hid o2
          clear z1 z2 o2
          go_wp2_with fail
          refine (less_c _ _ _ _ _ _ _ (Wi.sz_self (v := 2 * r + b) ⟨by omega, by omega⟩) H' hX).mono ?_
          rintro e w4 ⟨rfl, hb1⟩
          clear c0 c1 c2 c3 q0 q1 q2 q3 p0 p1 p2 p3
          replace BS := BS.keep hb1
          replace BD := BD.keep hb1
          replace BQ := BQ.keep hb1
          replace BR := BR.keep hb1
          replace hB := bt hB hb1
          clear hb1
          obtain ⟨q0, q1, q2, q3⟩ := BQ.open2
          obtain ⟨p0, p1, p2, p3⟩ := BR.open2
          go_wp2_with fail
          replace BR := (BR.set_ 0 (.int .u64 (Wi.Hq (2 * r + b - d)))).set_ 1 (.int .u64 (Wi.Lr (2 * r + b - d)))
          replace BS := (BS.far (p := ⟨w.heap.size + 1 + 1 + 1, 0, none⟩) (by first | (simp; done) | (simp; omega)) (.int .u64 (Wi.Hq (2 * r + b - d)))).far (p := ⟨w.heap.size + 1 + 1 + 1, 1, none⟩) (by first | (simp; done) | (simp; omega)) (.int .u64 (Wi.Lr (2 * r + b - d)))
          replace BD := (BD.far (p := ⟨w.heap.size + 1 + 1 + 1, 0, none⟩) (by first | (simp; done) | (simp; omega)) (.int .u64 (Wi.Hq (2 * r + b - d)))).far (p := ⟨w.heap.size + 1 + 1 + 1, 1, none⟩) (by first | (simp; done) | (simp; omega)) (.int .u64 (Wi.Lr (2 * r + b - d)))
          replace BQ := (BQ.far (p := ⟨w.heap.size + 1 + 1 + 1, 0, none⟩) (by first | (simp; done) | (simp; omega)) (.int .u64 (Wi.Hq (2 * r + b - d)))).far (p := ⟨w.heap.size + 1 + 1 + 1, 1, none⟩) (by first | (simp; done) | (simp; omega)) (.int .u64 (Wi.Lr (2 * r + b - d)))
          replace hB := bst (bst hB (p := ⟨w.heap.size + 1 + 1 + 1, 0, none⟩) (by first | (simp; done) | (simp; omega)) (.int .u64 (Wi.Hq (2 * r + b - d)))) (p := ⟨w.heap.size + 1 + 1 + 1, 1, none⟩) (by first | (simp; done) | (simp; omega)) (.int .u64 (Wi.Lr (2 * r + b - d)))
          simp only [List.setIfInBounds_toArray, List.set_cons_zero, List.set_cons_succ] at BR
          replace BQ := BQ.set_ 1 (.int .u64 (Wi.Lr (2 * q + 1)))
          replace BS := BS.far (p := ⟨w.heap.size + 1 + 1, 1, none⟩) (by first | (simp; done) | (simp; omega)) (.int .u64 (Wi.Lr (2 * q + 1)))
          replace BD := BD.far (p := ⟨w.heap.size + 1 + 1, 1, none⟩) (by first | (simp; done) | (simp; omega)) (.int .u64 (Wi.Lr (2 * q + 1)))
          replace BR := BR.far (p := ⟨w.heap.size + 1 + 1, 1, none⟩) (by first | (simp; done) | (simp; omega)) (.int .u64 (Wi.Lr (2 * q + 1)))
          replace hB := bst hB (p := ⟨w.heap.size + 1 + 1, 1, none⟩) (by first | (simp; done) | (simp; omega)) (.int .u64 (Wi.Lr (2 * q + 1)))
          simp only [List.setIfInBounds_toArray, List.set_cons_zero, List.set_cons_succ] at BQ
          go_roundw
          case rel => exact ⟨n, by omega, rfl, BS, BD, by rw [Z1.out, O2.out]; exact BQ, by rw [Z2.out]; exact BR, hB⟩
          case measure => first | (simp [intOf]; done) | (simp [intOf]; omega)
        · have hcm : Wi.cm (2 * r + b) d < 0 := by unfold Wi.cm; rw [if_pos (by omega)]; omega
          obtain ⟨z1, z2⟩ := DS.out.2 (by omega)
          have Z1 := Lib.hid z1
          have Z2 := Lib.hid z2
          clear z1 z2
          go_wp2_with fail
          go_roundw
          case rel => exact ⟨n, by omega, rfl, BS, BD, by rw [Z1.out]; exact BQ, by rw [Z2.out]; exact BR, hB⟩
          case measure => first | (simp [intOf]; done) | (simp [intOf]; omega)
      · have hb := and_one (div_word (n - 64) h1 h2).1 (div_word (n - 64) h1 h2).2
        rw [Wi.bit_hi H (by omega)] at hb
        generalize Wi.bitAt s n = b at *
        go_wp2_with fail
        refine (twice_c _ _ _ _ _ (Wi.sz_self ⟨r0, by omega⟩) (by omega) b0 b1).mono ?_
        rintro e w1 ⟨rfl, hb1⟩
        clear a0 a1 a2 a3 q0 q1 q2 q3 p0 p1 p2 p3
        replace BS := BS.keep hb1
        replace BD := BD.keep hb1
        replace BQ := BQ.keep hb1
        replace BR := BR.keep hb1
        replace hB := bt hB hb1
        clear hb1
        obtain ⟨q0, q1, q2, q3⟩ := BQ.open2
        obtain ⟨p0, p1, p2, p3⟩ := BR.open2
        go_wp2_with fail
        replace BR := (BR.set_ 0 (.int .u64 (Wi.Hq (2 * r + b)))).set_ 1 (.int .u64 (Wi.Lr (2 * r + b)))
        replace BS := (BS.far (p := ⟨w.heap.size + 1 + 1 + 1, 0, none⟩) (by first | (simp; done) | (simp; omega)) (.int .u64 (Wi.Hq (2 * r + b)))).far (p := ⟨w.heap.size + 1 + 1 + 1, 1, none⟩) (by first | (simp; done) | (simp; omega)) (.int .u64 (Wi.Lr (2 * r + b)))
        replace BD := (BD.far (p := ⟨w.heap.size + 1 + 1 + 1, 0, none⟩) (by first | (simp; done) | (simp; omega)) (.int .u64 (Wi.Hq (2 * r + b)))).far (p := ⟨w.heap.size + 1 + 1 + 1, 1, none⟩) (by first | (simp; done) | (simp; omega)) (.int .u64 (Wi.Lr (2 * r + b)))
        replace BQ := (BQ.far (p := ⟨w.heap.size + 1 + 1 + 1, 0, none⟩) (by first | (simp; done) | (simp; omega)) (.int .u64 (Wi.Hq (2 * r + b)))).far (p := ⟨w.heap.size + 1 + 1 + 1, 1, none⟩) (by first | (simp; done) | (simp; omega)) (.int .u64 (Wi.Lr (2 * r + b)))
        replace hB := bst (bst hB (p := ⟨w.heap.size + 1 + 1 + 1, 0, none⟩) (by first | (simp; done) | (simp; omega)) (.int .u64 (Wi.Hq (2 * r + b)))) (p := ⟨w.heap.size + 1 + 1 + 1, 1, none⟩) (by first | (simp; done) | (simp; omega)) (.int .u64 (Wi.Lr (2 * r + b)))
        simp only [List.setIfInBounds_toArray, List.set_cons_zero, List.set_cons_succ] at BR
        clear q0 q1 q2 q3
        clear p0 p1 p2 p3
        refine (twice_c _ _ _ _ _ (Wi.sz_self ⟨g0, by omega⟩) (by omega) (by omega) (by omega)).mono ?_
        rw [Int.add_zero]
        rintro e w2 ⟨rfl, hb1⟩
        replace BS := BS.keep hb1
        replace BD := BD.keep hb1
        replace BQ := BQ.keep hb1
        replace BR := BR.keep hb1
        replace hB := bt hB hb1
        clear hb1
        obtain ⟨c0, c1, c2, c3⟩ := BD.open2
        obtain ⟨q0, q1, q2, q3⟩ := BQ.open2
        obtain ⟨p0, p1, p2, p3⟩ := BR.open2
        go_wp2_with fail
        replace BQ := (BQ.set_ 0 (.int .u64 (Wi.Hq (2 * q)))).set_ 1 (.int .u64 (Wi.Lr (2 * q)))
        replace BS := (BS.far (p := ⟨w.heap.size + 1 + 1, 0, none⟩) (by first | (simp; done) | (simp; omega)) (.int .u64 (Wi.Hq (2 * q)))).far (p := ⟨w.heap.size + 1 + 1, 1, none⟩) (by first | (simp; done) | (simp; omega)) (.int .u64 (Wi.Lr (2 * q)))
        replace BD := (BD.far (p := ⟨w.heap.size + 1 + 1, 0, none⟩) (by first | (simp; done) | (simp; omega)) (.int .u64 (Wi.Hq (2 * q)))).far (p := ⟨w.heap.size + 1 + 1, 1, none⟩) (by first | (simp; done) | (simp; omega)) (.int .u64 (Wi.Lr (2 * q)))
        replace BR := (BR.far (p := ⟨w.heap.size + 1 + 1, 0, none⟩) (by first | (simp; done) | (simp; omega)) (.int .u64 (Wi.Hq (2 * q)))).far (p := ⟨w.heap.size + 1 + 1, 1, none⟩) (by first | (simp; done) | (simp; omega)) (.int .u64 (Wi.Lr (2 * q)))
        replace hB := bst (bst hB (p := ⟨w.heap.size + 1 + 1, 0, none⟩) (by first | (simp; done) | (simp; omega)) (.int .u64 (Wi.Hq (2 * q)))) (p := ⟨w.heap.size + 1 + 1, 1, none⟩) (by first | (simp; done) | (simp; omega)) (.int .u64 (Wi.Lr (2 * q)))
        simp only [List.setIfInBounds_toArray, List.set_cons_zero, List.set_cons_succ] at BQ
        clear c0 c1 c2 c3
        clear q0 q1 q2 q3
        clear p0 p1 p2 p3
        refine (scmp_c _ _ _ _ _ _ _ (Wi.sz_self (v := 2 * r + b) ⟨by omega, by omega⟩) H').mono ?_
        rintro e w3 ⟨rfl, hb1⟩
        replace BS := BS.keep hb1
        replace BD := BD.keep hb1
        replace BQ := BQ.keep hb1
        replace BR := BR.keep hb1
        replace hB := bt hB hb1
        clear hb1
        obtain ⟨c0, c1, c2, c3⟩ := BD.open2
        obtain ⟨q0, q1, q2, q3⟩ := BQ.open2
        obtain ⟨p0, p1, p2, p3⟩ := BR.open2
        by_cases hX : d ≤ 2 * r + b
        · have hcm : 0 ≤ Wi.cm (2 * r + b) d := by unfold Wi.cm; split <;> (try split) <;> omega
          obtain ⟨z1, z2⟩ := DS.out.1 hX
          have Z1 := Lib.hid z1
          have Z2 := Lib.hid z2
          have o1 : bits .or .u64 (Wi.Lr (2 * q)) 1 = Wi.Lr (2 * q + 1) := by
            have e := or_bit (x := q % 9223372036854775808) (b := 1) (by omega) (by omega) (by omega)
            rw [IntWalk.u64_in _ (by omega)] at e
            have e2 : q % 9223372036854775808 * 2 = Wi.Lr (2 * q) := by unfold Wi.Lr; omega
            rw [e2] at e
            rw [e]; unfold Wi.Lr; omega
          have o2 : Wi.Hq (2 * q + 1) = Wi.Hq (2 * q) := by unfold Wi.Hq; omega
          have O2 := Lib.hid o2
          clear z1 z2 o2
          go_wp2_with fail
          refine (less_c _ _ _ _ _ _ _ (Wi.sz_self (v := 2 * r + b) ⟨by omega, by omega⟩) H' hX).mono ?_
          rintro e w4 ⟨rfl, hb1⟩
          clear c0 c1 c2 c3 q0 q1 q2 q3 p0 p1 p2 p3
          replace BS := BS.keep hb1
          replace BD := BD.keep hb1
          replace BQ := BQ.keep hb1
          replace BR := BR.keep hb1
          replace hB := bt hB hb1
          clear hb1
          obtain ⟨q0, q1, q2, q3⟩ := BQ.open2
          obtain ⟨p0, p1, p2, p3⟩ := BR.open2
          go_wp2_with fail
          replace BR := (BR.set_ 0 (.int .u64 (Wi.Hq (2 * r + b - d)))).set_ 1 (.int .u64 (Wi.Lr (2 * r + b - d)))
          replace BS := (BS.far (p := ⟨w.heap.size + 1 + 1 + 1, 0, none⟩) (by first | (simp; done) | (simp; omega)) (.int .u64 (Wi.Hq (2 * r + b - d)))).far (p := ⟨w.heap.size + 1 + 1 + 1, 1, none⟩) (by first | (simp; done) | (simp; omega)) (.int .u64 (Wi.Lr (2 * r + b - d)))
          replace BD := (BD.far (p := ⟨w.heap.size + 1 + 1 + 1, 0, none⟩) (by first | (simp; done) | (simp; omega)) (.int .u64 (Wi.Hq (2 * r + b - d)))).far (p := ⟨w.heap.size + 1 + 1 + 1, 1, none⟩) (by first | (simp; done) | (simp; omega)) (.int .u64 (Wi.Lr (2 * r + b - d)))
          replace BQ := (BQ.far (p := ⟨w.heap.size + 1 + 1 + 1, 0, none⟩) (by first | (simp; done) | (simp; omega)) (.int .u64 (Wi.Hq (2 * r + b - d)))).far (p := ⟨w.heap.size + 1 + 1 + 1, 1, none⟩) (by first | (simp; done) | (simp; omega)) (.int .u64 (Wi.Lr (2 * r + b - d)))
          replace hB := bst (bst hB (p := ⟨w.heap.size + 1 + 1 + 1, 0, none⟩) (by first | (simp; done) | (simp; omega)) (.int .u64 (Wi.Hq (2 * r + b - d)))) (p := ⟨w.heap.size + 1 + 1 + 1, 1, none⟩) (by first | (simp; done) | (simp; omega)) (.int .u64 (Wi.Lr (2 * r + b - d)))
          simp only [List.setIfInBounds_toArray, List.set_cons_zero, List.set_cons_succ] at BR
          replace BQ := BQ.set_ 1 (.int .u64 (Wi.Lr (2 * q + 1)))
          replace BS := BS.far (p := ⟨w.heap.size + 1 + 1, 1, none⟩) (by first | (simp; done) | (simp; omega)) (.int .u64 (Wi.Lr (2 * q + 1)))
          replace BD := BD.far (p := ⟨w.heap.size + 1 + 1, 1, none⟩) (by first | (simp; done) | (simp; omega)) (.int .u64 (Wi.Lr (2 * q + 1)))
          replace BR := BR.far (p := ⟨w.heap.size + 1 + 1, 1, none⟩) (by first | (simp; done) | (simp; omega)) (.int .u64 (Wi.Lr (2 * q + 1)))
          replace hB := bst hB (p := ⟨w.heap.size + 1 + 1, 1, none⟩) (by first | (simp; done) | (simp; omega)) (.int .u64 (Wi.Lr (2 * q + 1)))
          simp only [List.setIfInBounds_toArray, List.set_cons_zero, List.set_cons_succ] at BQ
          go_roundw
          case rel => exact ⟨n, by omega, rfl, BS, BD, by rw [Z1.out, O2.out]; exact BQ, by rw [Z2.out]; exact BR, hB⟩
          case measure => first | (simp [intOf]; done) | (simp [intOf]; omega)
        · have hcm : Wi.cm (2 * r + b) d < 0 := by unfold Wi.cm; rw [if_pos (by omega)]; omega
          obtain ⟨z1, z2⟩ := DS.out.2 (by omega)
          have Z1 := Lib.hid z1
          have Z2 := Lib.hid z2
          clear z1 z2
          go_wp2_with fail
          go_roundw
          case rel => exact ⟨n, by omega, rfl, BS, BD, by rw [Z1.out]; exact BQ, by rw [Z2.out]; exact BR, hB⟩
          case measure => first | (simp [intOf]; done) | (simp [intOf]; omega)
end Go.Proofs.Ytnkgoojjnikaeaa
