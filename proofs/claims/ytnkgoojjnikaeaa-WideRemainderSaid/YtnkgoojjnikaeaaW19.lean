/-
  Contracts: Text.
-/
import Derived.Test.YtnkgoojjnikaeaaW18
import Derived.Test.YtnkgoojjnikaeaaW16
namespace Go.Proofs.Ytnkgoojjnikaeaa
set_option linter.unusedVariables false
set_option linter.unusedSimpArgs false
open Go.RowKit

theorem len40 : Try.prog.arrayLen 63 = 40 := by kernel_rfl
theorem elem40 : Try.prog.elem 63 = 5 := by kernel_rfl
theorem size1 (w : World) : (sizeOf 5).run Try.prog w = .ok 1 w := by kernel_rfl
theorem under40 : Try.prog.underlying 63 = some (.array (Try.prog.arrayLen 63) (Try.prog.elem 63)) := by kernel_rfl
theorem add_off (g n j : Nat) : (⟨g, n, none⟩ : Addr).add j = ⟨g, n + j, none⟩ := by unfold Addr.add; split <;> simp_all
theorem slice40 (g n : Nat) (hn : n < 40) (w : World) : (Instr.sliceAt 63 (.pointer (some ⟨g, 0, none⟩)) (some (.int .i64 (n : Int))) none none).run Try.prog w = .ok (.slice (some ⟨g, n, none⟩) (40 - n) (40 - n)) w := by
  rw [run_sliceAt_array_l w _ _ under40 .i64 n (by omega) (by rw [len40]; omega), elem40, size1]
  simp only [Result.andThen, slicedAt, len40, Int.toNat_natCast, Nat.mul_one, add_off, Nat.zero_add]
  rw [if_neg (by omega)]
set_option maxRecDepth 100000 in
set_option maxHeartbeats 2000000 in
theorem text_c (h l x : Int) (w : World) (H : Wi.Wd h l x) : Calls Try.prog 24 #[.agg #[.int .i64 h, .int .u64 l]] w fun e w' => e = .returned (.string (Wi.TT x)) ∧ Below w.heap.size w w' := by
  have hS := (Wi.ab_bd H.hv).1
  go_enter Try.func24, Try.ntmps24
  go_wp2_with fail
  refine (split_c _ _ _ _ H).mono ?_
  rintro e w1 ⟨rfl, hb1⟩
  have hB := ba w (.cells #[.int .i64 h, .int .u64 l] 24)
  replace hB := bt hB hb1
  have hg := hB.size
  clear hb1
  go_wp2_with fail
  go_loopw [6] (fun v6 wr => ∃ (i k : Nat) (cs : Array Value), i + k = 40 ∧ v6 = .int .i64 i ∧ (0 < k → Wi.ab x / 10 ^ k ≠ 0) ∧ Blk wr w1.heap.size 54 #[.int .u64 (Wi.Hq (Wi.ab x / 10 ^ k)), .int .u64 (Wi.Lr (Wi.ab x / 10 ^ k))] ∧
    Blk wr (w1.heap.size + 1) 63 cs ∧ cs.size = 40 ∧ Hid (∀ j, j < k → cs[i + j]? = some (.int .u8 (48 + Wi.ab x / 10 ^ (k - 1 - j) % 10))) ∧ Below w.heap.size w wr) (fun v6 _ => (intOf v6).toNat)
  case atStart =>
    refine ⟨40, 0, _, rfl, rfl, by omega, ?_, Blk.new1 w1 _ _ _, rfl, Lib.hid (fun j hj => by omega), bal (bal hB _) _⟩
    rw [Int.pow_zero, Int.ediv_one]
    exact (Blk.new w1 _ _).alloc _
  case round =>
    clear hB
    rename_i wr
    obtain ⟨i, k, cs, hik, rfl, hnz, BS, BA, hcs, HC, hB⟩ := hrel
    have hk : k + 1 ≤ 39 := by
      by_cases k0 : k = 0
      · omega
      · exact Wi.size_39 hS (by omega) (hnz (by omega))
    obtain ⟨n, rfl⟩ : ∃ n, i = n + 1 := ⟨i - 1, by omega⟩
    have hn : ((n + 1 : Nat) : Int) - 1 = (n : Int) := by omega
    have hyS : Wi.inS (Wi.ab x / 10 ^ k) := ⟨Int.ediv_nonneg hS.1 (Int.le_of_lt (Wi.p10 k)), by have := Int.ediv_le_self (10 ^ k) hS.1; have := hS.2; omega⟩
    obtain ⟨y, hy⟩ : ∃ y : Int, Hid (Wi.ab x / 10 ^ k = y) := ⟨_, Lib.hid rfl⟩
    rw [hy.out] at BS hyS
    obtain ⟨y1, y2, y3, y4, yv⟩ := (Wi.sz_self hyS).bd
    have YV := Lib.hid yv
    have NZ := Lib.hid hnz
    clear yv hnz
    generalize hYH : Wi.Hq y = yh at *
    generalize hYL : Wi.Lr y = yl at *
    have YH := Lib.hid hYH
    have YL := Lib.hid hYL
    clear hYH hYL
    have hdb : (yh % 10 * 18446744073709551616 + yl) / 10 ≤ 18446744073709551615 ∧ 0 ≤ (yh % 10 * 18446744073709551616 + yl) / 10 := by omega
    obtain ⟨q, hq, HQ⟩ : ∃ q, (yh % 10 * 18446744073709551616 + yl) / 10 = q ∧ Hid (q = (yh % 10 * 18446744073709551616 + yl) / 10) := ⟨_, rfl, Lib.hid rfl⟩
    obtain ⟨rr, hr, HR⟩ : ∃ rr, (yh % 10 * 18446744073709551616 + yl) % 10 = rr ∧ Hid (rr = (yh % 10 * 18446744073709551616 + yl) % 10) := ⟨_, rfl, Lib.hid rfl⟩
    have q0 : 0 ≤ q := by omega
    have q1 : q ≤ 18446744073709551615 := by omega
    have r0 : 0 ≤ rr := by omega
    have r1 : rr ≤ 9 := by omega
    obtain ⟨v0, hv0⟩ : ∃ v0, cs[n]? = some v0 := ⟨cs[n]'(by omega), by simp⟩
    have ca : wr.cell? ⟨w1.heap.size + 1, n, none⟩ = some v0 := (BA.cell n).trans hv0
    have cf : wr.frozen? ⟨w1.heap.size + 1, n, none⟩ = false := BA.frozen n
    have hn40 : n < 40 := by omega
    clear hdb hv0
    obtain ⟨s0, s1, s2, s3⟩ := BS.open2
    go_wp2_with fail
    go_quiet (fail)
    go_wp2_with fail
    refine (div64_c _ _ _ _ (by omega) (by omega) y3 y4 (by omega)).mono ?_
    rw [hq, hr]
    rintro e w2 ⟨rfl, n2, rfl⟩
    go_wp2_with fail
    have HZ : Wi.Sz (yh / 10) q (y / 10) := Wi.sz_of (by omega) (by omega) q0 q1 (by have := YV.out; have := HQ.out; omega)
    have hrr : Hid (rr = y % 10) := Lib.hid (by have := YV.out; have := HR.out; omega)
    have BS2 := (((BS.drewN (nq + n2)).set_ 0 (.int .u64 (yh / 10))).set_ 1 (.int .u64 q)).far (p := ⟨w1.heap.size + 1, n, none⟩) (by first | (simp; done) | (simp; omega)) (.int .u8 (48 + rr))
    have BA2 := (((BA.drewN (nq + n2)).far (p := ⟨w1.heap.size, 0, none⟩) (by first | (simp; done) | (simp; omega)) (.int .u64 (yh / 10))).far (p := ⟨w1.heap.size, 1, none⟩) (by first | (simp; done) | (simp; omega)) (.int .u64 q)).set_ n (.int .u8 (48 + rr))
    have hB2 := bst (bst (bst (bdnl hB (nq + n2)) (p := ⟨w1.heap.size, 0, none⟩) hg (.int .u64 (yh / 10))) (p := ⟨w1.heap.size, 1, none⟩) hg (.int .u64 q)) (p := ⟨w1.heap.size + 1, n, none⟩) (Nat.le_succ_of_le hg) (.int .u8 (48 + rr))
    simp only [List.setIfInBounds_toArray, List.set_cons_zero, List.set_cons_succ] at BS2
    have hcs2 : (cs.setIfInBounds n (.int .u8 (48 + rr))).size = 40 := by simpa using hcs
    have HC2 : Hid (∀ j, j < k + 1 → (cs.setIfInBounds n (.int .u8 (48 + rr)))[n + j]? = some (.int .u8 (48 + Wi.ab x / 10 ^ (k + 1 - 1 - j) % 10))) := Lib.hid (fun j hj => by
      rcases j with _ | j
      · rw [Nat.add_zero, Array.getElem?_setIfInBounds_self_of_lt (by omega), show k + 1 - 1 - 0 = k by omega, hy.out, hrr.out]
      · rw [Array.getElem?_setIfInBounds_ne (by omega), show n + (j + 1) = n + 1 + j by omega, HC.out j (by omega), show k + 1 - 1 - (j + 1) = k - 1 - j by omega])
    generalize cs.setIfInBounds n (.int .u8 (48 + rr)) = cs2 at BA2 hcs2 HC2
    clear BS BA hB HC hcs s0 s1 s2 s3 ca cf
    refine (zero_c _ _ _ _ HZ).mono ?_
    rintro e w5 ⟨rfl, hb1⟩
    replace BS2 := BS2.keep hb1
    replace BA2 := BA2.keep hb1
    replace hB2 := bt hB2 hb1
    clear hb1
    have hdiv : Hid (y / 10 = Wi.ab x / 10 ^ (k + 1)) := Lib.hid (by rw [← Wi.top10_succ, hy.out])
    clear y1 y2 y3 y4 YV YH YL HQ HR hq hr
    rcases hz : Wi.zb (y / 10) with _ | _
    · have hz2 : Wi.ab x / 10 ^ (k + 1) ≠ 0 := by rw [← hdiv.out]; intro q; rw [q] at hz; exact absurd hz (by decide)
      have HZ2 := Lib.hid hz2
      clear hz2
      go_wp2_with fail
      go_roundw
      case rel => exact ⟨n, k + 1, cs2, by omega, rfl, fun _ => HZ2.out, by rw [← hdiv.out, ← HZ.hh, ← HZ.hl]; exact BS2, BA2, hcs2, HC2, hB2⟩
      case measure => first | (simp [intOf]; done) | (simp [intOf]; omega)
    · have hz2 : Wi.ab x / 10 ^ (k + 1) = 0 := by rw [← hdiv.out]; exact of_decide_eq_true hz
      have hN := Lib.hid (Wi.ndv_of hS.1 (show Wi.Nd (Wi.ab x) (k + 1) from ⟨by omega, hz2, fun h => by simpa using NZ.out (by omega)⟩))
      have hlen : k + 1 = 40 - n := by omega
      clear hz2
      rcases hg2 : Wi.ngb x with _ | _
      · have hTT : Wi.TT x = ⟨(Wi.dl (Wi.ab x) (k + 1)).toArray⟩ := by unfold Wi.TT; rw [hN.out, hg2]; rfl
        have cv := run_convert_bytes_back (P := Try.prog) w5 65 9 5 ⟨w1.heap.size + 1, n, none⟩ (40 - n) (Wi.dl (Wi.ab x) (k + 1)) Try.underlying65 Try.underlying5 Try.underlying9 (fun j hj => by
          rw [Wi.dl_len] at hj
          have h1 := Wi.dl_at (Wi.ab x) (k + 1) j hj
          have h2 := (BA2.cell (n + j)).trans (HC2.out j hj)
          rw [List.getElem?_eq_some_iff] at h1
          obtain ⟨h3, h4⟩ := h1
          rw [h4, Wi.dg_nat]
          rw [add_off]
          simpa using h2)
        rw [Wi.dl_len, ← hTT, hlen] at cv
        clear hTT
        have hsl := fun w => slice40 (w1.heap.size + 1) n hn40 w
        go_wp2_with fail
        go_returns
        exact ⟨rfl, hB2⟩
      · obtain ⟨m, rfl⟩ : ∃ m, n = m + 1 := ⟨n - 1, by omega⟩
        have hm : ((m + 1 : Nat) : Int) - 1 = (m : Int) := by omega
        have hTT : Wi.TT x = ⟨(45 :: Wi.dl (Wi.ab x) (k + 1)).toArray⟩ := by unfold Wi.TT; rw [hN.out, hg2]; rfl
        obtain ⟨v1, hv1⟩ : ∃ v1, cs2[m]? = some v1 := ⟨cs2[m]'(by omega), by simp⟩
        have ca : w5.cell? ⟨w1.heap.size + 1, m, none⟩ = some v1 := (BA2.cell m).trans hv1
        have cf : w5.frozen? ⟨w1.heap.size + 1, m, none⟩ = false := BA2.frozen m
        have BA3 := BA2.set_ m (.int .u8 45)
        have cv := run_convert_bytes_back (P := Try.prog) (w5.setCell ⟨w1.heap.size + 1, m, none⟩ (.int .u8 45)) 65 9 5 ⟨w1.heap.size + 1, m, none⟩ (40 - m) (45 :: Wi.dl (Wi.ab x) (k + 1)) Try.underlying65 Try.underlying5 Try.underlying9 (fun j hj => by
          rw [List.length_cons, Wi.dl_len] at hj
          rw [add_off]
          rcases j with _ | j
          · refine (BA3.cell (m + 0)).trans ?_
            rw [Nat.add_zero, Array.getElem?_setIfInBounds_self_of_lt (by omega)]
            rfl
          · have h1 := Wi.dl_at (Wi.ab x) (k + 1) j (by omega)
            have h2 := HC2.out j (by omega)
            rw [List.getElem?_eq_some_iff] at h1
            obtain ⟨h3, h4⟩ := h1
            refine (BA3.cell (m + (j + 1))).trans ?_
            rw [Array.getElem?_setIfInBounds_ne (by omega), List.getElem_cons_succ, h4, Wi.dg_nat, ← h2]
            congr 1; omega)
        rw [List.length_cons, Wi.dl_len, ← hTT, show k + 1 + 1 = 40 - m by omega] at cv
        have hsl := fun w => slice40 (w1.heap.size + 1) m (by omega) w
        have hB3 := bst hB2 (p := ⟨w1.heap.size + 1, m, none⟩) (Nat.le_succ_of_le hg) (.int .u8 45)
        clear hTT hv1
        go_wp2_with fail
        go_returns
        exact ⟨rfl, hB3⟩
end Go.Proofs.Ytnkgoojjnikaeaa
