/-
  Contracts: square roots.
-/
import Derived.Test.YtnkgoojjnikaeaaW5
import Derived.Test.YtnkgoojjnikaeaaW10
import Derived.Test.YtnkgoojjnikaeaaPlain4
namespace Go.Proofs.Ytnkgoojjnikaeaa
set_option linter.unusedVariables false
set_option linter.unusedSimpArgs false
open Go.RowKit

/-- A root so far with its next bit set. -/
theorem or_root {x r : Int} {n : Nat} (hx : Wi.inS x) (h : Wi.Rt x r (n + 1)) (hn : n < 64) : bits .or .u64 r (2 ^ n) = r + 2 ^ n := by
  obtain ⟨m, hm, e, hb, h1, h2⟩ := Wi.rt_next hx h hn
  have h3 := h.1
  have e2 : (2 : Int) ^ (n + 1) = 2 * 2 ^ n := by rw [Int.pow_succ, Int.mul_comm]
  have := or_parts (a := m) (b := 2 ^ n) (n + 1) hm (by omega) (by rw [e2]; omega) (by rw [← e]; omega) (by omega)
  rw [← e] at this
  exact this
set_option maxRecDepth 100000 in
set_option maxHeartbeats 2000000 in
theorem sqrt_c (h l x : Int) (w : World) (H : Wi.Wd h l x) : Calls Try.prog 21 #[.agg #[.int .i64 h, .int .u64 l]] w fun e w' =>
    e = .returned (.tuple #[.int .u64 (Wi.sqV x), .bool (Wi.sqB x)]) ∧ Below w.heap.size w w' := by
  obtain ⟨h1, h2, h3, h4, hv⟩ := H.bd
  by_cases hs : h < 0
  · have E := Lib.hid (Wi.sqV_neg (x := x) (by omega))
    have e2 : Wi.sqB x = false := decide_eq_false (by omega)
    clear hv
    go_enter Try.func21, Try.ntmps21
    go_wp2_with fail
    go_returns
    rw [E.out, e2]
    exact ⟨rfl, by go_grown⟩
  · have HS : Wi.Sz h l x := Wi.sz_of (by omega) (by omega) h3 h4 hv
    have hx0 : 0 ≤ x := by omega
    clear hv
    go_enter Try.func21, Try.ntmps21
    go_wp2_with fail
    go_loopw [5, 6] (fun v5 v6 wr => ∃ (j : Nat) (r : Int), j ≤ 64 ∧ v6 = .int .i64 ((j : Int) - 1) ∧ v5 = .int .u64 r ∧ Wi.Rt x r j ∧ Blk wr (w.heap.size + 1) 54 #[.int .u64 h, .int .u64 l] ∧ Below w.heap.size w wr) (fun _ v6 _ => (intOf v6 + 1).toNat)
    case atStart => exact ⟨64, 0, by omega, rfl, rfl, Wi.rt_64 HS.hv, Blk.new1 w _ _ _, by go_grown⟩
    case round =>
      rename_i wr
      obtain ⟨j, r, hj, rfl, rfl, hR, BS, hB⟩ := hrel
      rcases j with _ | n
      · go_wp2_with fail
        go_returns
        rw [Wi.sqV_pos hx0 hR, show Wi.sqB x = true from decide_eq_true hx0]
        exact ⟨rfl, hB⟩
      · have ez : ((n + 1 : Nat) : Int) - 1 = (n : Int) := by omega
        rw [ez]
        clear ez
        have o1 := or_root HS.hv hR (by omega)
        obtain ⟨m, hm, e, hb, p1, p2⟩ := Wi.rt_next HS.hv hR (by omega)
        have hr0 := hR.1
        clear e hm
        have hw := IntWalk.u64_in (2 ^ n) ⟨by omega, by omega⟩
        obtain ⟨s0, s1, s2, s3⟩ := BS.open2
        have hS := mul_in (x := r + 2 ^ n) (y := r + 2 ^ n) (by omega) hb (by omega) hb
        go_wp2_with fail
        refine (mul64_c _ _ _ (by omega) hb (by omega) hb).mono ?_
        rintro e w1 ⟨rfl, rfl⟩
        go_wp2_with fail
        refine (scmp_c _ _ _ _ _ _ _ (Wi.sz_self hS) HS).mono ?_
        rintro e w1 ⟨rfl, hb1⟩
        replace BS := BS.keep hb1
        replace hB := bt hB hb1
        clear hb1 s0 s1 s2 s3
        by_cases c : (r + 2 ^ n) * (r + 2 ^ n) ≤ x
        · have hcm : Wi.cm ((r + 2 ^ n) * (r + 2 ^ n)) x ≤ 0 := by unfold Wi.cm; split <;> (try split) <;> omega
          have hR2 := Wi.rt_yes hR c
          clear c o1 hw
          go_wp2_with fail
          go_roundw
          case rel => exact ⟨n, _, by omega, rfl, rfl, hR2, BS, hB⟩
          case measure => first | (simp [intOf]; done) | (simp [intOf]; omega)
        · have hcm : 0 < Wi.cm ((r + 2 ^ n) * (r + 2 ^ n)) x := by rw [Wi.cm_gt (by omega)]; omega
          have hR2 := Wi.rt_no hR c
          clear c o1 hw
          go_wp2_with fail
          go_roundw
          case rel => exact ⟨n, _, by omega, rfl, rfl, hR2, BS, hB⟩
          case measure => first | (simp [intOf]; done) | (simp [intOf]; omega)

/-- The bit of the reference's round. -/
def bitv : Nat → Int
  | 0 => 0
  | n + 1 => 2 ^ n
theorem bitv_half (n : Nat) : bitv (n + 1) / 2 = bitv n := by
  cases n with
  | zero => rfl
  | succ n =>
    show (2 : Int) ^ (n + 1) / 2 = 2 ^ n
    rw [Int.pow_succ]; omega
set_option maxRecDepth 100000 in
set_option maxHeartbeats 2000000 in
theorem rsqrt_c (h l x : Int) (w : World) (H : Wi.Wd h l x) : Calls Try.prog 22 #[.agg #[.int .i64 h, .int .u64 l]] w fun e w' =>
    e = .returned (.tuple #[.int .u64 (Wi.sqV x), .bool (Wi.sqB x)]) ∧ Below w.heap.size w w' := by
  obtain ⟨h1, h2, h3, h4, hv⟩ := H.bd
  by_cases hs : h < 0
  · have E := Lib.hid (Wi.sqV_neg (x := x) (by omega))
    have e2 : Wi.sqB x = false := decide_eq_false (by omega)
    clear hv
    go_enter Try.func22, Try.ntmps22
    go_wp2_with fail
    go_returns
    rw [E.out, e2]
    exact ⟨rfl, by go_grown⟩
  · have HS : Wi.Sz h l x := Wi.sz_of (by omega) (by omega) h3 h4 hv
    have hx0 : 0 ≤ x := by omega
    have HV := Lib.hid hv
    clear hv
    go_enter Try.func22, Try.ntmps22
    go_wp2_with fail
    go_loopw [4, 5] (fun v4 v5 wr => ∃ (j : Nat) (r : Int), j ≤ 64 ∧ v5 = .int .u64 (bitv j) ∧ v4 = .int .u64 r ∧ Wi.Rt x r j ∧ Blk wr w.heap.size 24 #[.int .i64 h, .int .u64 l] ∧ Below w.heap.size w wr) (fun _ v5 _ => (intOf v5).toNat)
    case atStart => exact ⟨64, 0, by omega, rfl, rfl, Wi.rt_64 HS.hv, Blk.new w _ _, by go_grown⟩
    case round =>
      rename_i wr
      obtain ⟨j, r, hj, rfl, rfl, hR, BS, hB⟩ := hrel
      rcases j with _ | n
      · rw [show bitv 0 = 0 from rfl]
        go_wp2_with fail
        go_returns
        rw [Wi.sqV_pos hx0 hR, show Wi.sqB x = true from decide_eq_true hx0]
        exact ⟨rfl, hB⟩
      · have hhalf := Lib.hid (bitv_half n)
        have hbv : bitv (n + 1) = 2 ^ n := rfl
        rw [hbv] at hhalf ⊢
        clear hbv
        have o1 := or_root HS.hv hR (by omega)
        obtain ⟨m, hm, e, hb, p1, p2⟩ := Wi.rt_next HS.hv hR (by omega)
        have hr0 := hR.1
        clear e hm
        have hS := mul_in (x := r + 2 ^ n) (y := r + 2 ^ n) (by omega) hb (by omega) hb
        have HT := Wi.sz_self hS
        obtain ⟨t1, t2, t3, t4, tv⟩ := HT.bd
        have TV := Lib.hid tv
        clear tv
        obtain ⟨s0, s1, s2, s3⟩ := BS.open2
        go_wp2_with fail
        refine (product_c _ _ _ (by omega) hb (by omega) hb).mono ?_
        rintro e w1 ⟨rfl, rfl⟩
        generalize Wi.Hq ((r + 2 ^ n) * (r + 2 ^ n)) = ph at *
        generalize Wi.Lr ((r + 2 ^ n) * (r + 2 ^ n)) = pl at *
        go_wp2_with fail
        · have tv := TV.out
          have hv := HV.out
          have hR2 := Wi.rt_yes hR (by omega)
          go_roundw
          case rel => exact ⟨n, _, by omega, by rw [hhalf.out], rfl, hR2, BS, hB⟩
          case measure => first | (simp [intOf]; done) | (simp [intOf]; omega)
        · have tv := TV.out
          have hv := HV.out
          have hR2 := Wi.rt_no hR (by omega)
          go_roundw
          case rel => exact ⟨n, _, by omega, by rw [hhalf.out], rfl, hR2, BS, hB⟩
          case measure => first | (simp [intOf]; done) | (simp [intOf]; omega)
        · have tv := TV.out
          have hv := HV.out
          have hR2 := Wi.rt_no hR (by omega)
          go_roundw
          case rel => exact ⟨n, _, by omega, by rw [hhalf.out], rfl, hR2, BS, hB⟩
          case measure => first | (simp [intOf]; done) | (simp [intOf]; omega)
        · have tv := TV.out
          have hv := HV.out
          have hR2 := Wi.rt_yes hR (by omega)
          go_roundw
          case rel => exact ⟨n, _, by omega, by rw [hhalf.out], rfl, hR2, BS, hB⟩
          case measure => first | (simp [intOf]; done) | (simp [intOf]; omega)
end Go.Proofs.Ytnkgoojjnikaeaa
