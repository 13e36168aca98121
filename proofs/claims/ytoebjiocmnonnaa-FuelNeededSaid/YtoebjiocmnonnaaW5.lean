/-
  Contracts: BurnIn.
-/
import Derived.Test.YtoebjiocmnonnaaW1
namespace Go.Proofs.Ytoebjiocmnonnaa
set_option linter.unusedVariables false
open Go.RowKit

theorem ret_iv {a b c a' b' c' : Int} (h1 : a = a') (h2 : b = b') (h3 : c = c') :
    Ending.returned (.tuple #[.agg #[.int .i64 a, .int .i64 b], .int .i64 c]) = .returned (.tuple #[.agg #[.int .i64 a', .int .i64 b'], .int .i64 c']) := by rw [h1, h2, h3]

set_option maxHeartbeats 4000000 in
theorem burnin_c (l0 l1 f0 f1 t0 t1 : Int) (w : World) : Calls Try.prog 16 #[.agg #[.int .i64 l0, .int .i64 l1], .agg #[.int .i64 f0, .int .i64 f1], .agg #[.int .i64 t0, .int .i64 t1]] w fun e w' =>
    e = .returned (.tuple #[.agg #[.int .i64 (Fu.sel (Fu.biE l0 l1 f0 f1 t0 t1) (l0 - f1 * t1)), .int .i64 (Fu.sel (Fu.biE l0 l1 f0 f1 t0 t1) (l1 - f0 * t0))], .int .i64 (Fu.biE l0 l1 f0 f1 t0 t1)]) ∧ Below w.heap.size w w' := by
  by_cases a1 : l0 ≤ l1
  rotate_left
  · have HB : Hid (Fu.biE l0 l1 f0 f1 t0 t1 = 1) := Lib.hid (Fu.bi_1 (by omega))
    go_enter Try.func16, Try.ntmps16
    go_wp2
    refine bodyPost_ret (v := .tuple #[.agg #[.int .i64 0, .int .i64 0], .int .i64 1]) (by simp [results, Try.results16, go_sem, *]) rfl ⟨?_, (by repeat (first | exact ba _ _ | assumption | refine Below.setCell ?_ (by simp) _ | refine bal ?_ _))⟩
    exact ret_iv (by rw [HB.out]; rfl) (by rw [HB.out]; rfl) HB.out.symm
  by_cases a2 : f0 ≤ f1
  rotate_left
  · have HB : Hid (Fu.biE l0 l1 f0 f1 t0 t1 = 1) := Lib.hid (Fu.bi_1 (by omega))
    go_enter Try.func16, Try.ntmps16
    go_wp2
    refine bodyPost_ret (v := .tuple #[.agg #[.int .i64 0, .int .i64 0], .int .i64 1]) (by simp [results, Try.results16, go_sem, *]) rfl ⟨?_, (by repeat (first | exact ba _ _ | assumption | refine Below.setCell ?_ (by simp) _ | refine bal ?_ _))⟩
    exact ret_iv (by rw [HB.out]; rfl) (by rw [HB.out]; rfl) HB.out.symm
  by_cases a3 : t0 ≤ t1
  rotate_left
  · have HB : Hid (Fu.biE l0 l1 f0 f1 t0 t1 = 1) := Lib.hid (Fu.bi_1 (by omega))
    go_enter Try.func16, Try.ntmps16
    go_wp2
    refine bodyPost_ret (v := .tuple #[.agg #[.int .i64 0, .int .i64 0], .int .i64 1]) (by simp [results, Try.results16, go_sem, *]) rfl ⟨?_, (by repeat (first | exact ba _ _ | assumption | refine Below.setCell ?_ (by simp) _ | refine bal ?_ _))⟩
    exact ret_iv (by rw [HB.out]; rfl) (by rw [HB.out]; rfl) HB.out.symm
  by_cases b1 : 0 ≤ l0
  rotate_left
  · have HB : Hid (Fu.biE l0 l1 f0 f1 t0 t1 = 2) := Lib.hid (Fu.bi_2 (by omega) (by omega))
    go_enter Try.func16, Try.ntmps16
    go_wp2
    refine bodyPost_ret (v := .tuple #[.agg #[.int .i64 0, .int .i64 0], .int .i64 2]) (by simp [results, Try.results16, go_sem, *]) rfl ⟨?_, (by repeat (first | exact ba _ _ | assumption | refine Below.setCell ?_ (by simp) _ | refine bal ?_ _))⟩
    exact ret_iv (by rw [HB.out]; rfl) (by rw [HB.out]; rfl) HB.out.symm
  by_cases b2 : l1 ≤ 3000000000
  rotate_left
  · have HB : Hid (Fu.biE l0 l1 f0 f1 t0 t1 = 2) := Lib.hid (Fu.bi_2 (by omega) (by omega))
    go_enter Try.func16, Try.ntmps16
    go_wp2
    refine bodyPost_ret (v := .tuple #[.agg #[.int .i64 0, .int .i64 0], .int .i64 2]) (by simp [results, Try.results16, go_sem, *]) rfl ⟨?_, (by repeat (first | exact ba _ _ | assumption | refine Below.setCell ?_ (by simp) _ | refine bal ?_ _))⟩
    exact ret_iv (by rw [HB.out]; rfl) (by rw [HB.out]; rfl) HB.out.symm
  by_cases b3 : 0 ≤ f0
  rotate_left
  · have HB : Hid (Fu.biE l0 l1 f0 f1 t0 t1 = 2) := Lib.hid (Fu.bi_2 (by omega) (by omega))
    go_enter Try.func16, Try.ntmps16
    go_wp2
    refine bodyPost_ret (v := .tuple #[.agg #[.int .i64 0, .int .i64 0], .int .i64 2]) (by simp [results, Try.results16, go_sem, *]) rfl ⟨?_, (by repeat (first | exact ba _ _ | assumption | refine Below.setCell ?_ (by simp) _ | refine bal ?_ _))⟩
    exact ret_iv (by rw [HB.out]; rfl) (by rw [HB.out]; rfl) HB.out.symm
  by_cases b4 : f1 ≤ 50000
  rotate_left
  · have HB : Hid (Fu.biE l0 l1 f0 f1 t0 t1 = 2) := Lib.hid (Fu.bi_2 (by omega) (by omega))
    go_enter Try.func16, Try.ntmps16
    go_wp2
    refine bodyPost_ret (v := .tuple #[.agg #[.int .i64 0, .int .i64 0], .int .i64 2]) (by simp [results, Try.results16, go_sem, *]) rfl ⟨?_, (by repeat (first | exact ba _ _ | assumption | refine Below.setCell ?_ (by simp) _ | refine bal ?_ _))⟩
    exact ret_iv (by rw [HB.out]; rfl) (by rw [HB.out]; rfl) HB.out.symm
  by_cases b5 : 0 ≤ t0
  rotate_left
  · have HB : Hid (Fu.biE l0 l1 f0 f1 t0 t1 = 2) := Lib.hid (Fu.bi_2 (by omega) (by omega))
    go_enter Try.func16, Try.ntmps16
    go_wp2
    refine bodyPost_ret (v := .tuple #[.agg #[.int .i64 0, .int .i64 0], .int .i64 2]) (by simp [results, Try.results16, go_sem, *]) rfl ⟨?_, (by repeat (first | exact ba _ _ | assumption | refine Below.setCell ?_ (by simp) _ | refine bal ?_ _))⟩
    exact ret_iv (by rw [HB.out]; rfl) (by rw [HB.out]; rfl) HB.out.symm
  by_cases b6 : t1 ≤ 1099511627776
  rotate_left
  · have HB : Hid (Fu.biE l0 l1 f0 f1 t0 t1 = 2) := Lib.hid (Fu.bi_2 (by omega) (by omega))
    go_enter Try.func16, Try.ntmps16
    go_wp2
    refine bodyPost_ret (v := .tuple #[.agg #[.int .i64 0, .int .i64 0], .int .i64 2]) (by simp [results, Try.results16, go_sem, *]) rfl ⟨?_, (by repeat (first | exact ba _ _ | assumption | refine Below.setCell ?_ (by simp) _ | refine bal ?_ _))⟩
    exact ret_iv (by rw [HB.out]; rfl) (by rw [HB.out]; rfl) HB.out.symm
  obtain ⟨m1, m2⟩ := Fu.mul_bd (f := f1) (t := t1) ⟨by omega, by omega, by omega, by omega⟩
  obtain ⟨m3, m4⟩ := Fu.mul_bd (f := f0) (t := t0) ⟨by omega, by omega, by omega, by omega⟩
  by_cases hl : l0 < f1 * t1
  · have HB : Hid (Fu.biE l0 l1 f0 f1 t0 t1 = 15) := Lib.hid (Fu.bi_3 (by omega) (by omega) hl)
    go_enter Try.func16, Try.ntmps16
    go_wp2
    refine bodyPost_ret (v := .tuple #[.agg #[.int .i64 0, .int .i64 0], .int .i64 15]) (by simp [results, Try.results16, go_sem, *]) rfl ⟨?_, (by repeat (first | exact ba _ _ | assumption | refine Below.setCell ?_ (by simp) _ | refine bal ?_ _))⟩
    exact ret_iv (by rw [HB.out]; rfl) (by rw [HB.out]; rfl) HB.out.symm
  · have HB : Hid (Fu.biE l0 l1 f0 f1 t0 t1 = 0) := Lib.hid (Fu.bi_4 (by omega) (by omega) hl)
    go_enter Try.func16, Try.ntmps16
    go_wp2
    refine bodyPost_ret (v := .tuple #[.agg #[.int .i64 (l0 - f1 * t1), .int .i64 (l1 - f0 * t0)], .int .i64 0]) (by simp [results, Try.results16, go_sem, *]) rfl ⟨?_, (by repeat (first | exact ba _ _ | assumption | refine Below.setCell ?_ (by simp) _ | refine bal ?_ _))⟩
    exact ret_iv (by rw [HB.out]; rfl) (by rw [HB.out]; rfl) HB.out.symm

set_option maxHeartbeats 4000000 in
theorem rburnin_c (l0 l1 f0 f1 t0 t1 : Int) (w : World) : Calls Try.prog 17 #[.agg #[.int .i64 l0, .int .i64 l1], .agg #[.int .i64 f0, .int .i64 f1], .agg #[.int .i64 t0, .int .i64 t1]] w fun e w' =>
    e = .returned (.tuple #[.agg #[.int .i64 (Fu.sel (Fu.biE l0 l1 f0 f1 t0 t1) (l0 - f1 * t1)), .int .i64 (Fu.sel (Fu.biE l0 l1 f0 f1 t0 t1) (l1 - f0 * t0))], .int .i64 (Fu.biE l0 l1 f0 f1 t0 t1)]) ∧ Below w.heap.size w w' := by
  by_cases a1 : l0 ≤ l1
  rotate_left
  · have HB : Hid (Fu.biE l0 l1 f0 f1 t0 t1 = 1) := Lib.hid (Fu.bi_1 (by omega))
    go_enter Try.func17, Try.ntmps17
    go_wp2
    refine bodyPost_ret (v := .tuple #[.agg #[.int .i64 0, .int .i64 0], .int .i64 1]) (by simp [results, Try.results17, go_sem, *]) rfl ⟨?_, (by repeat (first | exact ba _ _ | assumption | refine Below.setCell ?_ (by simp) _ | refine bal ?_ _))⟩
    exact ret_iv (by rw [HB.out]; rfl) (by rw [HB.out]; rfl) HB.out.symm
  by_cases a2 : f0 ≤ f1
  rotate_left
  · have HB : Hid (Fu.biE l0 l1 f0 f1 t0 t1 = 1) := Lib.hid (Fu.bi_1 (by omega))
    go_enter Try.func17, Try.ntmps17
    go_wp2
    refine bodyPost_ret (v := .tuple #[.agg #[.int .i64 0, .int .i64 0], .int .i64 1]) (by simp [results, Try.results17, go_sem, *]) rfl ⟨?_, (by repeat (first | exact ba _ _ | assumption | refine Below.setCell ?_ (by simp) _ | refine bal ?_ _))⟩
    exact ret_iv (by rw [HB.out]; rfl) (by rw [HB.out]; rfl) HB.out.symm
  by_cases a3 : t0 ≤ t1
  rotate_left
  · have HB : Hid (Fu.biE l0 l1 f0 f1 t0 t1 = 1) := Lib.hid (Fu.bi_1 (by omega))
    go_enter Try.func17, Try.ntmps17
    go_wp2
    refine bodyPost_ret (v := .tuple #[.agg #[.int .i64 0, .int .i64 0], .int .i64 1]) (by simp [results, Try.results17, go_sem, *]) rfl ⟨?_, (by repeat (first | exact ba _ _ | assumption | refine Below.setCell ?_ (by simp) _ | refine bal ?_ _))⟩
    exact ret_iv (by rw [HB.out]; rfl) (by rw [HB.out]; rfl) HB.out.symm
  by_cases b1 : 0 ≤ l0
  rotate_left
  · have HB : Hid (Fu.biE l0 l1 f0 f1 t0 t1 = 2) := Lib.hid (Fu.bi_2 (by omega) (by omega))
    go_enter Try.func17, Try.ntmps17
    go_wp2
    refine bodyPost_ret (v := .tuple #[.agg #[.int .i64 0, .int .i64 0], .int .i64 2]) (by simp [results, Try.results17, go_sem, *]) rfl ⟨?_, (by repeat (first | exact ba _ _ | assumption | refine Below.setCell ?_ (by simp) _ | refine bal ?_ _))⟩
    exact ret_iv (by rw [HB.out]; rfl) (by rw [HB.out]; rfl) HB.out.symm
  by_cases b2 : l1 ≤ 3000000000
  rotate_left
  · have HB : Hid (Fu.biE l0 l1 f0 f1 t0 t1 = 2) := Lib.hid (Fu.bi_2 (by omega) (by omega))
    go_enter Try.func17, Try.ntmps17
    go_wp2
    refine bodyPost_ret (v := .tuple #[.agg #[.int .i64 0, .int .i64 0], .int .i64 2]) (by simp [results, Try.results17, go_sem, *]) rfl ⟨?_, (by repeat (first | exact ba _ _ | assumption | refine Below.setCell ?_ (by simp) _ | refine bal ?_ _))⟩
    exact ret_iv (by rw [HB.out]; rfl) (by rw [HB.out]; rfl) HB.out.symm
  by_cases b3 : 0 ≤ f0
  rotate_left
  · have HB : Hid (Fu.biE l0 l1 f0 f1 t0 t1 = 2) := Lib.hid (Fu.bi_2 (by omega) (by omega))
    go_enter Try.func17, Try.ntmps17
    go_wp2
    refine bodyPost_ret (v := .tuple #[.agg #[.int .i64 0, .int .i64 0], .int .i64 2]) (by simp [results, Try.results17, go_sem, *]) rfl ⟨?_, (by repeat (first | exact ba _ _ | assumption | refine Below.setCell ?_ (by simp) _ | refine bal ?_ _))⟩
    exact ret_iv (by rw [HB.out]; rfl) (by rw [HB.out]; rfl) HB.out.symm
  by_cases b4 : f1 ≤ 50000
  rotate_left
  · have HB : Hid (Fu.biE l0 l1 f0 f1 t0 t1 = 2) := Lib.hid (Fu.bi_2 (by omega) (by omega))
    go_enter Try.func17, Try.ntmps17
    go_wp2
    refine bodyPost_ret (v := .tuple #[.agg #[.int .i64 0, .int .i64 0], .int .i64 2]) (by simp [results, Try.results17, go_sem, *]) rfl ⟨?_, (by repeat (first | exact ba _ _ | assumption | refine Below.setCell ?_ (by simp) _ | refine bal ?_ _))⟩
    exact ret_iv (by rw [HB.out]; rfl) (by rw [HB.out]; rfl) HB.out.symm
  by_cases b5 : 0 ≤ t0
  rotate_left
  · have HB : Hid (Fu.biE l0 l1 f0 f1 t0 t1 = 2) := Lib.hid (Fu.bi_2 (by omega) (by omega))
    go_enter Try.func17, Try.ntmps17
    go_wp2
    refine bodyPost_ret (v := .tuple #[.agg #[.int .i64 0, .int .i64 0], .int .i64 2]) (by simp [results, Try.results17, go_sem, *]) rfl ⟨?_, (by repeat (first | exact ba _ _ | assumption | refine Below.setCell ?_ (by simp) _ | refine bal ?_ _))⟩
    exact ret_iv (by rw [HB.out]; rfl) (by rw [HB.out]; rfl) HB.out.symm
  by_cases b6 : t1 ≤ 1099511627776
  rotate_left
  · have HB : Hid (Fu.biE l0 l1 f0 f1 t0 t1 = 2) := Lib.hid (Fu.bi_2 (by omega) (by omega))
    go_enter Try.func17, Try.ntmps17
    go_wp2
    refine bodyPost_ret (v := .tuple #[.agg #[.int .i64 0, .int .i64 0], .int .i64 2]) (by simp [results, Try.results17, go_sem, *]) rfl ⟨?_, (by repeat (first | exact ba _ _ | assumption | refine Below.setCell ?_ (by simp) _ | refine bal ?_ _))⟩
    exact ret_iv (by rw [HB.out]; rfl) (by rw [HB.out]; rfl) HB.out.symm
  obtain ⟨m1, m2⟩ := Fu.mul_bd (f := f1) (t := t1) ⟨by omega, by omega, by omega, by omega⟩
  obtain ⟨m3, m4⟩ := Fu.mul_bd (f := f0) (t := t0) ⟨by omega, by omega, by omega, by omega⟩
  by_cases hl : l0 < f1 * t1
  · have HB : Hid (Fu.biE l0 l1 f0 f1 t0 t1 = 15) := Lib.hid (Fu.bi_3 (by omega) (by omega) hl)
    go_enter Try.func17, Try.ntmps17
    go_wp2
    refine bodyPost_ret (v := .tuple #[.agg #[.int .i64 0, .int .i64 0], .int .i64 15]) (by simp [results, Try.results17, go_sem, *]) rfl ⟨?_, (by repeat (first | exact ba _ _ | assumption | refine Below.setCell ?_ (by simp) _ | refine bal ?_ _))⟩
    exact ret_iv (by rw [HB.out]; rfl) (by rw [HB.out]; rfl) HB.out.symm
  · have HB : Hid (Fu.biE l0 l1 f0 f1 t0 t1 = 0) := Lib.hid (Fu.bi_4 (by omega) (by omega) hl)
    go_enter Try.func17, Try.ntmps17
    go_wp2
    refine bodyPost_ret (v := .tuple #[.agg #[.int .i64 (l0 - f1 * t1), .int .i64 (l1 - f0 * t0)], .int .i64 0]) (by simp [results, Try.results17, go_sem, *]) rfl ⟨?_, (by repeat (first | exact ba _ _ | assumption | refine Below.setCell ?_ (by simp) _ | refine bal ?_ _))⟩
    exact ret_iv (by rw [HB.out]; rfl) (by rw [HB.out]; rfl) HB.out.symm

end Go.Proofs.Ytoebjiocmnonnaa
