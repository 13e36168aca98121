/-
  Contracts: the reference's text.
-/
import Derived.Test.YtnkgoojjnikaeaaW13
import Derived.Test.YtnkgoojjnikaeaaW17
import Derived.Test.YtnkgoojjnikaeaaW7
import Derived.Test.YtnkgoojjnikaeaaPlain6
namespace Go.Proofs.Ytnkgoojjnikaeaa
set_option linter.unusedVariables false
set_option linter.unusedSimpArgs false
open Go.RowKit

theorem conv1 (n : Int) (w : World) : (convert 65 9 (.slice (some ⟨w.heap.size, 0, none⟩) 1 1)).run Try.prog (w.alloc (.cells #[.int .u8 (48 + n % 10)] 5)) =
    .ok (.string ⟨#[Wi.dg n]⟩) (w.alloc (.cells #[.int .u8 (48 + n % 10)] 5)) := by
  refine run_convert_bytes_back _ 65 9 5 ⟨w.heap.size, 0, none⟩ 1 [Wi.dg n] Try.underlying65 Try.underlying5 Try.underlying9 ?_
  intro j hj
  obtain rfl : j = 0 := by simp at hj; omega
  show (w.alloc _).cell? (Addr.add ⟨w.heap.size, 0, none⟩ 0) = some (.int .u8 ((Wi.dg n).toNat : Int))
  rw [Wi.dg_nat]
  simp [go_sem]
theorem ret_str {a b : ByteArray} (h : a = b) : Ending.returned (.string a) = .returned (.string b) := by rw [h]
/-- The text so far. -/
def tb (v : Int) (k : Nat) : ByteArray := ⟨(Wi.dl v k).toArray⟩
theorem tb_0 (v : Int) : tb v 0 = ⟨#[]⟩ := rfl
theorem tb_succ (v : Int) (k : Nat) : (⟨#[Wi.dg (v / 10 ^ k)]⟩ : ByteArray) ++ tb v k = tb v (k + 1) := by
  apply ByteArray.ext
  simp [tb, Wi.dl, ByteArray.data_append]
theorem tb_size (v : Int) (k : Nat) : (tb v k).size = k := by
  have := Wi.dl_len v k
  simp [tb, ByteArray.size, this]
set_option maxRecDepth 100000 in
set_option maxHeartbeats 2000000 in
theorem rtext_c (h l x : Int) (w : World) (H : Wi.Wd h l x) : Calls Try.prog 26 #[.agg #[.int .i64 h, .int .u64 l]] w fun e w' => e = .returned (.string (Wi.TT x)) ∧ Below w.heap.size w w' := by
  have hS := (Wi.ab_bd H.hv).1
  go_enter Try.func26, Try.ntmps26
  go_wp2_with fail
  refine (rsize_c _ _ _ _ H).mono ?_
  rintro e w1 ⟨rfl, hb1⟩
  have X := (Blk.new w 24 #[.int .i64 h, .int .u64 l]).keep hb1
  have hB := bt (ba w _) hb1
  clear hb1
  go_wp2_with fail
  go_loopw [3, 4, 5] (fun v3 v4 v5 wr => ∃ (k : Nat) (hi lo : Int), v3 = .int .u64 hi ∧ v4 = .int .u64 lo ∧ v5 = .string (tb (Wi.ab x) k) ∧ Wi.Sz hi lo (Wi.ab x / 10 ^ k) ∧ (1 < k → Wi.ab x / 10 ^ (k - 1) ≠ 0) ∧ k ≤ 39 ∧ Blk wr w.heap.size 24 #[.int .i64 h, .int .u64 l] ∧ Below w.heap.size w wr) (fun _ _ v5 _ => match v5 with | .string s => 40 - s.size | _ => 0)
  case atStart => exact ⟨0, _, _, rfl, rfl, rfl, by simpa using Wi.sz_self hS, by omega, by omega, X, hB⟩
  case round =>
    clear X hB
    rename_i wr
    obtain ⟨k, hi, lo, rfl, rfl, rfl, HZ, hnz, hk, X, hB⟩ := hrel
    have zb := zb_mod HZ
    have hsz : (tb (Wi.ab x) k).size ≤ 100 := by rw [tb_size]; omega
    have hyS := Lib.hid HZ.hv
    have hy0 := HZ.hv.1
    obtain ⟨y, hy⟩ : ∃ y : Int, Hid (Wi.ab x / 10 ^ k = y) := ⟨_, Lib.hid rfl⟩
    by_cases hz : Wi.ab x / 10 ^ k = 0
    · have z1 : hi = 0 := by rw [HZ.hh, hz]; rfl
      have z2 : lo = 0 := by rw [HZ.hl, hz]; rfl
      subst z1 z2
      by_cases k0 : k = 0
      · subst k0
        have hnz1 : Hid (1 < 0 + 1 → Wi.ab x / 10 ^ (0 + 1 - 1) ≠ 0) := Lib.hid (by omega)
        have hk1 : 0 + 1 ≤ 39 := by omega
        rw [hy.out] at HZ hyS hy0
        clear hz zb hnz hk
        have t0 : (tb (Wi.ab x) 0).toList.isEmpty = true := by rw [ByteArray.toList_eq]; rfl
        go_wp2_with fail
        refine (rdiv1_c _ _ _ 10 _ HZ (by omega) (by omega)).mono ?_
        rintro e w2 ⟨rfl, hw2⟩
        rw [← hw2]
        clear hw2 w2
        have cv := conv1 y wr
        go_wp2_with fail
        go_roundw
        case rel =>
          refine ⟨0 + 1, _, _, rfl, rfl, by rw [← tb_succ, hy.out], ?_, hnz1.out, hk1, X.alloc _, bal hB _⟩
          rw [← Wi.top10_succ, hy.out]
          exact Wi.sz_self ⟨by omega, by have := hyS.out.2; omega⟩
        case measure =>
          have e := tb_size (Wi.ab x) 0
          have e1 : (⟨#[Wi.dg y]⟩ : ByteArray).size = 1 := rfl
          simp [e, e1]
      · have hem : (tb (Wi.ab x) k).toList.isEmpty = false := by
          rw [List.isEmpty_eq_false_iff]
          intro q
          have q2 : (tb (Wi.ab x) k).toList.length = 0 := by rw [q]; rfl
          rw [ByteArray.toList_eq] at q2
          have q3 : (Wi.dl (Wi.ab x) k).length = 0 := q2
          rw [Wi.dl_len] at q3
          omega
        have hN := Lib.hid (Wi.ndv_of hS.1 (show Wi.Nd (Wi.ab x) k from ⟨by omega, hz, hnz⟩))
        obtain ⟨c0, c1, c2, c3⟩ := X.open2
        have hd := dec_ng H
        clear hz hnz zb hy hyS hy0
        rcases hn : Wi.ngb x with _ | _
        · go_wp2_with fail
          go_returns
          exact ⟨ret_str (by unfold Wi.TT; rw [hN.out, hn]; rfl), hB⟩
        · go_wp2_with fail
          go_returns
          exact ⟨ret_str (by unfold Wi.TT; rw [hN.out, hn]; apply ByteArray.ext; simp [tb, Wi.sgn, ByteArray.data_append]), hB⟩
    · have hnz1 : Hid (1 < k + 1 → Wi.ab x / 10 ^ (k + 1 - 1) ≠ 0) := Lib.hid (fun _ => by simpa using hz)
      have hk1 : k + 1 ≤ 39 := by
        by_cases k0 : k = 0
        · omega
        · exact Wi.size_39 hS (by omega) hz
      have hzz : hi ≠ 0 ∨ lo ≠ 0 := by
        apply Classical.byContradiction
        intro q
        have b := HZ.bd
        have q1 : hi = 0 := Classical.byContradiction fun a => q (Or.inl a)
        have q2 : lo = 0 := Classical.byContradiction fun a => q (Or.inr a)
        exact hz (by omega)
      rw [hy.out] at HZ hyS hy0
      clear hz zb hnz
      by_cases h1 : hi = 0
      · have h2 : (lo != 0) = true := by rcases hzz with q | q <;> simp [q] <;> exact absurd h1 q
        subst h1
        clear hzz
        go_wp2_with fail
        refine (rdiv1_c _ _ _ 10 _ HZ (by omega) (by omega)).mono ?_
        rintro e w2 ⟨rfl, hw2⟩
        rw [← hw2]
        clear hw2 w2
        have cv := conv1 y wr
        go_wp2_with fail
        go_roundw
        case rel =>
          refine ⟨k + 1, _, _, rfl, rfl, by rw [← tb_succ, hy.out], ?_, hnz1.out, hk1, X.alloc _, bal hB _⟩
          rw [← Wi.top10_succ, hy.out]
          exact Wi.sz_self ⟨by omega, by have := hyS.out.2; omega⟩
        case measure =>
          have e := tb_size (Wi.ab x) k
          have e1 : (⟨#[Wi.dg y]⟩ : ByteArray).size = 1 := rfl
          simp [e, e1]; omega
      · have h2 : (hi != 0) = true := by simpa using h1
        clear h1 hzz
        go_wp2_with fail
        refine (rdiv1_c _ _ _ 10 _ HZ (by omega) (by omega)).mono ?_
        rintro e w2 ⟨rfl, hw2⟩
        rw [← hw2]
        clear hw2 w2
        have cv := conv1 y wr
        go_wp2_with fail
        go_roundw
        case rel =>
          refine ⟨k + 1, _, _, rfl, rfl, by rw [← tb_succ, hy.out], ?_, hnz1.out, hk1, X.alloc _, bal hB _⟩
          rw [← Wi.top10_succ, hy.out]
          exact Wi.sz_self ⟨by omega, by have := hyS.out.2; omega⟩
        case measure =>
          have e := tb_size (Wi.ab x) k
          have e1 : (⟨#[Wi.dg y]⟩ : ByteArray).size = 1 := rfl
          simp [e, e1]; omega
end Go.Proofs.Ytnkgoojjnikaeaa
