/-
  Contracts about texts, of the program: number, digits.
-/
import Derived.Test.YtplbjbpdinmjeaaW5
import Derived.Test.YtplbjbpdinmjeaaPlain4
import Derived.Laws.IdiomStrings
import Derived.LoopN
import Derived.Lib.SmallJoins
namespace Go.Proofs.Ytplbjbpdinmjeaa
set_option linter.unusedVariables false
open Go.RowKit

theorem num_yes (s : ByteArray) (h : Cal.nB s = true) : Cal.nV s = Cal.nb s ∧ Cal.nR s = Cal.nb s ∧ Cal.nB s = true := by
  have h' : Cal.nok s.data.toList = true := h
  unfold Cal.nV Cal.nR; rw [if_pos h', if_pos h']; exact ⟨rfl, rfl, h⟩
theorem num_no (s : ByteArray) (h : Cal.nB s = false) : Cal.nV s = 0 ∧ Cal.nR s = -1 ∧ Cal.nB s = false := by
  have h' : ¬ Cal.nok s.data.toList = true := by
    have h2 : Cal.nok s.data.toList = false := h
    rw [h2]; decide
  unfold Cal.nV Cal.nR; rw [if_neg h', if_neg h']; exact ⟨rfl, rfl, h⟩
theorem ret_int_bool {k : IntKind} {a b : Int} {c d : Bool} (h : a = b) (h2 : c = d) : Ending.returned (.tuple #[.int k a, .bool c]) = .returned (.tuple #[.int k b, .bool d]) := by rw [h, h2]

set_option maxHeartbeats 1000000 in
theorem number_c (s : ByteArray) (w : World) (hs : s.size ≤ 18) : Calls Try.prog 50 #[.string s] w fun e w' => e = .returned (.tuple #[.int .i64 (Cal.nV s), .bool (Cal.nB s)]) ∧ w = w' := by
  go_enter Try.func50, Try.ntmps50
  go_wp2
  go_loop [4, 8] (fun n i => ∃ k : Nat, k ≤ s.size ∧ i = .int .i64 k ∧ Hid (Cal.nok (s.data.toList.take k) = true) ∧ n = .int .i64 (Cal.nv (s.data.toList.take k))) (fun _ i => s.size - (intOf i).toNat)
  case atStart => exact ⟨0, Nat.zero_le _, rfl, Lib.hid rfl, rfl⟩
  case round =>
    obtain ⟨k, hk, rfl, hok, rfl⟩ := hrel
    have bd := Cal.nv_bd18 (s.data.toList.take k) (by simp; omega) hok.out
    by_cases hlt : k < s.size
    · by_cases h1 : (s[k].toNat : Int) < 48
      · have HF := Lib.hid (num_no s (Cal.nok_false s k hlt (Cal.isd_lo _ h1)))
        go_wp2
        go_ret2
        exact ⟨ret_int_bool HF.out.1.symm HF.out.2.2.symm, rfl⟩
      · by_cases h2 : 57 < (s[k].toNat : Int)
        · have HF := Lib.hid (num_no s (Cal.nok_false s k hlt (Cal.isd_hi _ h2)))
          go_wp2
          go_ret2
          exact ⟨ret_int_bool HF.out.1.symm HF.out.2.2.symm, rfl⟩
        · have hts := Cal.take_snoc s k hlt
          have hok2 : Cal.nok (s.data.toList.take (k + 1)) = true := by rw [hts, Cal.nok_snoc, hok.out, Cal.isd_in _ h1 h2]; rfl
          have hnv : Cal.nv (s.data.toList.take (k + 1)) = 10 * Cal.nv (s.data.toList.take k) + ((s[k].toNat : Int) - 48) := by rw [hts, Cal.nv_snoc]
          have bd2 := Cal.nv_bd18 (s.data.toList.take (k + 1)) (by simp; omega) hok2
          have bd3 : Cal.nv (s.data.toList.take k) ≤ 100000000000000000 := by omega
          have HO := Lib.hid hok2
          have HN := Lib.hid hnv
          clear hts hok2 hnv bd2
          go_wp2
          go_round
          case rel => exact ⟨k + 1, by omega, by go_num, HO, by rw [HN.out]⟩
          case measure => simp [intOf]; omega
    · obtain rfl : k = s.size := by omega
      have e := Cal.take_all s
      have HF := Lib.hid (num_yes s (by have h := hok.out; rw [e] at h; exact h))
      have HE := Lib.hid e
      clear e
      go_wp2
      go_ret2
      exact ⟨ret_int_bool (by rw [HE.out, HF.out.1]; rfl) HF.out.2.2.symm, rfl⟩

def SomeNum (w : World) (e : Ending) (w' : World) : Prop := ∃ (v : Int) (b : Bool), e = .returned (.tuple #[.int .i64 v, .bool b]) ∧ w = w'
set_option maxHeartbeats 1000000 in
theorem number_any (s : ByteArray) (w : World) (hs : s.size ≤ 9223372036854775807) : Calls Try.prog 50 #[.string s] w (SomeNum w) := by
  go_enter Try.func50, Try.ntmps50
  go_wp2
  go_loop [4, 8] (fun n i => ∃ (k : Nat) (v : Int), k ≤ s.size ∧ i = .int .i64 k ∧ n = .int .i64 v) (fun _ i => s.size - (intOf i).toNat)
  case atStart => exact ⟨0, 0, Nat.zero_le _, rfl, rfl⟩
  case round =>
    obtain ⟨k, v, hk, rfl, rfl⟩ := hrel
    by_cases hlt : k < s.size
    · by_cases h1 : (s[k].toNat : Int) < 48
      · go_wp2
        go_ret2
        exact ⟨_, _, rfl, rfl⟩
      · by_cases h2 : 57 < (s[k].toNat : Int)
        · go_wp2
          go_ret2
          exact ⟨_, _, rfl, rfl⟩
        · go_wp2
          go_round
          case rel => exact ⟨k + 1, _, by omega, by go_num, rfl⟩
          case measure => simp [intOf]; omega
    · obtain rfl : k = s.size := by omega
      go_wp2
      go_ret2
      exact ⟨_, _, rfl, rfl⟩

theorem mk2 (w : World) : (Instr.makeSlice 55 (.int .i64 2) (.int .i64 2)).run Try.prog w = .ok (.slice (some ⟨w.heap.size, 0, none⟩) 2 2) (w.alloc (.cells #[.int .u8 0, .int .u8 0] 5)) := by kernel_rfl
theorem mk4 (w : World) : (Instr.makeSlice 55 (.int .i64 4) (.int .i64 4)).run Try.prog w = .ok (.slice (some ⟨w.heap.size, 0, none⟩) 4 4) (w.alloc (.cells #[.int .u8 0, .int .u8 0, .int .u8 0, .int .u8 0] 5)) := by kernel_rfl
theorem conv2 (n : Int) (w : World) : (convert 55 9 (.slice (some ⟨w.heap.size, 0, none⟩) 2 2)).run Try.prog (w.alloc (.cells #[.int .u8 (48 + n / 10 % 10), .int .u8 (48 + n % 10)] 5)) =
    .ok (.string (Cal.D2 n)) (w.alloc (.cells #[.int .u8 (48 + n / 10 % 10), .int .u8 (48 + n % 10)] 5)) := by
  refine run_convert_bytes_back _ 55 9 5 ⟨w.heap.size, 0, none⟩ 2 [Cal.dg (n / 10), Cal.dg n] Try.underlying55 Try.underlying5 Try.underlying9 ?_
  intro j hj
  have hj' : j = 0 ∨ j = 1 := by simp at hj; omega
  rcases hj' with rfl | rfl
  · show (w.alloc _).cell? (Addr.add ⟨w.heap.size, 0, none⟩ 0) = some (.int .u8 ((Cal.dg (n / 10)).toNat : Int))
    rw [Cal.dg_nat]
    simp [go_sem]
  · show (w.alloc _).cell? (Addr.add ⟨w.heap.size, 0, none⟩ 1) = some (.int .u8 ((Cal.dg n).toNat : Int))
    rw [Cal.dg_nat]
    simp [go_sem]
theorem conv4 (n : Int) (w : World) : (convert 55 9 (.slice (some ⟨w.heap.size, 0, none⟩) 4 4)).run Try.prog (w.alloc (.cells #[.int .u8 (48 + n / 10 / 10 / 10 % 10), .int .u8 (48 + n / 10 / 10 % 10), .int .u8 (48 + n / 10 % 10), .int .u8 (48 + n % 10)] 5)) =
    .ok (.string (Cal.D4 n)) (w.alloc (.cells #[.int .u8 (48 + n / 10 / 10 / 10 % 10), .int .u8 (48 + n / 10 / 10 % 10), .int .u8 (48 + n / 10 % 10), .int .u8 (48 + n % 10)] 5)) := by
  refine run_convert_bytes_back _ 55 9 5 ⟨w.heap.size, 0, none⟩ 4 [Cal.dg (n / 10 / 10 / 10), Cal.dg (n / 10 / 10), Cal.dg (n / 10), Cal.dg n] Try.underlying55 Try.underlying5 Try.underlying9 ?_
  intro j hj
  have hj' : j = 0 ∨ j = 1 ∨ j = 2 ∨ j = 3 := by simp at hj; omega
  rcases hj' with rfl | rfl | rfl | rfl
  · show (w.alloc _).cell? (Addr.add ⟨w.heap.size, 0, none⟩ 0) = some (.int .u8 ((Cal.dg (n / 10 / 10 / 10)).toNat : Int))
    rw [Cal.dg_nat]
    simp [go_sem]
  · show (w.alloc _).cell? (Addr.add ⟨w.heap.size, 0, none⟩ 1) = some (.int .u8 ((Cal.dg (n / 10 / 10)).toNat : Int))
    rw [Cal.dg_nat]
    simp [go_sem]
  · show (w.alloc _).cell? (Addr.add ⟨w.heap.size, 0, none⟩ 2) = some (.int .u8 ((Cal.dg (n / 10)).toNat : Int))
    rw [Cal.dg_nat]
    simp [go_sem]
  · show (w.alloc _).cell? (Addr.add ⟨w.heap.size, 0, none⟩ 3) = some (.int .u8 ((Cal.dg n).toNat : Int))
    rw [Cal.dg_nat]
    simp [go_sem]

set_option maxHeartbeats 1000000 in
theorem digits2_c (n : Int) (w : World) (h1 : 0 ≤ n) (h2 : n ≤ 99) : Calls Try.prog 52 #[.int .i64 n, .int .i64 2] w fun e w' => e = .returned (.string (Cal.D2 n)) ∧ Below w.heap.size w w' := by
  have hmk := mk2
  have hcv := conv2 n w
  go_enter Try.func52, Try.ntmps52
  go_wp2
  refine wp_loop_rounds 3 ?_
  rw [rounds_succ]
  go_wp2
  rw [rounds_succ]
  go_wp2
  rw [rounds_succ]
  go_wp2
  go_ret
  exact ⟨rfl, (Below.refl _ _).alloc (Nat.le_refl _) _⟩
set_option maxHeartbeats 1000000 in
theorem digits4_c (n : Int) (w : World) (h1 : 0 ≤ n) (h2 : n ≤ 9999) : Calls Try.prog 52 #[.int .i64 n, .int .i64 4] w fun e w' => e = .returned (.string (Cal.D4 n)) ∧ Below w.heap.size w w' := by
  have hmk := mk4
  have hcv := conv4 n w
  go_enter Try.func52, Try.ntmps52
  go_wp2
  refine wp_loop_rounds 5 ?_
  rw [rounds_succ]
  go_wp2
  rw [rounds_succ]
  go_wp2
  rw [rounds_succ]
  go_wp2
  rw [rounds_succ]
  go_wp2
  rw [rounds_succ]
  go_wp2
  go_ret
  exact ⟨rfl, (Below.refl _ _).alloc (Nat.le_refl _) _⟩

end Go.Proofs.Ytplbjbpdinmjeaa
