/-
  Contracts: Needed.
-/
import Derived.Test.YtoebjiocmnonnaaW5
import Derived.Deep.QuietTactic
import Derived.BigQuiet
namespace Go.Proofs.Ytoebjiocmnonnaa
set_option linter.unusedVariables false
open Go.RowKit

def RdI (w : World) (A : Option Addr) (xs : List Int) : Prop := xs = [] ∨ ∃ b off : Nat, A = some ⟨b, off, none⟩ ∧ ∀ k, k < xs.length → w.cell? ⟨b, off + k, none⟩ = some (.int .i64 (Fu.at_ xs k))
theorem bdn (w : World) (n : Nat) : Below w.heap.size w (w.drewN n) := ⟨rfl, rfl, rfl, Nat.le_refl _, fun _ _ => rfl⟩

set_option maxHeartbeats 4000000 in
theorem needed_c (A D : Option Addr) (cA cD : Nat) (xs ys : List Int) (r : Int) (w : World) (hA : RdI w A xs) (hD : RdI w D ys) (hxl : xs.length ≤ 9223372036854775807) (hyl : ys.length ≤ 9223372036854775807) :
    Calls Try.prog 18 #[.slice A xs.length cA, .slice D ys.length cD, .int .i64 r] w fun e w' => e = .returned (.tuple #[.int .i64 (Fu.ndV xs ys r), .int .i64 (Fu.ndE xs ys r)]) ∧ Below w.heap.size w w' := by
  by_cases hn : xs.length = ys.length
  rotate_left
  · have HE := Lib.hid (Fu.nd_1 (r := r) hn)
    have hd : ((xs.length : Int) != (ys.length : Int)) = true := by rw [bne_iff_ne]; omega
    clear hn
    go_enter Try.func18, Try.ntmps18
    go_wp2
    go_ret2
    exact ⟨ret_ints (by unfold Fu.ndV; rw [HE.out]; rfl) HE.out.symm, Below.refl _ _⟩
  have hd : ((xs.length : Int) != (ys.length : Int)) = false := by rw [bne_eq_false_iff_eq]; omega
  by_cases h64 : 64 < xs.length
  · have HE := Lib.hid (Fu.nd_2 (r := r) hn h64)
    clear hn
    go_enter Try.func18, Try.ntmps18
    go_wp2
    go_ret2
    exact ⟨ret_ints (by unfold Fu.ndV; rw [HE.out]; rfl) HE.out.symm, Below.refl _ _⟩
  by_cases r1 : 0 ≤ r
  rotate_left
  · have HE := Lib.hid (Fu.nd_3 (r := r) hn h64 (Or.inl (by omega)))
    clear hn
    go_enter Try.func18, Try.ntmps18
    go_wp2_with (go_at_call 30; go_in)
    go_ret2
    exact ⟨ret_ints (by unfold Fu.ndV; rw [HE.out]; rfl) HE.out.symm, Below.refl _ _⟩
  by_cases r2 : r ≤ 3000000000
  rotate_left
  · have HE := Lib.hid (Fu.nd_3 (r := r) hn h64 (Or.inr (Or.inl (by omega))))
    have hdr : decide (r ≤ 3000000000) = false := decide_eq_false r2
    clear hn
    go_enter Try.func18, Try.ntmps18
    go_wp2_with (go_at_call 30; go_in)
    go_ret2
    exact ⟨ret_ints (by unfold Fu.ndV; rw [HE.out]; rfl) HE.out.symm, Below.refl _ _⟩
  have HN := Lib.hid hn
  have hny : ys.length ≤ xs.length := by omega
  have hnx : xs.length ≤ ys.length := by omega
  clear hn
  go_enter Try.func18, Try.ntmps18
  go_wp2_with (go_at_call 30; go_in)
  go_loop [8, 25] (fun s i => ∃ k : Nat, k ≤ xs.length ∧ i = .int .i64 k ∧ s = .int .i64 (r + Fu.capTo xs ys k) ∧ Hid (Fu.allIn xs ys k)) (fun _ i => xs.length - (intOf i).toNat)
  case atStart => exact ⟨0, Nat.zero_le _, rfl, by simp [Fu.capTo], Lib.hid (fun _ h => absurd h (by omega))⟩
  case round =>
    obtain ⟨k, hk, rfl, rfl, hin⟩ := hrel
    have cb := Fu.cap_bd k hin.out
    have hcb : Fu.capTo xs ys k ≤ 64 * 3000000001 := by omega
    have hcb0 := cb.1
    clear cb
    by_cases hlt : k < xs.length
    · have hn := HN.out
      obtain ⟨b, off, eA, hcA⟩ := hA.resolve_left (by intro h; have h2 : xs.length = 0 := by { rw [h]; rfl }; omega)
      obtain ⟨d, ofd, eD, hcD⟩ := hD.resolve_left (by intro h; have h2 : ys.length = 0 := by { rw [h]; rfl }; omega)
      rw [eA, eD]
      clear eA eD
      have cx : w.cell? ⟨b, off + k, none⟩ = some (.int .i64 (Fu.at_ xs k)) := hcA k hlt
      have cy : w.cell? ⟨d, ofd + k, none⟩ = some (.int .i64 (Fu.at_ ys k)) := hcD k (by omega)
      have hly : (k : Int) < (ys.length : Int) := by omega
      clear hn hcA hcD
      by_cases f1 : 0 ≤ Fu.at_ xs k
      rotate_left
      · have HE := Lib.hid (Fu.nd_3 (r := r) HN.out h64 (Or.inr (Or.inr (Or.inl (Fu.not_allIn hlt (fun q => absurd q.1 f1))))))
        have hdd : decide (0 ≤ Fu.at_ xs k) = false := decide_eq_false f1
        go_wp2_with (go_at_call 30; go_in)
        go_ret2
        exact ⟨ret_ints (by unfold Fu.ndV; rw [HE.out]; rfl) HE.out.symm, Below.refl _ _⟩
      by_cases f2 : Fu.at_ xs k ≤ 50000
      rotate_left
      · have HE := Lib.hid (Fu.nd_3 (r := r) HN.out h64 (Or.inr (Or.inr (Or.inl (Fu.not_allIn hlt (fun q => absurd q.2.1 f2))))))
        have hdd : decide (Fu.at_ xs k ≤ 50000) = false := decide_eq_false f2
        go_wp2_with (go_at_call 30; go_in)
        go_ret2
        exact ⟨ret_ints (by unfold Fu.ndV; rw [HE.out]; rfl) HE.out.symm, Below.refl _ _⟩
      by_cases t1 : 0 ≤ Fu.at_ ys k
      rotate_left
      · have HE := Lib.hid (Fu.nd_3 (r := r) HN.out h64 (Or.inr (Or.inr (Or.inl (Fu.not_allIn hlt (fun q => absurd q.2.2.1 t1))))))
        have hdd : decide (0 ≤ Fu.at_ ys k) = false := decide_eq_false t1
        go_wp2_with (go_at_call 30; go_in)
        go_ret2
        exact ⟨ret_ints (by unfold Fu.ndV; rw [HE.out]; rfl) HE.out.symm, Below.refl _ _⟩
      by_cases t2 : Fu.at_ ys k ≤ 1099511627776
      rotate_left
      · have HE := Lib.hid (Fu.nd_3 (r := r) HN.out h64 (Or.inr (Or.inr (Or.inl (Fu.not_allIn hlt (fun q => absurd q.2.2.2 t2))))))
        have hdd : decide (Fu.at_ ys k ≤ 1099511627776) = false := decide_eq_false t2
        go_wp2_with (go_at_call 30; go_in)
        go_ret2
        exact ⟨ret_ints (by unfold Fu.ndV; rw [HE.out]; rfl) HE.out.symm, Below.refl _ _⟩
      have hi : Fu.inB (Fu.at_ xs k) (Fu.at_ ys k) := ⟨f1, f2, t1, t2⟩
      obtain ⟨m1, m2⟩ := Fu.mul_bd hi
      have HS := Lib.hid (Fu.allIn_snoc hin.out hi)
      by_cases hm : 3000000001 < Fu.at_ xs k * Fu.at_ ys k
      · have hc1 : Fu.capTo xs ys (k + 1) = Fu.capTo xs ys k + 3000000001 := by simp only [Fu.capTo]; omega
        have HC := Lib.hid hc1
        clear hc1 hi
        go_wp2_with (go_at_call 30; go_in)
        go_round
        case rel => exact ⟨k + 1, by omega, by go_num, by rw [HC.out]; go_num, HS⟩
        case measure => simp [intOf]; omega
      · have hc1 : Fu.capTo xs ys (k + 1) = Fu.capTo xs ys k + Fu.at_ xs k * Fu.at_ ys k := by simp only [Fu.capTo]; omega
        have HC := Lib.hid hc1
        clear hc1 hi
        go_wp2_with (go_at_call 30; go_in)
        go_round
        case rel => exact ⟨k + 1, by omega, by go_num, by rw [HC.out]; go_num, HS⟩
        case measure => simp [intOf]; omega
    · obtain rfl : k = xs.length := by omega
      have sb := Fu.sum_bd xs.length hin.out
      have ci := Fu.cap_iff (r := r) hin.out r1
      by_cases hs : 3000000000 < r + Fu.sumTo xs ys xs.length
      · have HE := Lib.hid (Fu.nd_3 (r := r) HN.out h64 (Or.inr (Or.inr (Or.inr hs))))
        have hc2 := ci.2 hs
        clear ci hs
        go_wp2_with (go_at_call 30; go_in)
        go_ret2
        exact ⟨ret_ints (by unfold Fu.ndV; rw [HE.out]; rfl) HE.out.symm, Below.refl _ _⟩
      · have HE := Lib.hid (Fu.nd_4 (r := r) HN.out h64 (by rintro (q | q | q | q); exact absurd q (by omega); exact absurd q (by omega); exact q hin.out; exact hs q))
        have HQ := Lib.hid (Fu.cap_eq hin.out r1 hs)
        have hc2 : ¬ 3000000000 < r + Fu.capTo xs ys xs.length := fun q => hs (ci.1 q)
        clear ci hs
        go_wp2_with (go_at_call 30; go_in)
        go_ret2
        exact ⟨ret_ints (by unfold Fu.ndV; rw [HE.out, HQ.out]; rfl) HE.out.symm, Below.refl _ _⟩

set_option maxHeartbeats 4000000 in
theorem rneeded_c (A D : Option Addr) (cA cD : Nat) (xs ys : List Int) (r : Int) (w : World) (hA : RdI w A xs) (hD : RdI w D ys) (hxl : xs.length ≤ 9223372036854775807) (hyl : ys.length ≤ 9223372036854775807) :
    Calls Try.prog 19 #[.slice A xs.length cA, .slice D ys.length cD, .int .i64 r] w fun e w' => e = .returned (.tuple #[.int .i64 (Fu.ndV xs ys r), .int .i64 (Fu.ndE xs ys r)]) ∧ Below w.heap.size w w' := by
  by_cases hn : xs.length = ys.length
  rotate_left
  · have HE := Lib.hid (Fu.nd_1 (r := r) hn)
    have hd : ((xs.length : Int) != (ys.length : Int)) = true := by rw [bne_iff_ne]; omega
    clear hn
    go_enter Try.func19, Try.ntmps19
    go_wp2
    go_ret2
    exact ⟨ret_ints (by unfold Fu.ndV; rw [HE.out]; rfl) HE.out.symm, Below.refl _ _⟩
  have hd : ((xs.length : Int) != (ys.length : Int)) = false := by rw [bne_eq_false_iff_eq]; omega
  by_cases h64 : 64 < xs.length
  · have HE := Lib.hid (Fu.nd_2 (r := r) hn h64)
    clear hn
    go_enter Try.func19, Try.ntmps19
    go_wp2
    go_ret2
    exact ⟨ret_ints (by unfold Fu.ndV; rw [HE.out]; rfl) HE.out.symm, Below.refl _ _⟩
  have HN := Lib.hid hn
  have hny : ys.length ≤ xs.length := by omega
  have hnx : xs.length ≤ ys.length := by omega
  clear hn
  go_enter Try.func19, Try.ntmps19
  go_wp2
  go_loop [23] (fun i => ∃ k : Nat, k ≤ xs.length ∧ i = .int .i64 k ∧ Hid (Fu.allIn xs ys k)) (fun i => xs.length - (intOf i).toNat)
  case atStart => exact ⟨0, Nat.zero_le _, rfl, Lib.hid (fun _ h => absurd h (by omega))⟩
  case round =>
    obtain ⟨k, hk, rfl, hin⟩ := hrel
    by_cases hlt : k < xs.length
    · have hn := HN.out
      obtain ⟨b, off, eA, hcA⟩ := hA.resolve_left (by intro h; have h2 : xs.length = 0 := by { rw [h]; rfl }; omega)
      obtain ⟨d, ofd, eD, hcD⟩ := hD.resolve_left (by intro h; have h2 : ys.length = 0 := by { rw [h]; rfl }; omega)
      rw [eA, eD]
      clear eA eD
      have cx : w.cell? ⟨b, off + k, none⟩ = some (.int .i64 (Fu.at_ xs k)) := hcA k hlt
      have cy : w.cell? ⟨d, ofd + k, none⟩ = some (.int .i64 (Fu.at_ ys k)) := hcD k (by omega)
      have hly : (k : Int) < (ys.length : Int) := by omega
      clear hn hcA hcD
      by_cases f1 : 0 ≤ Fu.at_ xs k
      rotate_left
      · have HE := Lib.hid (Fu.nd_3 (r := r) HN.out h64 (Or.inr (Or.inr (Or.inl (Fu.not_allIn hlt (fun q => absurd q.1 f1))))))
        go_wp2
        go_ret2
        exact ⟨ret_ints (by unfold Fu.ndV; rw [HE.out]; rfl) HE.out.symm, Below.refl _ _⟩
      by_cases f2 : Fu.at_ xs k ≤ 50000
      rotate_left
      · have HE := Lib.hid (Fu.nd_3 (r := r) HN.out h64 (Or.inr (Or.inr (Or.inl (Fu.not_allIn hlt (fun q => absurd q.2.1 f2))))))
        go_wp2
        go_ret2
        exact ⟨ret_ints (by unfold Fu.ndV; rw [HE.out]; rfl) HE.out.symm, Below.refl _ _⟩
      by_cases t1 : 0 ≤ Fu.at_ ys k
      rotate_left
      · have HE := Lib.hid (Fu.nd_3 (r := r) HN.out h64 (Or.inr (Or.inr (Or.inl (Fu.not_allIn hlt (fun q => absurd q.2.2.1 t1))))))
        go_wp2
        go_ret2
        exact ⟨ret_ints (by unfold Fu.ndV; rw [HE.out]; rfl) HE.out.symm, Below.refl _ _⟩
      by_cases t2 : Fu.at_ ys k ≤ 1099511627776
      rotate_left
      · have HE := Lib.hid (Fu.nd_3 (r := r) HN.out h64 (Or.inr (Or.inr (Or.inl (Fu.not_allIn hlt (fun q => absurd q.2.2.2 t2))))))
        go_wp2
        go_ret2
        exact ⟨ret_ints (by unfold Fu.ndV; rw [HE.out]; rfl) HE.out.symm, Below.refl _ _⟩
      have HS := Lib.hid (Fu.allIn_snoc hin.out ⟨f1, f2, t1, t2⟩)
      go_wp2
      go_round
      case rel => exact ⟨k + 1, by omega, by go_num, HS⟩
      case measure => simp [intOf]; omega
    · obtain rfl : k = xs.length := by omega
      by_cases r1 : r < 0
      · have HE := Lib.hid (Fu.nd_3 (r := r) HN.out h64 (Or.inl r1))
        go_wp2
        go_ret2
        exact ⟨ret_ints (by unfold Fu.ndV; rw [HE.out]; rfl) HE.out.symm, Below.refl _ _⟩
      by_cases r2 : 3000000000 < r
      · have HE := Lib.hid (Fu.nd_3 (r := r) HN.out h64 (Or.inr (Or.inl r2)))
        go_wp2
        go_ret2
        exact ⟨ret_ints (by unfold Fu.ndV; rw [HE.out]; rfl) HE.out.symm, Below.refl _ _⟩
      go_wp2
      go_loopw [9, 62] (fun s i wr => ∃ j : Nat, j ≤ xs.length ∧ i = .int .i64 j ∧ s = .int .i64 (r + Fu.sumTo xs ys j) ∧ ∃ nd, wr = w.drewN nd) (fun _ i _ => xs.length - (intOf i).toNat)
      case atStart => exact ⟨0, Nat.zero_le _, rfl, by simp [Fu.sumTo], 0, rfl⟩
      case round =>
        obtain ⟨k, hk, rfl, rfl, nd, rfl⟩ := hrel
        have sb := Fu.sum_bd k (Fu.allIn_le hin.out hk)
        have hsb : Fu.sumTo xs ys k ≤ 64 * 54975581388800000 := by omega
        by_cases hlt : k < xs.length
        · have hn := HN.out
          obtain ⟨b, off, eA, hcA⟩ := hA.resolve_left (by intro h; have h2 : xs.length = 0 := by { rw [h]; rfl }; omega)
          obtain ⟨d, ofd, eD, hcD⟩ := hD.resolve_left (by intro h; have h2 : ys.length = 0 := by { rw [h]; rfl }; omega)
          rw [eA, eD]
          clear eA eD
          have cx : w.cell? ⟨b, off + k, none⟩ = some (.int .i64 (Fu.at_ xs k)) := hcA k hlt
          have cy : w.cell? ⟨d, ofd + k, none⟩ = some (.int .i64 (Fu.at_ ys k)) := hcD k (by omega)
          have hly : (k : Int) < (ys.length : Int) := by omega
          have hk0 : (0 : Int) ≤ (k : Int) := Int.natCast_nonneg _
          have hlx : (k : Int) < (xs.length : Int) := by omega
          obtain ⟨m1, m2⟩ := Fu.mul_bd (hin.out k hlt)
          have hw1 : IntKind.i64.wrap (Fu.at_ xs k * Fu.at_ ys k) = Fu.at_ xs k * Fu.at_ ys k := IntWalk.i64_in _ (by omega)
          have hw2 : IntKind.i64.wrap (r + Fu.sumTo xs ys k + Fu.at_ xs k * Fu.at_ ys k) = r + Fu.sumTo xs ys k + Fu.at_ xs k * Fu.at_ ys k := IntWalk.i64_in _ (by omega)
          have HC : Hid (Fu.sumTo xs ys (k + 1) = Fu.sumTo xs ys k + Fu.at_ xs k * Fu.at_ ys k) := Lib.hid rfl
          clear hn hcA hcD sb
          go_wp2
          go_quiet (fail)
          go_wp2
          go_roundw
          case rel => exact ⟨k + 1, by omega, by go_num, by rw [HC.out]; go_num, ⟨_, rfl⟩⟩
          case measure => simp [intOf]; omega
        · obtain rfl : k = xs.length := by omega
          by_cases hs : 3000000000 < r + Fu.sumTo xs ys xs.length
          · have HE := Lib.hid (Fu.nd_3 (r := r) HN.out h64 (Or.inr (Or.inr (Or.inr hs))))
            go_wp2
            go_ret2
            exact ⟨ret_ints (by unfold Fu.ndV; rw [HE.out]; rfl) HE.out.symm, bdn _ _⟩
          · have HE := Lib.hid (Fu.nd_4 (r := r) HN.out h64 (by rintro (q | q | q | q); exact absurd q (by omega); exact absurd q (by omega); exact q hin.out; exact hs q))
            go_wp2
            go_ret2
            exact ⟨ret_ints (by unfold Fu.ndV; rw [HE.out]; rfl) HE.out.symm, bdn _ _⟩

end Go.Proofs.Ytoebjiocmnonnaa
