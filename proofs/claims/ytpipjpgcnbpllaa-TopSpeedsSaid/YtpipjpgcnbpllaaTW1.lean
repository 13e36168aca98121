/-
  Contracts: speed, distance, Steps.
-/
import Derived.Test.YtpipjpgcnbpllaaTMem
import Derived.Test.YtpipjpgcnbpllaaTPlain
import Derived.Test.YtpipjpgcnbpllaaW21
namespace Go.Proofs.Ytpipjpgcnbpllaa
set_option linter.unusedVariables false
set_option linter.unusedSimpArgs false
open Go.RowKit
attribute [local irreducible] World.setCell World.cell?

theorem infoSt : (Try.prog.info? 48).map (fun i => (i.zero, i.size, i.bytes)) = some (some (.agg #[.int .i64 0, .int .i64 0]), 2, 16) := by kernel_rfl
theorem infoWi : (Try.prog.info? 30).map (fun i => (i.zero, i.size, i.bytes)) = some (some (.agg #[.int .i64 0, .int .i64 0]), 2, 16) := by kernel_rfl
theorem infoI64 : (Try.prog.info? 2).map (fun i => (i.zero, i.size, i.bytes)) = some (some (.int .i64 0), 1, 8) := by kernel_rfl
def row2 (a b : Int) : Nat → Nat → Int := fun _ j => if j = 0 then a else b
theorem rd_row2 (w : World) (t : TypeId) (a b : Int) {H : Nat} (hH : w.heap.size = H) : Rd (w.alloc (.cells #[.int .i64 a, .int .i64 b] t)) 2 (some ⟨H, 0, none⟩) 1 1 (iv (row2 a b)) := by
  subst hH
  exact Rd.of_blk (Blk.new w t _) (Nat.le_refl _) (by omega) fun i j hi hj => by
    match i, j, hi, hj with
    | 0, 0, _, _ => rfl
    | 0, 1, _, _ => rfl
theorem own_sn2 {w : World} {B0 : Nat} {e : TypeId} {A : Option Addr} {j c : Nat} {F : Nat → Nat → Int} {a0 a1 : Int} (h : Own w B0 e 2 A (j + 1) c (app j (iv F) (iv (row2 a0 a1)))) (G : Nat → Nat → Int) (h1 : ∀ i f, i < j → G i f = F i f)
    (h2 : G j 0 = a0 ∧ G j 1 = a1) : Own w B0 e 2 A (j + 1) c (iv G) :=
  h.congr fun i f hi hf => by
    rw [app_int]
    unfold iv
    show Value.int .i64 (if i < j then F i f else row2 a0 a1 (i - j) f) = Value.int .i64 (G i f)
    by_cases q : i < j
    · rw [if_pos q, h1 i f q]
    · obtain rfl : i = j := by omega
      rw [if_neg q]
      obtain ⟨g0, g1⟩ := h2
      match f, hf with
      | 0, _ => rw [g0]; rfl
      | 1, _ => rw [g1]; rfl
set_option maxHeartbeats 1000000 in
theorem speed_c (a : Int) (w : World) : Calls Try.prog 11 #[.int .i64 a] w fun e w' => e = .returned (.bool (Sp.spd a)) ∧ w = w' := by
  by_cases h1 : 0 ≤ a
  · by_cases h2 : a ≤ 1000
    · rw [show Sp.spd a = true from decide_eq_true ⟨h1, h2⟩]
      go_enter Try.func11, Try.ntmps11
      go_wp2
      go_ret
      exact ⟨rfl, rfl⟩
    · rw [show Sp.spd a = false from decide_eq_false (by omega)]
      have h3 : 1000 < a := by omega
      go_enter Try.func11, Try.ntmps11
      go_wp2
      go_ret
      exact ⟨rfl, rfl⟩
  · rw [show Sp.spd a = false from decide_eq_false (by omega)]
    have h3 : a < 0 := by omega
    go_enter Try.func11, Try.ntmps11
    go_wp2
    go_ret
    exact ⟨rfl, rfl⟩
set_option maxHeartbeats 1000000 in
theorem distance_c (a : Int) (w : World) : Calls Try.prog 12 #[.int .i64 a] w fun e w' => e = .returned (.bool (Sp.dis a)) ∧ w = w' := by
  by_cases h1 : 0 ≤ a
  · by_cases h2 : a ≤ 8000000
    · rw [show Sp.dis a = true from decide_eq_true ⟨h1, h2⟩]
      go_enter Try.func12, Try.ntmps12
      go_wp2
      go_ret
      exact ⟨rfl, rfl⟩
    · rw [show Sp.dis a = false from decide_eq_false (by omega)]
      have h3 : 8000000 < a := by omega
      go_enter Try.func12, Try.ntmps12
      go_wp2
      go_ret
      exact ⟨rfl, rfl⟩
  · rw [show Sp.dis a = false from decide_eq_false (by omega)]
    have h3 : a < 0 := by omega
    go_enter Try.func12, Try.ntmps12
    go_wp2
    go_ret
    exact ⟨rfl, rfl⟩
set_option maxRecDepth 100000 in
set_option maxHeartbeats 4000000 in
theorem steps_c (A : Option Addr) (l c : Nat) (D : Nat → Int) (a b : Int) (w : World) (T : Rd w 1 A l c (nv D)) : Calls Try.prog 5 #[.slice A l c, .int .i64 a, .int .i64 b] w fun e w' => ∃ (A' : Option Addr) (c' : Nat), e = .returned (.tuple #[.slice A' (Sp.stL l D a b) c', .int .i64 (Sp.stE l D a b)]) ∧ Own w' w.heap.size 48 2 A' (Sp.stL l D a b) c' (iv (Sp.stT D a b)) ∧ Below w.heap.size w w' := by
  have r1 := T.le
  have r2 := T.mx
  have HB := Below.refl w.heap.size w
  by_cases h64 : 64 ≤ l
  · have HE := Lib.hid (show Sp.stE l D a b = 3 from by unfold Sp.stE; rw [if_pos h64])
    rw [Sp.stL_e (by rw [HE.out]; omega), HE.out]
    have h1 : (64 : Int) ≤ (l : Int) := by omega
    go_enter Try.func5, Try.ntmps5
    go_wp2_with fail
    go_returns
    exact ⟨none, 0, rfl, Own.nil _ _ _ _ _, HB⟩
  have h1 : ¬ (64 : Int) ≤ (l : Int) := by omega
  cases qa : Sp.spd a
  · have HE := Lib.hid (show Sp.stE l D a b = 2 from by unfold Sp.stE; rw [if_neg h64, qa]; rfl)
    rw [Sp.stL_e (by rw [HE.out]; omega), HE.out]
    go_enter Try.func5, Try.ntmps5
    go_wp2_with fail
    refine (speed_c _ _).mono ?_
    rw [qa]
    rintro e w_ ⟨rfl, rfl⟩
    go_wp2_with fail
    go_returns
    exact ⟨none, 0, rfl, Own.nil _ _ _ _ _, HB⟩
  cases qb : Sp.spd b
  · have HE := Lib.hid (show Sp.stE l D a b = 2 from by unfold Sp.stE; rw [if_neg h64, qa, qb]; rfl)
    rw [Sp.stL_e (by rw [HE.out]; omega), HE.out]
    go_enter Try.func5, Try.ntmps5
    go_wp2_with fail
    refine (speed_c _ _).mono ?_
    rw [qa]
    rintro e w_ ⟨rfl, rfl⟩
    go_wp2_with fail
    refine (speed_c _ _).mono ?_
    rw [qb]
    rintro e w_ ⟨rfl, rfl⟩
    go_wp2_with fail
    go_returns
    exact ⟨none, 0, rfl, Own.nil _ _ _ _ _, HB⟩
  obtain ⟨a0, a1⟩ := Sp.spd_iff.1 qa
  obtain ⟨b0, b1⟩ := Sp.spd_iff.1 qb
  have hE : Sp.stE l D a b = if Sp.okD D l = true then 0 else 2 := by unfold Sp.stE; rw [if_neg h64, qa, qb]; rfl
  have QA := Lib.hid qa
  have QB := Lib.hid qb
  have HE := Lib.hid hE
  clear hE qa qb
  obtain ⟨i0, hi, hz0, hz1, hz2⟩ := info_parts infoSt
  have HI := Lib.hid hi
  have HZ0 := Lib.hid hz0
  have HZ1 := Lib.hid hz1
  have HZ2 := Lib.hid hz2
  clear hi hz0 hz1 hz2
  go_enter Try.func5, Try.ntmps5
  go_wp2_with fail
  refine (speed_c _ _).mono ?_
  rw [QA.out]
  rintro e w_ ⟨rfl, rfl⟩
  go_wp2_with fail
  refine (speed_c _ _).mono ?_
  rw [QB.out]
  rintro e w_ ⟨rfl, rfl⟩
  go_wp2_with fail
  go_loopw [8, 24] (fun s_ i wr => ∃ (j : Nat) (A' : Option Addr) (c' : Nat), j ≤ l ∧ i = .int .i64 j ∧ s_ = .slice A' j c' ∧ Hid (Sp.okD D j = true) ∧ Own wr w.heap.size 48 2 A' j c' (iv (Sp.stT D a b)) ∧ Below w.heap.size w wr) (fun _ i _ => l - (intOf i).toNat)
  case atStart => exact ⟨0, none, 0, Nat.zero_le _, rfl, rfl, rfl, Own.nil _ _ _ _ _, HB⟩
  case round =>
    obtain ⟨j, A', c', hj, rfl, rfl, hok, own, hW⟩ := hrel
    by_cases hlt : j < l
    · obtain ⟨bb, off, eA, hbl, u0⟩ := (T.keep hW).at1 hlt
      have HA := Lib.hid eA
      rw [HA.out]
      clear eA
      cases qd : Sp.dis (D j)
      · have HE2 := Lib.hid (HE.out.trans (if_neg (by rw [Sp.okD_no hlt qd]; simp)))
        have QD := Lib.hid qd
        clear qd
        go_wp2_with fail
        refine (distance_c _ _).mono ?_
        rw [QD.out]
        rintro e w_ ⟨rfl, rfl⟩
        go_wp2_with fail
        go_returns
        refine ⟨none, 0, ?_, ?_, hW⟩
        · rw [Sp.stL_e (by rw [HE2.out]; omega), HE2.out]; rfl
        · rw [Sp.stL_e (by rw [HE2.out]; omega)]; exact Own.nil _ _ _ _ _
      obtain ⟨d0, d1⟩ := Sp.dis_iff.1 qd
      have m1 : 0 ≤ a * D j := Int.mul_nonneg a0 d0
      have m2 : 0 ≤ b * D j := Int.mul_nonneg b0 d0
      have m3 : a * D j ≤ 1000 * 8000000 := Int.mul_le_mul a1 d1 d0 (by omega)
      have m4 : b * D j ≤ 1000 * 8000000 := Int.mul_le_mul b1 d1 d0 (by omega)
      have t1 : Int.tdiv (a * D j) 6000 = a * D j / 6000 := Int.tdiv_eq_ediv_of_nonneg m1
      have t2 : Int.tdiv (b * D j) 6000 = b * D j / 6000 := Int.tdiv_eq_ediv_of_nonneg m2
      have m5 : -9223372036854775808 ≤ a * D j := by omega
      have m6 : a * D j ≤ 9223372036854775807 := by omega
      have m7 : -9223372036854775808 ≤ b * D j := by omega
      have m8 : b * D j ≤ 9223372036854775807 := by omega
      have hok2 : Sp.okD D (j + 1) = true := by rw [Sp.okD, hok.out, qd]; rfl
      have HO := Lib.hid hok2
      have QD := Lib.hid qd
      clear qd hok2 m1 m2 m3 m4
      have hsz := hW.size
      go_wp2_with fail
      refine (distance_c _ _).mono ?_
      rw [QD.out]
      rintro e w_ ⟨rfl, rfl⟩
      go_wp2_with (at_builtin; refine wpList_append_Rd _ rfl _ _ 33 rfl w.heap.size 48 i0 _ 2 16 Try.underlying33 HI.out HZ0.out HZ1.out HZ2.out rfl (by decide) rfl (own.alloc _) rfl (rd_row2 _ _ _ _ (by simp)) (one_iv _) (by omega) (by omega) (by simp; omega) ?_; intro A2 c2 w3 own' hgr hob)
      have own2 := own_sn2 own' (Sp.stT D a b) (fun _ _ _ => rfl) ⟨(show Sp.stT D a b j 0 = _ from if_pos rfl), (show Sp.stT D a b j 1 = _ from if_neg (by omega))⟩
      have hW3 : Below w.heap.size w w3 := (bal hW _).trans (below_grown hgr (fun g hg => own.base hg) (by simp; omega))
      clear own own' hgr hob hW u0
      go_wp2_with fail
      go_roundw
      case rel => exact ⟨j + 1, A2, c2, by omega, by go_num, rfl, HO, own2, hW3⟩
      case measure => simp [intOf]; omega
    · obtain rfl : j = l := by omega
      have HE2 := Lib.hid (HE.out.trans (if_pos hok.out))
      go_wp2_with fail
      go_returns
      refine ⟨A', c', ?_, ?_, hW⟩
      · rw [Sp.stL_0 HE2.out, HE2.out]; rfl
      · rw [Sp.stL_0 HE2.out]; exact own
end Go.Proofs.Ytpipjpgcnbpllaa
