/-
  Contracts: the coefficients of the normal equations.
-/
import Derived.Test.YtcgcocingfhleaaQ3
namespace Go.Proofs.Ytcgcocingfhleaa
set_option linter.unusedVariables false
set_option linter.unusedSimpArgs false
open Go.RowKit

theorem V_pb {M : Lq.Tab} {i : Nat} (h : Lq.V M i) : (-4096 ≤ M i 5 * M i 1 ∧ M i 5 * M i 1 ≤ 4096) ∧ (-4096 ≤ M i 5 * M i 2 ∧ M i 5 * M i 2 ≤ 4096) ∧ (-1048576 ≤ M i 5 * M i 1 * M i 1 ∧ M i 5 * M i 1 * M i 1 ≤ 1048576) ∧ (-1048576 ≤ M i 5 * M i 1 * M i 2 ∧ M i 5 * M i 1 * M i 2 ≤ 1048576) ∧ (-1048576 ≤ M i 5 * M i 2 * M i 2 ∧ M i 5 * M i 2 * M i 2 ≤ 1048576) ∧
    (-17592186044416 ≤ M i 5 * M i 1 * M i 3 ∧ M i 5 * M i 1 * M i 3 ≤ 17592186044416) ∧ (-17592186044416 ≤ M i 5 * M i 2 * M i 3 ∧ M i 5 * M i 2 * M i 3 ≤ 17592186044416) := h.fb
set_option maxRecDepth 100000 in
set_option maxHeartbeats 4000000 in
theorem normal_no (A : Option Addr) (n c : Nat) (M : Lq.Tab) (w : World) (T : Rd w 6 A n c (iv M)) (h : Lq.ck n M ≠ 0) :
    Calls Try.prog 15 #[.slice A n c] w fun e w' => e = .returned (.tuple #[.agg #[.int .i64 0, .int .i64 0, .int .i64 0, .int .i64 0, .int .i64 0], .int .i64 (Lq.ck n M)]) ∧ Below w.heap.size w w' := by
  have h1 : (Lq.ck n M != 0) = true := by simpa using h
  clear h
  go_enter Try.func15, Try.ntmps15
  have Z := Blk.new w 26 #[.int .i64 0, .int .i64 0, .int .i64 0, .int .i64 0, .int .i64 0]
  have hB := ba w (.cells #[.int .i64 0, .int .i64 0, .int .i64 0, .int .i64 0, .int .i64 0] 26)
  go_wp2_with fail
  refine (check_c _ _ _ _ _ (T.keep hB)).mono ?_
  rintro e w1 ⟨rfl, hb⟩
  replace Z := Z.keep hb
  replace hB := bt hB hb
  clear hb
  obtain ⟨r0, r1, r2, r3, r4, r5, r6⟩ := Z.open5
  go_wp2_with fail
  refine bodyPost_ret (by simp [results, Try.results15, go_sem, r0, r1, r2, r3, r4, r5, r6]; try rfl) rfl ?_
  exact ⟨rfl, by repeat (first | exact Below.refl _ _ | (with_reducible assumption) | (with_reducible apply bal) | (with_reducible apply bdr) | (with_reducible apply bdnl) | (with_reducible refine bst ?_ (by first | (simp; done) | (simp; omega) | omega) _) | (with_reducible refine bt ?_ (by with_reducible assumption)))⟩
set_option maxRecDepth 100000 in
set_option maxHeartbeats 4000000 in
theorem normal_ok (A : Option Addr) (n c : Nat) (M : Lq.Tab) (w : World) (T : Rd w 6 A n c (iv M)) (O : Lq.Ok n M) :
    Calls Try.prog 15 #[.slice A n c] w fun e w' => e = .returned (.tuple #[.agg #[.int .i64 (Lq.xx n M), .int .i64 (Lq.xy n M), .int .i64 (Lq.yy n M), .int .i64 (Lq.xz n M), .int .i64 (Lq.yz n M)], .int .i64 0]) ∧ Below w.heap.size w w' := by
  have r1 := T.le
  have r2 := T.mx
  have hck := Lib.hid (Lq.ck_ok.2 O)
  obtain ⟨bxx, bxy, byy, bxz, byz⟩ := O.bd
  have Bxx := Lib.hid bxx
  have Bxy := Lib.hid bxy
  have Byy := Lib.hid byy
  have Bxz := Lib.hid bxz
  have Byz := Lib.hid byz
  clear bxx bxy byy bxz byz
  go_enter Try.func15, Try.ntmps15
  have Z := Blk.new w 26 #[.int .i64 0, .int .i64 0, .int .i64 0, .int .i64 0, .int .i64 0]
  have hB := ba w (.cells #[.int .i64 0, .int .i64 0, .int .i64 0, .int .i64 0, .int .i64 0] 26)
  go_wp2_with fail
  refine (check_c _ _ _ _ _ (T.keep hB)).mono ?_
  rw [hck.out]
  rintro e w1 ⟨rfl, hb⟩
  replace Z := Z.keep hb
  replace hB := bt hB hb
  have hz1 := hB.size
  have lZ := Z.lt
  clear hb
  replace Z := Z.alloc (.cells #[.int .i64 0, .int .i64 0, .int .i64 0, .int .i64 0, .int .i64 0] 26)
  replace hB := bal hB (.cells #[.int .i64 0, .int .i64 0, .int .i64 0, .int .i64 0, .int .i64 0] 26)
  have N := Blk.new w1 26 #[.int .i64 0, .int .i64 0, .int .i64 0, .int .i64 0, .int .i64 0]
  go_wp2_with fail
  go_loopw [16] (fun i wr => ∃ k : Nat, k ≤ n ∧ i = .int .i64 k ∧ Blk wr w1.heap.size 26 #[.int .i64 (Lq.xx k M), .int .i64 (Lq.xy k M), .int .i64 (Lq.yy k M), .int .i64 (Lq.xz k M), .int .i64 (Lq.yz k M)] ∧ Blk wr w.heap.size 26 #[.int .i64 0, .int .i64 0, .int .i64 0, .int .i64 0, .int .i64 0] ∧ Below w.heap.size w wr) (fun i _ => n - (intOf i).toNat)
  case atStart => exact ⟨0, Nat.zero_le _, rfl, N, Z, hB⟩
  case round =>
    clear N Z hB
    rename_i wr
    obtain ⟨k, hk, rfl, N, Z, hB⟩ := hrel
    by_cases hlt : k < n
    · obtain ⟨b, off, eA, hbl, u0, u1, u2, u3, u4, u5⟩ := (T.keep hB).at6 hlt
      have HA := Lib.hid eA
      rw [HA.out]
      clear eA
      have v := O.v k hlt
      obtain ⟨p1, p2, p3, p4, p5, p6, p7⟩ := V_pb v
      obtain ⟨s1a, s1b⟩ : -16777216 ≤ Lq.xx k M + M k 5 * M k 1 * M k 1 ∧ Lq.xx k M + M k 5 * M k 1 * M k 1 ≤ 16777216 := Bxx.out (k + 1) (by omega)
      obtain ⟨s2a, s2b⟩ : -16777216 ≤ Lq.xy k M + M k 5 * M k 1 * M k 2 ∧ Lq.xy k M + M k 5 * M k 1 * M k 2 ≤ 16777216 := Bxy.out (k + 1) (by omega)
      obtain ⟨s3a, s3b⟩ : -16777216 ≤ Lq.yy k M + M k 5 * M k 2 * M k 2 ∧ Lq.yy k M + M k 5 * M k 2 * M k 2 ≤ 16777216 := Byy.out (k + 1) (by omega)
      obtain ⟨s4a, s4b⟩ : -281474976710656 ≤ Lq.xz k M + M k 5 * M k 1 * M k 3 ∧ Lq.xz k M + M k 5 * M k 1 * M k 3 ≤ 281474976710656 := Bxz.out (k + 1) (by omega)
      obtain ⟨s5a, s5b⟩ : -281474976710656 ≤ Lq.yz k M + M k 5 * M k 2 * M k 3 ∧ Lq.yz k M + M k 5 * M k 2 * M k 3 ≤ 281474976710656 := Byz.out (k + 1) (by omega)
      clear v
      have lN := N.lt
      have lZ := Z.lt
      obtain ⟨c0, c1, c2, c3, c4, c5, c6⟩ := N.open5
      go_wp2_with fail
      clear c0 c1 c2 c3 c4 c5 c6
      replace Z := Z.far (p := ⟨w1.heap.size, 0, none⟩) (by first | (simp; done) | (simp; omega) | omega) (.int .i64 (Lq.xx k M + M k 5 * M k 1 * M k 1))
      replace hB := bst hB (p := ⟨w1.heap.size, 0, none⟩) (by first | (simp; done) | (simp; omega) | omega) (.int .i64 (Lq.xx k M + M k 5 * M k 1 * M k 1))
      replace N := N.set_ 0 (.int .i64 (Lq.xx k M + M k 5 * M k 1 * M k 1))
      replace Z := Z.far (p := ⟨w1.heap.size, 1, none⟩) (by first | (simp; done) | (simp; omega) | omega) (.int .i64 (Lq.xy k M + M k 5 * M k 1 * M k 2))
      replace hB := bst hB (p := ⟨w1.heap.size, 1, none⟩) (by first | (simp; done) | (simp; omega) | omega) (.int .i64 (Lq.xy k M + M k 5 * M k 1 * M k 2))
      replace N := N.set_ 1 (.int .i64 (Lq.xy k M + M k 5 * M k 1 * M k 2))
      replace Z := Z.far (p := ⟨w1.heap.size, 2, none⟩) (by first | (simp; done) | (simp; omega) | omega) (.int .i64 (Lq.yy k M + M k 5 * M k 2 * M k 2))
      replace hB := bst hB (p := ⟨w1.heap.size, 2, none⟩) (by first | (simp; done) | (simp; omega) | omega) (.int .i64 (Lq.yy k M + M k 5 * M k 2 * M k 2))
      replace N := N.set_ 2 (.int .i64 (Lq.yy k M + M k 5 * M k 2 * M k 2))
      replace Z := Z.far (p := ⟨w1.heap.size, 3, none⟩) (by first | (simp; done) | (simp; omega) | omega) (.int .i64 (Lq.xz k M + M k 5 * M k 1 * M k 3))
      replace hB := bst hB (p := ⟨w1.heap.size, 3, none⟩) (by first | (simp; done) | (simp; omega) | omega) (.int .i64 (Lq.xz k M + M k 5 * M k 1 * M k 3))
      replace N := N.set_ 3 (.int .i64 (Lq.xz k M + M k 5 * M k 1 * M k 3))
      replace Z := Z.far (p := ⟨w1.heap.size, 4, none⟩) (by first | (simp; done) | (simp; omega) | omega) (.int .i64 (Lq.yz k M + M k 5 * M k 2 * M k 3))
      replace hB := bst hB (p := ⟨w1.heap.size, 4, none⟩) (by first | (simp; done) | (simp; omega) | omega) (.int .i64 (Lq.yz k M + M k 5 * M k 2 * M k 3))
      replace N := N.set_ 4 (.int .i64 (Lq.yz k M + M k 5 * M k 2 * M k 3))
      simp only [List.setIfInBounds_toArray, List.set_cons_zero, List.set_cons_succ] at N
      replace N := N.alloc (.cells #[.int .i64 (M k 0), .int .i64 (M k 1), .int .i64 (M k 2), .int .i64 (M k 3), .int .i64 (M k 4), .int .i64 (M k 5)] 43)
      replace Z := Z.alloc (.cells #[.int .i64 (M k 0), .int .i64 (M k 1), .int .i64 (M k 2), .int .i64 (M k 3), .int .i64 (M k 4), .int .i64 (M k 5)] 43)
      replace hB := bal hB (.cells #[.int .i64 (M k 0), .int .i64 (M k 1), .int .i64 (M k 2), .int .i64 (M k 3), .int .i64 (M k 4), .int .i64 (M k 5)] 43)
      go_roundw
      case rel => exact ⟨k + 1, by omega, by go_num, N, Z, hB⟩
      case measure => simp [intOf]; omega
    · obtain rfl : k = n := by omega
      obtain ⟨c0, c1, c2, c3, c4, c5, c6⟩ := N.open5
      obtain ⟨r0, r1, r2, r3, r4, r5, r6⟩ := Z.open5
      go_wp2_with fail
      refine bodyPost_ret (by simp [results, Try.results15, go_sem, r0, r1, r2, r3, r4, r5, r6]; try rfl) rfl ?_
      exact ⟨rfl, by repeat (first | exact Below.refl _ _ | (with_reducible assumption) | (with_reducible apply bal) | (with_reducible apply bdr) | (with_reducible apply bdnl) | (with_reducible refine bst ?_ (by first | (simp; done) | (simp; omega) | omega) _) | (with_reducible refine bt ?_ (by with_reducible assumption)))⟩
set_option maxRecDepth 100000 in
set_option maxHeartbeats 4000000 in
theorem rnormal_no (A : Option Addr) (n c : Nat) (M : Lq.Tab) (w : World) (T : Rd w 6 A n c (iv M)) (h : Lq.ck n M ≠ 0) :
    Calls Try.prog 16 #[.slice A n c] w fun e w' => e = .returned (.tuple #[.agg #[.int .i64 0, .int .i64 0, .int .i64 0, .int .i64 0, .int .i64 0], .int .i64 (Lq.ck n M)]) ∧ Below w.heap.size w w' := by
  have h1 : (Lq.ck n M != 0) = true := by simpa using h
  clear h
  go_enter Try.func16, Try.ntmps16
  have Z := Blk.new w 26 #[.int .i64 0, .int .i64 0, .int .i64 0, .int .i64 0, .int .i64 0]
  have hB := ba w (.cells #[.int .i64 0, .int .i64 0, .int .i64 0, .int .i64 0, .int .i64 0] 26)
  go_wp2_with fail
  refine (rcheck_c _ _ _ _ _ (T.keep hB)).mono ?_
  rintro e w1 ⟨rfl, hb⟩
  replace Z := Z.keep hb
  replace hB := bt hB hb
  clear hb
  obtain ⟨r0, r1, r2, r3, r4, r5, r6⟩ := Z.open5
  go_wp2_with fail
  refine bodyPost_ret (by simp [results, Try.results16, go_sem, r0, r1, r2, r3, r4, r5, r6]; try rfl) rfl ?_
  exact ⟨rfl, by repeat (first | exact Below.refl _ _ | (with_reducible assumption) | (with_reducible apply bal) | (with_reducible apply bdr) | (with_reducible apply bdnl) | (with_reducible refine bst ?_ (by first | (simp; done) | (simp; omega) | omega) _) | (with_reducible refine bt ?_ (by with_reducible assumption)))⟩
set_option maxRecDepth 100000 in
set_option maxHeartbeats 4000000 in
theorem rnormal_ok (A : Option Addr) (n c : Nat) (M : Lq.Tab) (w : World) (T : Rd w 6 A n c (iv M)) (O : Lq.Ok n M) :
    Calls Try.prog 16 #[.slice A n c] w fun e w' => e = .returned (.tuple #[.agg #[.int .i64 (Lq.xx n M), .int .i64 (Lq.xy n M), .int .i64 (Lq.yy n M), .int .i64 (Lq.xz n M), .int .i64 (Lq.yz n M)], .int .i64 0]) ∧ Below w.heap.size w w' := by
  have r1 := T.le
  have r2 := T.mx
  have hck := Lib.hid (Lq.ck_ok.2 O)
  obtain ⟨bxx, bxy, byy, bxz, byz⟩ := O.bd
  have Bxx := Lib.hid bxx
  have Bxy := Lib.hid bxy
  have Byy := Lib.hid byy
  have Bxz := Lib.hid bxz
  have Byz := Lib.hid byz
  clear bxx bxy byy bxz byz
  go_enter Try.func16, Try.ntmps16
  have Z := Blk.new w 26 #[.int .i64 0, .int .i64 0, .int .i64 0, .int .i64 0, .int .i64 0]
  have hB := ba w (.cells #[.int .i64 0, .int .i64 0, .int .i64 0, .int .i64 0, .int .i64 0] 26)
  go_wp2_with fail
  refine (rcheck_c _ _ _ _ _ (T.keep hB)).mono ?_
  rw [hck.out]
  rintro e w1 ⟨rfl, hb⟩
  replace Z := Z.keep hb
  replace hB := bt hB hb
  have hz1 := hB.size
  have lZ := Z.lt
  clear hb
  replace Z := Z.alloc (.cells #[.int .i64 0, .int .i64 0, .int .i64 0, .int .i64 0, .int .i64 0] 26)
  replace hB := bal hB (.cells #[.int .i64 0, .int .i64 0, .int .i64 0, .int .i64 0, .int .i64 0] 26)
  have N := Blk.new w1 26 #[.int .i64 0, .int .i64 0, .int .i64 0, .int .i64 0, .int .i64 0]
  go_wp2_with fail
  go_loopw [17] (fun i wr => ∃ k : Nat, k ≤ n ∧ i = .int .i64 k ∧ Blk wr w1.heap.size 26 #[.int .i64 (Lq.xx k M), .int .i64 (Lq.xy k M), .int .i64 (Lq.yy k M), .int .i64 (Lq.xz k M), .int .i64 (Lq.yz k M)] ∧ Blk wr w.heap.size 26 #[.int .i64 0, .int .i64 0, .int .i64 0, .int .i64 0, .int .i64 0] ∧ Below w.heap.size w wr) (fun i _ => n - (intOf i).toNat)
  case atStart => exact ⟨0, Nat.zero_le _, rfl, N, Z, hB⟩
  case round =>
    clear N Z hB
    rename_i wr
    obtain ⟨k, hk, rfl, N, Z, hB⟩ := hrel
    by_cases hlt : k < n
    · obtain ⟨b, off, eA, hbl, u0, u1, u2, u3, u4, u5⟩ := (T.keep hB).at6 hlt
      have HA := Lib.hid eA
      rw [HA.out]
      clear eA
      have v := O.v k hlt
      obtain ⟨p1, p2, p3, p4, p5, p6, p7⟩ := V_pb v
      obtain ⟨s1a, s1b⟩ : -16777216 ≤ Lq.xx k M + M k 5 * M k 1 * M k 1 ∧ Lq.xx k M + M k 5 * M k 1 * M k 1 ≤ 16777216 := Bxx.out (k + 1) (by omega)
      obtain ⟨s2a, s2b⟩ : -16777216 ≤ Lq.xy k M + M k 5 * M k 1 * M k 2 ∧ Lq.xy k M + M k 5 * M k 1 * M k 2 ≤ 16777216 := Bxy.out (k + 1) (by omega)
      obtain ⟨s3a, s3b⟩ : -16777216 ≤ Lq.yy k M + M k 5 * M k 2 * M k 2 ∧ Lq.yy k M + M k 5 * M k 2 * M k 2 ≤ 16777216 := Byy.out (k + 1) (by omega)
      obtain ⟨s4a, s4b⟩ : -281474976710656 ≤ Lq.xz k M + M k 5 * M k 1 * M k 3 ∧ Lq.xz k M + M k 5 * M k 1 * M k 3 ≤ 281474976710656 := Bxz.out (k + 1) (by omega)
      obtain ⟨s5a, s5b⟩ : -281474976710656 ≤ Lq.yz k M + M k 5 * M k 2 * M k 3 ∧ Lq.yz k M + M k 5 * M k 2 * M k 3 ≤ 281474976710656 := Byz.out (k + 1) (by omega)
      clear v
      have lN := N.lt
      have lZ := Z.lt
      obtain ⟨c0, c1, c2, c3, c4, c5, c6⟩ := N.open5
      go_wp2_with fail
      clear c0 c1 c2 c3 c4 c5 c6
      replace Z := Z.far (p := ⟨w1.heap.size, 0, none⟩) (by first | (simp; done) | (simp; omega) | omega) (.int .i64 (Lq.xx k M + M k 5 * M k 1 * M k 1))
      replace hB := bst hB (p := ⟨w1.heap.size, 0, none⟩) (by first | (simp; done) | (simp; omega) | omega) (.int .i64 (Lq.xx k M + M k 5 * M k 1 * M k 1))
      replace N := N.set_ 0 (.int .i64 (Lq.xx k M + M k 5 * M k 1 * M k 1))
      replace Z := Z.far (p := ⟨w1.heap.size, 1, none⟩) (by first | (simp; done) | (simp; omega) | omega) (.int .i64 (Lq.xy k M + M k 5 * M k 1 * M k 2))
      replace hB := bst hB (p := ⟨w1.heap.size, 1, none⟩) (by first | (simp; done) | (simp; omega) | omega) (.int .i64 (Lq.xy k M + M k 5 * M k 1 * M k 2))
      replace N := N.set_ 1 (.int .i64 (Lq.xy k M + M k 5 * M k 1 * M k 2))
      replace Z := Z.far (p := ⟨w1.heap.size, 2, none⟩) (by first | (simp; done) | (simp; omega) | omega) (.int .i64 (Lq.yy k M + M k 5 * M k 2 * M k 2))
      replace hB := bst hB (p := ⟨w1.heap.size, 2, none⟩) (by first | (simp; done) | (simp; omega) | omega) (.int .i64 (Lq.yy k M + M k 5 * M k 2 * M k 2))
      replace N := N.set_ 2 (.int .i64 (Lq.yy k M + M k 5 * M k 2 * M k 2))
      replace Z := Z.far (p := ⟨w1.heap.size, 3, none⟩) (by first | (simp; done) | (simp; omega) | omega) (.int .i64 (Lq.xz k M + M k 5 * M k 1 * M k 3))
      replace hB := bst hB (p := ⟨w1.heap.size, 3, none⟩) (by first | (simp; done) | (simp; omega) | omega) (.int .i64 (Lq.xz k M + M k 5 * M k 1 * M k 3))
      replace N := N.set_ 3 (.int .i64 (Lq.xz k M + M k 5 * M k 1 * M k 3))
      replace Z := Z.far (p := ⟨w1.heap.size, 4, none⟩) (by first | (simp; done) | (simp; omega) | omega) (.int .i64 (Lq.yz k M + M k 5 * M k 2 * M k 3))
      replace hB := bst hB (p := ⟨w1.heap.size, 4, none⟩) (by first | (simp; done) | (simp; omega) | omega) (.int .i64 (Lq.yz k M + M k 5 * M k 2 * M k 3))
      replace N := N.set_ 4 (.int .i64 (Lq.yz k M + M k 5 * M k 2 * M k 3))
      simp only [List.setIfInBounds_toArray, List.set_cons_zero, List.set_cons_succ] at N
      replace N := N.alloc (.cells #[.int .i64 (M k 0), .int .i64 (M k 1), .int .i64 (M k 2), .int .i64 (M k 3), .int .i64 (M k 4), .int .i64 (M k 5)] 43)
      replace Z := Z.alloc (.cells #[.int .i64 (M k 0), .int .i64 (M k 1), .int .i64 (M k 2), .int .i64 (M k 3), .int .i64 (M k 4), .int .i64 (M k 5)] 43)
      replace hB := bal hB (.cells #[.int .i64 (M k 0), .int .i64 (M k 1), .int .i64 (M k 2), .int .i64 (M k 3), .int .i64 (M k 4), .int .i64 (M k 5)] 43)
      go_roundw
      case rel => exact ⟨k + 1, by omega, by go_num, N, Z, hB⟩
      case measure => simp [intOf]; omega
    · obtain rfl : k = n := by omega
      obtain ⟨c0, c1, c2, c3, c4, c5, c6⟩ := N.open5
      obtain ⟨r0, r1, r2, r3, r4, r5, r6⟩ := Z.open5
      go_wp2_with fail
      refine bodyPost_ret (by simp [results, Try.results16, go_sem, r0, r1, r2, r3, r4, r5, r6]; try rfl) rfl ?_
      exact ⟨rfl, by repeat (first | exact Below.refl _ _ | (with_reducible assumption) | (with_reducible apply bal) | (with_reducible apply bdr) | (with_reducible apply bdnl) | (with_reducible refine bst ?_ (by first | (simp; done) | (simp; omega) | omega) _) | (with_reducible refine bt ?_ (by with_reducible assumption)))⟩
end Go.Proofs.Ytcgcocingfhleaa
