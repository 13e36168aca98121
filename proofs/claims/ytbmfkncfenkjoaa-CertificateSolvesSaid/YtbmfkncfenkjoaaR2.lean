/-
  Contracts: the reference's Potentials.
-/
import Derived.Test.YtbmfkncfenkjoaaR1
import Derived.Test.YtbmfkncfenkjoaaL5
import Derived.Test.YtbmfkncfenkjoaaW1
namespace Go.Proofs.Ytbmfkncfenkjoaa
set_option linter.unusedVariables false
set_option linter.unusedSimpArgs false
open Go.RowKit
attribute [local irreducible] World.setCell World.cell?

set_option maxRecDepth 100000 in
set_option maxHeartbeats 4000000 in
theorem rpots_no (A : Option Addr) (n : Int) (m c : Nat) (E : Ce.Tab) (w : World) (T : Rd w 3 A m c (iv E)) (n1 : -9223372036854775808 ≤ n) (n2 : n ≤ 9223372036854775807) (a : Int) (h : Ce.en n m E a a ≠ 0) : Calls Try.prog 23 #[.agg #[.int .i64 n, .slice A m c], .int .i64 a] w fun e w' => e = .returned (.tuple #[.slice none 0 0, .int .i64 (Ce.en n m E a a)]) ∧ Below w.heap.size w w' := by
  by_cases k0 : Ce.ck n m E = 0
  rotate_left
  · have h1 : (Ce.ck n m E != 0) = true := by simpa using k0
    have HE := Lib.hid (Ce.en_ck (a := a) (b := a) k0)
    rw [HE.out]
    clear k0 h
    go_enter Try.func23, Try.ntmps23
    have Gb := Blk.new w 24 #[.int .i64 (n), .slice A m c]
    have hB := ba w (.cells #[.int .i64 (n), .slice A m c] 24)
    obtain ⟨c00, c01, c02, c03⟩ := Gb.open2
    go_wp2_with fail
    refine (rcheck_c _ _ _ _ _ _ (T.keep hB) n1 n2).mono ?_
    rintro e w1 ⟨rfl, hb⟩
    clear c00 c01 c02 c03
    replace Gb := Gb.keep hb
    replace hB := bt hB hb
    clear hb
    go_wp2_with fail
    go_returns
    exact ⟨rfl, hB⟩
  have q0 : Ce.nd n a = false := by
    cases q : Ce.nd n a
    · rfl
    · exact absurd (Ce.en_0 k0 (a := a) (b := a) (by rw [q]; rfl)) h
  have HE := Lib.hid (Ce.en_1 (a := a) (b := a) k0 (by rw [q0]; rfl))
  rw [HE.out]
  have H := Lib.hid k0
  have Q0 := Lib.hid q0
  clear k0 q0 h
  go_enter Try.func23, Try.ntmps23
  have Gb := Blk.new w 24 #[.int .i64 (n), .slice A m c]
  have hB := ba w (.cells #[.int .i64 (n), .slice A m c] 24)
  obtain ⟨c00, c01, c02, c03⟩ := Gb.open2
  go_wp2_with fail
  refine (rcheck_c _ _ _ _ _ _ (T.keep hB) n1 n2).mono ?_
  rw [H.out]
  rintro e w1 ⟨rfl, hb⟩
  clear c00 c01 c02 c03
  replace Gb := Gb.keep hb
  replace hB := bt hB hb
  clear hb
  obtain ⟨c00, c01, c02, c03⟩ := Gb.open2
  go_wp2_with fail
  refine (rnode_c _ _ _ _ _ _).mono ?_
  rw [Q0.out]
  rintro e w2 ⟨rfl, hb⟩
  clear c00 c01 c02 c03
  replace Gb := Gb.keep hb
  replace hB := bt hB hb
  clear hb
  go_wp2_with fail
  go_returns
  exact ⟨rfl, hB⟩
set_option maxRecDepth 100000 in
set_option maxHeartbeats 4000000 in
theorem rpots_ok (A : Option Addr) (n m c : Nat) (E : Ce.Tab) (s : Nat) (w : World) (T : Rd w 3 A m c (iv E)) (O : Ce.Ok (n : Int) m E) (hs : s < n) : Calls Try.prog 23 #[.agg #[.int .i64 (n : Int), .slice A m c], .int .i64 (s : Int)] w fun e w' => ∃ (A' : Option Addr) (c' : Nat) (C D : Nat → Int), Hid (Ce.Lab n m E s C D) ∧ e = .returned (.tuple #[.slice A' n c', .int .i64 0]) ∧ Rd w' 1 A' n c' (nv C) ∧ Below w.heap.size w w' := by
  have o1 := O.n1
  have o2 := O.n2
  have o3 := O.hm
  have hn2 : n ≤ 512 := by omega
  have HCK := Lib.hid (Ce.ck_ok.2 O)
  have ND := Lib.hid (show Ce.nd (n : Int) (s : Int) = true from Ce.nd_iff.2 ⟨by omega, by omega⟩)
  go_enter Try.func23, Try.ntmps23
  try simp only [List.append_eq, List.cons_append, List.nil_append]
  have Gb := Blk.new w 24 #[.int .i64 (n), .slice A m c]
  have hB := ba w (.cells #[.int .i64 (n), .slice A m c] 24)
  obtain ⟨c00, c01, c02, c03⟩ := Gb.open2
  go_wp2_with fail
  refine (rcheck_c _ _ _ _ _ _ (T.keep hB) (by omega) (by omega)).mono ?_
  rw [HCK.out]
  rintro e w1 ⟨rfl, hb⟩
  clear c00 c01 c02 c03
  replace Gb := Gb.keep hb
  replace hB := bt hB hb
  clear hb
  obtain ⟨c00, c01, c02, c03⟩ := Gb.open2
  go_wp2_with fail
  refine (rnode_c _ _ _ _ _ _).mono ?_
  rw [ND.out]
  rintro e w2 ⟨rfl, hb⟩
  clear c00 c01 c02 c03
  replace Gb := Gb.keep hb
  replace hB := bt hB hb
  clear hb
  obtain ⟨c00, c01, c02, c03⟩ := Gb.open2
  have hsw := hB.size
  go_wp2_with fail
  refine (rlabels_c _ n m c E s _ (T.keep hB) O hs).mono ?_
  rintro e wS ⟨C, D, gc, gd, HBf, HL, rfl, hne, q1, q2, hb⟩
  clear c00 c01 c02 c03
  replace Gb := Gb.keep hb
  replace hB := bt hB hb
  have hsz := hb.size
  clear hb
  clear Gb q2
  have FB := Lib.hid (fun (v : Nat) (hv : v < n) => HBf.out.ab hn2 hv)
  go_wp2_with fail
  generalize hBS : w2.heap.size = BASE at q1 hsz hsw
  go_loopw [27] (fun i wr => ∃ k : Nat, k ≤ n ∧ i = .int .i64 k ∧ Own wr BASE 2 1 (some ⟨gc, 0, none⟩) n n (nv fun v => if v < k then Ce.fin C v else C v) ∧ Below BASE wS wr) (fun i _ => n - (intOf i).toNat)
  case atStart => exact ⟨0, Nat.zero_le _, rfl, q1.congr (fun a j _ _ => by simp [nv]), Below.refl _ _⟩
  case round =>
    clear q1
    obtain ⟨k, hk, rfl, q1, hW⟩ := hrel
    by_cases hlt : k < n
    · have y1 := q1.num hlt (x := C k) (by simp)
      have y2 := q1.frozen
      have y3 := q1.lt1
      have fb := FB.out k hlt
      by_cases hN : C k = 4611686018427387904
      · have h1 : (C k == 4611686018427387904) = true := by simpa using hN
        have Q1 := Lib.hid ((q1.up1 hlt (-1)).congr (V' := nv (fun v => if v < k + 1 then Ce.fin C v else C v)) (fun i j _ _ => by
          unfold nv; simp only [Ce.up]; congr 1
          by_cases e : i = k
          · subst e; rw [if_pos rfl, if_pos (by omega)]; unfold Ce.fin; rw [if_pos hN]
          · rw [if_neg e]; (repeat' split) <;> first | rfl | omega))
        have HW := Lib.hid (hW.setCell (p := ⟨gc, k, none⟩) (q1.base rfl) (.int .i64 (-1)))
        clear hN
        go_wp2_with fail
        go_roundw
        case rel => exact ⟨k + 1, by omega, by go_num, Q1.out, HW.out⟩
        case measure => simp [intOf]; omega
      · have h1 : (C k == 4611686018427387904) = false := by simpa using hN
        have Q1 := Lib.hid (q1.congr (V' := nv (fun v => if v < k + 1 then Ce.fin C v else C v)) (fun i j _ _ => by
          unfold nv; congr 1
          show (if i < k then Ce.fin C i else C i) = (if i < k + 1 then Ce.fin C i else C i)
          by_cases e : i = k
          · subst e; rw [if_neg (by omega), if_pos (by omega)]; unfold Ce.fin; rw [if_neg hN]
          · (repeat' split) <;> first | rfl | omega))
        clear hN
        go_wp2_with fail
        go_roundw
        case rel => exact ⟨k + 1, by omega, by go_num, Q1.out, hW⟩
        case measure => simp [intOf]; omega
    · obtain rfl : k = n := by omega
      have RR := q1.rd.congr (V' := nv (Ce.fin C)) (fun i j hi _ => by unfold nv; simp only [hi, if_true])
      have HBB := hB.trans (hW.mono hsw)
      go_wp2_with fail
      go_returns
      exact ⟨some ⟨gc, 0, none⟩, k, Ce.fin C, D, HL, rfl, RR, HBB⟩
end Go.Proofs.Ytbmfkncfenkjoaa
