/-
  The reference's Solve: its errors.
-/
import Derived.Test.YtbmfkncfenkjoaaR2
import Derived.Test.YtbmfkncfenkjoaaL6
namespace Go.Proofs.Ytbmfkncfenkjoaa
set_option linter.unusedVariables false
set_option linter.unusedSimpArgs false
open Go.RowKit
attribute [local irreducible] World.setCell World.cell?

theorem rd_far {w : World} {q : Nat} {A : Option Addr} {n c : Nat} {V : Nat → Nat → Value} (h : Rd w q A n c V) {p : Addr} (hne : ob A ≠ some p.block) (u : Value) : Rd (w.setCell p u) q A n c V :=
  ⟨h.le, h.mx, fun hn => by
    obtain ⟨b, off, e, hl, hc⟩ := h.at_ hn
    refine ⟨b, off, e, by simpa using hl, fun i j hi hj => ?_⟩
    rw [World.cell?_setCell_far w p _ u (fun z => hne (by rw [e]; simp [ob, z]))]
    exact hc i j hi hj⟩
theorem own_one1 (w : World) (t : TypeId) {base : Nat} (x : Int) (hb : base ≤ w.heap.size) : Own (w.alloc (.cells #[.int .i64 x] t)) base t 1 (some ⟨w.heap.size, 0, none⟩) 1 1 (nv fun _ => x) :=
  ⟨_, World.ownsRow_lit (size := 1) w #[.int .i64 x] 1 hb (by rw [maxLen_eq]; omega) (by simp), fun i j hi hj => by
    obtain rfl : i = 0 := by omega
    obtain rfl : j = 0 := by omega
    rfl⟩
set_option maxRecDepth 100000 in
set_option maxHeartbeats 4000000 in
theorem rsolve_no (A : Option Addr) (n : Int) (m c : Nat) (E : Ce.Tab) (w : World) (T : Rd w 3 A m c (iv E)) (n1 : -9223372036854775808 ≤ n) (n2 : n ≤ 9223372036854775807) (a b : Int) (h : Ce.en n m E a b ≠ 0) : Calls Try.prog 26 #[.agg #[.int .i64 n, .slice A m c], .int .i64 a, .int .i64 b] w fun e w' => e = .returned (.tuple #[.slice none 0 0, .slice none 0 0, .int .i64 (Ce.en n m E a b)]) ∧ Below w.heap.size w w' := by
  by_cases k0 : Ce.ck n m E = 0
  rotate_left
  · have h_ : Ce.en n m E a b ≠ 0 := by rw [Ce.en_ck k0]; exact k0
    have h1 : (Ce.ck n m E != 0) = true := by simpa using k0
    have HE := Lib.hid (show Ce.en n m E a b = _ from (Ce.en_ck k0))
    rw [HE.out]
    clear k0 h h_
    go_enter Try.func26, Try.ntmps26
    have Gb := Blk.new w 24 #[.int .i64 (n), .slice A m c]
    have hB := ba w (.cells #[.int .i64 (n), .slice A m c] 24)
    obtain ⟨c00, c01, c02, c03⟩ := Gb.open2
    go_wp2_with fail
    refine (rcheck_c _ _ _ _ _ _ (T.keep hB) n1 n2).mono ?_
    rintro e w1 ⟨rfl, hb⟩
    clear c00 c01 c02 c03
    replace Gb := Gb.keep hb
    replace hB := bt hB hb
    clear hb
    go_wp2_with fail
    go_returns
    exact ⟨rfl, hB⟩
  cases q0 : Ce.nd n a
  · have h_ : Ce.en n m E a b ≠ 0 := by rw [(Ce.en_1 (a := a) (b := b) k0 (by rw [q0]; rfl))]; decide
    have HE := Lib.hid (show Ce.en n m E a b = _ from (Ce.en_1 (a := a) (b := b) k0 (by rw [q0]; rfl)))
    rw [HE.out]
    have H := Lib.hid k0
    have Q0 := Lib.hid q0
    clear k0 h h_ q0
    go_enter Try.func26, Try.ntmps26
    have Gb := Blk.new w 24 #[.int .i64 (n), .slice A m c]
    have hB := ba w (.cells #[.int .i64 (n), .slice A m c] 24)
    obtain ⟨c00, c01, c02, c03⟩ := Gb.open2
    go_wp2_with fail
    refine (rcheck_c _ _ _ _ _ _ (T.keep hB) n1 n2).mono ?_
    rw [H.out]
    rintro e w1 ⟨rfl, hb⟩
    clear c00 c01 c02 c03
    replace Gb := Gb.keep hb
    replace hB := bt hB hb
    clear hb
    obtain ⟨c00, c01, c02, c03⟩ := Gb.open2
    go_wp2_with fail
    refine (rnode_c _ _ _ _ _ _).mono ?_
    rw [Q0.out]
    rintro e w2 ⟨rfl, hb⟩
    clear c00 c01 c02 c03
    replace Gb := Gb.keep hb
    replace hB := bt hB hb
    clear hb
    go_wp2_with fail
    go_returns
    exact ⟨rfl, hB⟩
  cases q1 : Ce.nd n b
  · have h_ : Ce.en n m E a b ≠ 0 := by rw [(Ce.en_1 (a := a) (b := b) k0 (by rw [q0, q1]; rfl))]; decide
    have HE := Lib.hid (show Ce.en n m E a b = _ from (Ce.en_1 (a := a) (b := b) k0 (by rw [q0, q1]; rfl)))
    rw [HE.out]
    have H := Lib.hid k0
    have Q0 := Lib.hid q0
    have Q1 := Lib.hid q1
    clear k0 h h_ q0 q1
    go_enter Try.func26, Try.ntmps26
    have Gb := Blk.new w 24 #[.int .i64 (n), .slice A m c]
    have hB := ba w (.cells #[.int .i64 (n), .slice A m c] 24)
    obtain ⟨c00, c01, c02, c03⟩ := Gb.open2
    go_wp2_with fail
    refine (rcheck_c _ _ _ _ _ _ (T.keep hB) n1 n2).mono ?_
    rw [H.out]
    rintro e w1 ⟨rfl, hb⟩
    clear c00 c01 c02 c03
    replace Gb := Gb.keep hb
    replace hB := bt hB hb
    clear hb
    obtain ⟨c00, c01, c02, c03⟩ := Gb.open2
    go_wp2_with fail
    refine (rnode_c _ _ _ _ _ _).mono ?_
    rw [Q0.out]
    rintro e w2 ⟨rfl, hb⟩
    clear c00 c01 c02 c03
    replace Gb := Gb.keep hb
    replace hB := bt hB hb
    clear hb
    obtain ⟨c00, c01, c02, c03⟩ := Gb.open2
    go_wp2_with fail
    refine (rnode_c _ _ _ _ _ _).mono ?_
    rw [Q1.out]
    rintro e w3 ⟨rfl, hb⟩
    clear c00 c01 c02 c03
    replace Gb := Gb.keep hb
    replace hB := bt hB hb
    clear hb
    go_wp2_with fail
    go_returns
    exact ⟨rfl, hB⟩
  exact absurd (Ce.en_0 k0 (by rw [q0, q1]; rfl)) h
end Go.Proofs.Ytbmfkncfenkjoaa
