/-
  Contracts: Potentials.
-/
import Derived.Test.YtbmfkncfenkjoaaL2
import Derived.Test.YtbmfkncfenkjoaaW3
namespace Go.Proofs.Ytbmfkncfenkjoaa
set_option linter.unusedVariables false
set_option linter.unusedSimpArgs false
open Go.RowKit
attribute [local irreducible] World.setCell World.cell?

theorem rd_num (w : World) (t : TypeId) (x : Int) {H : Nat} (hH : w.heap.size = H) : Rd (w.alloc (.cells #[.int .i64 x] t)) 1 (some ⟨H, 0, none⟩) 1 1 (nv fun _ => x) := by
  subst hH
  exact Rd.of_blk (Blk.new w t _) (Nat.le_refl _) (by omega) fun i j hi hj => by
    obtain rfl : i = 0 := by omega
    obtain rfl : j = 0 := by omega
    rfl
theorem own_num {w : World} {b : Nat} {e : TypeId} {A : Option Addr} {j c : Nat} {R : Nat → Int} {x : Int} (h : Own w b e 1 A (j + 1) c (app j (nv R) (nv fun _ => x))) (hx : R j = x) : Own w b e 1 A (j + 1) c (nv R) :=
  h.congr fun i f hi _ => by
    unfold app
    split
    · rfl
    · obtain rfl : i = j := by omega
      unfold nv; rw [hx]
theorem Rd.lab {w : World} {g n c : Nat} {C D : Nat → Int} {F : Nat → Bool} (h : Rd w 3 (some ⟨g, 0, none⟩) n c (lv C D F)) {i : Nat} (hi : i < n) :
    w.cell? ⟨g, i * 3, none⟩ = some (.int .i64 (C i)) ∧ w.cell? ⟨g, i * 3 + 1, none⟩ = some (.int .i64 (D i)) ∧ w.cell? ⟨g, i * 3 + 2, none⟩ = some (.bool (F i)) ∧ g < w.heap.size := by
  obtain ⟨b, off, e, hl, hc⟩ := h.at_ (by omega)
  injection e with e
  injection e with e1 e2
  subst e1 e2
  have := hc i 0 hi (by omega)
  have := hc i 1 hi (by omega)
  have := hc i 2 hi (by omega)
  simp only [Nat.zero_add, Nat.add_zero] at *
  exact ⟨by assumption, by assumption, by assumption, hl⟩
set_option maxRecDepth 100000 in
set_option maxHeartbeats 4000000 in
theorem pots_no (A : Option Addr) (n : Int) (m c : Nat) (E : Ce.Tab) (w : World) (T : Rd w 3 A m c (iv E)) (n1 : -9223372036854775808 ≤ n) (n2 : n ≤ 9223372036854775807) (a : Int) (h : Ce.en n m E a a ≠ 0) : Calls Try.prog 22 #[.agg #[.int .i64 n, .slice A m c], .int .i64 a] w fun e w' => e = .returned (.tuple #[.slice none 0 0, .int .i64 (Ce.en n m E a a)]) ∧ Below w.heap.size w w' := by
  have h1 : (Ce.en n m E a a != 0) = true := by simpa using h
  clear h
  go_enter Try.func22, Try.ntmps22
  have Gb := Blk.new w 24 #[.int .i64 (n), .slice A m c]
  have hB := ba w (.cells #[.int .i64 (n), .slice A m c] 24)
  obtain ⟨c00, c01, c02, c03⟩ := Gb.open2
  go_wp2_with fail
  refine (ends_c _ _ _ _ _ _ (T.keep hB) n1 n2 _ _).mono ?_
  rintro e w1 ⟨rfl, hb⟩
  clear c00 c01 c02 c03
  replace Gb := Gb.keep hb
  replace hB := bt hB hb
  clear hb
  go_wp2_with fail
  go_returns
  exact ⟨rfl, hB⟩
set_option maxRecDepth 100000 in
set_option maxHeartbeats 4000000 in
theorem pots_ok (A : Option Addr) (n m c : Nat) (E : Ce.Tab) (s : Nat) (w : World) (T : Rd w 3 A m c (iv E)) (O : Ce.Ok (n : Int) m E) (hs : s < n) : Calls Try.prog 22 #[.agg #[.int .i64 (n : Int), .slice A m c], .int .i64 (s : Int)] w fun e w' => ∃ (A' : Option Addr) (c' : Nat) (C D : Nat → Int), Hid (Ce.Lab n m E s C D) ∧ e = .returned (.tuple #[.slice A' n c', .int .i64 0]) ∧ Rd w' 1 A' n c' (nv C) ∧ Below w.heap.size w w' := by
  have o1 := O.n1
  have o2 := O.n2
  have hn2 : n ≤ 512 := by omega
  have HEN := Lib.hid (Ce.en_ok.2 (⟨O, by omega, by omega, by omega, by omega⟩ : Ce.En (n : Int) m E (s : Int) (s : Int)))
  obtain ⟨i0, hi, hz0, hz1, hz2⟩ := info_parts infoI6
  have HI := Lib.hid hi
  have HZ0 := Lib.hid hz0
  have HZ1 := Lib.hid hz1
  have HZ2 := Lib.hid hz2
  clear hi hz0 hz1 hz2
  go_enter Try.func22, Try.ntmps22
  have Gb := Blk.new w 24 #[.int .i64 (n), .slice A m c]
  have hB := ba w (.cells #[.int .i64 (n), .slice A m c] 24)
  obtain ⟨c00, c01, c02, c03⟩ := Gb.open2
  go_wp2_with fail
  refine (ends_c _ _ _ _ _ _ (T.keep hB) (by omega) (by omega) _ _).mono ?_
  rw [HEN.out]
  rintro e w1 ⟨rfl, hb⟩
  clear c00 c01 c02 c03
  replace Gb := Gb.keep hb
  replace hB := bt hB hb
  clear hb
  obtain ⟨c00, c01, c02, c03⟩ := Gb.open2
  go_wp2_with fail
  refine (labels_c _ n m c E s _ (T.keep hB) O hs).mono ?_
  rintro e w2 ⟨C, D, F, HL, rfl, R, hb⟩
  replace hB := bt hB hb
  clear hb c00 c01 c02 c03 Gb
  generalize w1.heap.size + 1 = gL at R ⊢
  go_wp2_with fail
  go_loopw [7, 21] (fun s_ i wr => ∃ (j : Nat) (A' : Option Addr) (c' : Nat), j ≤ n ∧ i = .int .i64 j ∧ s_ = .slice A' j c' ∧ Own wr w2.heap.size 2 1 A' j c' (nv C) ∧ Below w2.heap.size w2 wr) (fun _ i _ => n - (intOf i).toNat)
  case atStart => exact ⟨0, none, 0, Nat.zero_le _, rfl, rfl, Own.nil _ _ _ _ _, Below.refl _ _⟩
  case round =>
    obtain ⟨j, A', c', hj, rfl, rfl, own, hW⟩ := hrel
    by_cases hlt : j < n
    · have hsz := hW.size
      obtain ⟨y0, y1, y2, y3⟩ := (R.keep hW).lab hlt
      replace hW := bal hW (.cells #[.int .i64 (C j), .int .i64 (D j), .bool (F j)] 70)
      have X := Blk.new wr 70 #[.int .i64 (C j), .int .i64 (D j), .bool (F j)]
      obtain ⟨x0, x1, x2, x3, x4⟩ := X.open3
      go_wp2_with (at_builtin; refine wpList_append_Rd _ rfl _ _ 34 rfl w2.heap.size 2 i0 _ 1 8 Try.underlying34 HI.out HZ0.out HZ1.out HZ2.out rfl (by decide) rfl ((own.alloc _).alloc _) rfl (rd_num _ _ _ (by simp)) (one_nv _) (by omega) (by omega) (by simp; omega) ?_; intro A2 c2 w3 own' hgr hob)
      have own2 := own_num own' rfl
      have hW2 : Below w2.heap.size w2 w3 := (bal hW _).trans (below_grown hgr (fun g hg => by have := own.base hg; omega) (by simp; omega))
      clear own own' hgr hob hW y0 y1 y2 y3 x0 x1 x2 x3 x4 X
      go_wp2_with fail
      go_roundw
      case rel => exact ⟨j + 1, A2, c2, by omega, by go_num, rfl, own2, hW2⟩
      case measure => simp [intOf]; omega
    · obtain rfl : j = n := by omega
      go_wp2_with fail
      go_returns
      exact ⟨A', c', C, D, HL, rfl, own.rd, bt hB hW⟩
end Go.Proofs.Ytbmfkncfenkjoaa
