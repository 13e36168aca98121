/-
  Contract: awake.
-/
import Derived.Test.YtbmfkncfenkjoaaL7
import Derived.Test.YtbmfkncfenkjoaaL6
import Derived.Test.YtbmfkncfenkjoaaW9
import Derived.Test.YtbmfkncfenkjoaaPlain4
namespace Go.Proofs.Ytbmfkncfenkjoaa
set_option linter.unusedVariables false
set_option linter.unusedSimpArgs false
open Go.RowKit
attribute [local irreducible] World.setCell World.cell?

theorem exOk : Ce.Ok ((4 : Nat) : Int) 4 exE := Ce.ck_ok.1 (by decide)
def exC : Nat → Int := f4 0 4 2 (-1)
def exD : Nat → Int := f4 0 2 1 0
theorem exLab : Ce.Lab 4 4 exE 0 exC exD where
  c0 := rfl
  d0 := rfl
  rng v hv := by
    match v, hv with
    | 0, _ => right; decide
    | 1, _ => right; decide
    | 2, _ => right; decide
    | 3, _ => left; rfl
  tri i hi hc := by
    unfold Ce.le2
    match i, hi with
    | 0, _ => decide
    | 1, _ => decide
    | 2, _ => decide
    | 3, _ => decide
  pre v hv hc hne := by
    match v, hv with
    | 0, _ => exact absurd rfl hne
    | 1, _ => exact ⟨2, by decide⟩
    | 2, _ => exact ⟨1, by decide⟩
    | 3, _ => exact absurd hc (by decide)
theorem pots_ex (A : Option Addr) (W : World) (T : Rd W 3 A 4 4 (iv exE)) : Calls Try.prog 22 #[.agg #[.int .i64 4, .slice A 4 4], .int .i64 0] W fun e w' => ∃ (A' : Option Addr) (c' : Nat), e = .returned (.tuple #[.slice A' 4 c', .int .i64 0]) ∧ Rd w' 1 A' 4 c' (nv (f4 0 4 2 (-1))) ∧ Below W.heap.size W w' := by
  refine Calls.mono (pots_ok A 4 4 4 exE 0 W T exOk (by omega)) ?_
  rintro e w' ⟨A', c', C, D, HL, h1, h2, h3⟩
  exact ⟨A', c', h1, h2.congr fun i j hi _ => by unfold nv; rw [(HL.out.uniq exOk exLab hi).1]; rfl, h3⟩
theorem solve_ex1 (A : Option Addr) (W : World) (T : Rd W 3 A 4 4 (iv exE)) : Calls Try.prog 25 #[.agg #[.int .i64 4, .slice A 4 4], .int .i64 0, .int .i64 1] W fun e w' => ∃ (A1 : Option Addr) (c1 : Nat) (A2 : Option Addr) (c2 : Nat), e = .returned (.tuple #[.slice A1 2 c1, .slice A2 4 c2, .int .i64 0]) ∧ Rd w' 1 A1 2 c1 (nv (f4 1 2 0 0)) ∧ Rd w' 1 A2 4 c2 (nv (f4 0 4 2 4)) ∧ Below W.heap.size W w' := by
  refine Calls.mono (solve_c A 4 4 4 exE 0 W T exOk (by omega) 1 (by omega)) ?_
  rintro e w' ⟨C, D, HL, h1, ⟨h2, _⟩ | ⟨h2, A1, c1, A2, c2, h3, h4, h5⟩⟩
  · have := (HL.out.uniq exOk exLab (show 1 < 4 by omega)).1
    rw [this] at h2
    exact absurd h2 (by decide)
  · have hd := (HL.out.uniq exOk exLab (show 1 < 4 by omega)).2 h2
    have e2 : (D 1).toNat = 2 := by rw [hd]; rfl
    rw [e2] at h3 h4
    refine ⟨A1, c1, A2, c2, h3, h4.congr fun i j hi _ => ?_, h5.congr fun i j hi _ => ?_, h1⟩
    · unfold nv
      rw [Ce.rt_congr exOk HL.out exLab (b := ((1 : Nat) : Int)) (by omega) (by omega) (by simpa using h2) (by simpa [e2] using hi)]
      match i, hi with
      | 0, _ => rfl
      | 1, _ => rfl
    · unfold nv
      rw [Ce.pot_congr exOk HL.out exLab hi]
      match i, hi with
      | 0, _ => rfl
      | 1, _ => rfl
      | 2, _ => rfl
      | 3, _ => rfl
theorem solve_ex3 (A : Option Addr) (W : World) (T : Rd W 3 A 4 4 (iv exE)) : Calls Try.prog 25 #[.agg #[.int .i64 4, .slice A 4 4], .int .i64 0, .int .i64 3] W fun e w' => e = .returned (.tuple #[.slice none 0 0, .slice none 0 0, .int .i64 6]) ∧ Below W.heap.size W w' := by
  refine Calls.mono (solve_c A 4 4 4 exE 0 W T exOk (by omega) 3 (by omega)) ?_
  rintro e w' ⟨C, D, HL, h1, ⟨h2, h3⟩ | ⟨h2, _⟩⟩
  · exact ⟨h3, h1⟩
  · have := (HL.out.uniq exOk exLab (show 3 < 4 by omega)).1
    rw [this] at h2
    exact absurd h2 (by decide)
set_option maxRecDepth 100000 in
set_option maxHeartbeats 4000000 in
theorem awake_c (w : World) : Calls Try.prog 11 #[] w fun e w' => e = .returned (.bool true) ∧ Below w.heap.size w w' := by
  have f1 := Lib.hid (show eqL 4 (f4 0 4 2 (-1)) 4 (f4 0 4 2 (-1)) = true from decide_eq_true ⟨rfl, fun _ _ => rfl⟩)
  have f2 := Lib.hid (show eqL 2 (f4 1 2 0 0) 2 (f4 1 2 0 0) = true from decide_eq_true ⟨rfl, fun _ _ => rfl⟩)
  have f3 := Lib.hid (show eqL 4 (f4 0 4 2 4) 4 (f4 0 4 2 4) = true from decide_eq_true ⟨rfl, fun _ _ => rfl⟩)
  have v1 := Lib.hid (show Ce.vix 4 4 exE 4 (f4 0 5 2 0) = 2 by decide)
  have v2 := Lib.hid (show Ce.ver 4 4 exE 4 (f4 0 5 2 0) = 0 by decide)
  have b1 := Lib.hid (show Ce.bnd 4 4 exE 0 1 4 (f4 0 3 2 0) = 3 by decide)
  have b2 := Lib.hid (show Ce.ber 4 4 exE 0 1 4 (f4 0 3 2 0) = 0 by decide)
  have a1 := Lib.hid (show Ce.acc 4 4 exE 0 1 4 (f4 0 4 2 4) 1 (fun _ => 0) = 11 by decide)
  go_enter Try.func11, Try.ntmps11
  try simp only [List.append_eq, List.cons_append, List.nil_append]
  go_wp2_with fail
  refine (example_c _).mono ?_
  rintro e w1 ⟨rfl, T, hB⟩
  generalize w.heap.size + 1 = gE at T ⊢
  have G := Blk.new w1 24 #[.int .i64 4, .slice (some ⟨gE, 0, none⟩) 4 4]
  replace T := T.alloc (.cells #[.int .i64 4, .slice (some ⟨gE, 0, none⟩) 4 4] 24)
  replace hB := bal hB (.cells #[.int .i64 4, .slice (some ⟨gE, 0, none⟩) 4 4] 24)
  have lG := G.lt
  
  obtain ⟨c0, c1, c2, c3⟩ := G.open2
  go_wp2_with fail
  generalize w1.heap.size = gG at G lG ⊢
  refine (pots_ex _ _ T).mono ?_
  rintro e w2 ⟨A1, k1, rfl, P, hb⟩
  clear c0 c1 c2 c3
  replace T := T.keep hb
  replace G := G.keep hb
  replace hB := bt hB hb
  clear hb
  obtain ⟨c0, c1, c2, c3⟩ := G.open2
  go_wp2_with fail
  refine (solve_ex1 _ _ T).mono ?_
  rintro e w3 ⟨A2, k2, A3, k3, rfl, R, Q, hb⟩
  clear c0 c1 c2 c3
  replace T := T.keep hb
  replace G := G.keep hb
  replace P := P.keep hb
  replace hB := bt hB hb
  clear hb
  obtain ⟨c0, c1, c2, c3⟩ := G.open2
  go_wp2_with fail
  refine (solve_ex3 _ _ T).mono ?_
  rintro e w4 ⟨rfl, hb⟩
  clear c0 c1 c2 c3
  replace T := T.keep hb
  replace G := G.keep hb
  replace P := P.keep hb
  replace R := R.keep hb
  replace Q := Q.keep hb
  replace hB := bt hB hb
  clear hb
  have U1 := rd_lit4 w4 2 0 4 2 (-1) rfl
  replace T := T.alloc (.cells #[.int .i64 (0), .int .i64 (4), .int .i64 (2), .int .i64 (-1)] 2)
  replace G := G.alloc (.cells #[.int .i64 (0), .int .i64 (4), .int .i64 (2), .int .i64 (-1)] 2)
  replace P := P.alloc (.cells #[.int .i64 (0), .int .i64 (4), .int .i64 (2), .int .i64 (-1)] 2)
  replace R := R.alloc (.cells #[.int .i64 (0), .int .i64 (4), .int .i64 (2), .int .i64 (-1)] 2)
  replace Q := Q.alloc (.cells #[.int .i64 (0), .int .i64 (4), .int .i64 (2), .int .i64 (-1)] 2)
  replace hB := bal hB (.cells #[.int .i64 (0), .int .i64 (4), .int .i64 (2), .int .i64 (-1)] 2)
  go_wp2_with fail
  refine (list_c _ _ _ _ _ _ _ _ _ P U1).mono ?_
  rw [f1.out]
  rintro e w5 ⟨rfl, hb⟩
  clear U1
  replace T := T.keep hb
  replace G := G.keep hb
  replace P := P.keep hb
  replace R := R.keep hb
  replace Q := Q.keep hb
  replace hB := bt hB hb
  clear hb
  have U1 := rd_lit2 w5 3 1 2 rfl
  replace T := T.alloc (.cells #[.int .i64 1, .int .i64 2] 3)
  replace G := G.alloc (.cells #[.int .i64 1, .int .i64 2] 3)
  replace P := P.alloc (.cells #[.int .i64 1, .int .i64 2] 3)
  replace R := R.alloc (.cells #[.int .i64 1, .int .i64 2] 3)
  replace Q := Q.alloc (.cells #[.int .i64 1, .int .i64 2] 3)
  replace hB := bal hB (.cells #[.int .i64 1, .int .i64 2] 3)
  go_wp2_with fail
  refine (routes_c _ _ _ _ _ _ _ _ _ R U1).mono ?_
  rw [f2.out]
  rintro e w6 ⟨rfl, hb⟩
  clear U1 R
  replace T := T.keep hb
  replace G := G.keep hb
  replace P := P.keep hb
  replace Q := Q.keep hb
  replace hB := bt hB hb
  clear hb
  have U1 := rd_lit4 w6 2 0 4 2 4 rfl
  replace T := T.alloc (.cells #[.int .i64 (0), .int .i64 (4), .int .i64 (2), .int .i64 (4)] 2)
  replace G := G.alloc (.cells #[.int .i64 (0), .int .i64 (4), .int .i64 (2), .int .i64 (4)] 2)
  replace P := P.alloc (.cells #[.int .i64 (0), .int .i64 (4), .int .i64 (2), .int .i64 (4)] 2)
  replace Q := Q.alloc (.cells #[.int .i64 (0), .int .i64 (4), .int .i64 (2), .int .i64 (4)] 2)
  replace hB := bal hB (.cells #[.int .i64 (0), .int .i64 (4), .int .i64 (2), .int .i64 (4)] 2)
  go_wp2_with fail
  refine (list_c _ _ _ _ _ _ _ _ _ Q U1).mono ?_
  rw [f3.out]
  rintro e w7 ⟨rfl, hb⟩
  clear U1 P
  replace T := T.keep hb
  replace G := G.keep hb
  replace Q := Q.keep hb
  replace hB := bt hB hb
  clear hb
  obtain ⟨c0, c1, c2, c3⟩ := G.open2
  have U1 := rd_lit4 w7 2 0 5 2 0 rfl
  replace T := T.alloc (.cells #[.int .i64 (0), .int .i64 (5), .int .i64 (2), .int .i64 (0)] 2)
  replace G := G.alloc (.cells #[.int .i64 (0), .int .i64 (5), .int .i64 (2), .int .i64 (0)] 2)
  replace Q := Q.alloc (.cells #[.int .i64 (0), .int .i64 (5), .int .i64 (2), .int .i64 (0)] 2)
  replace hB := bal hB (.cells #[.int .i64 (0), .int .i64 (5), .int .i64 (2), .int .i64 (0)] 2)
  go_wp2_with fail
  refine (violated_c _ _ _ _ _ _ T (by omega) (by omega) _ _ _ _ U1).mono ?_
  rw [v1.out, v2.out]
  rintro e w8 ⟨rfl, hb⟩
  clear U1 c0 c1 c2 c3
  replace T := T.keep hb
  replace G := G.keep hb
  replace Q := Q.keep hb
  replace hB := bt hB hb
  clear hb
  obtain ⟨c0, c1, c2, c3⟩ := G.open2
  have U1 := rd_lit4 w8 2 0 3 2 0 rfl
  replace T := T.alloc (.cells #[.int .i64 (0), .int .i64 (3), .int .i64 (2), .int .i64 (0)] 2)
  replace G := G.alloc (.cells #[.int .i64 (0), .int .i64 (3), .int .i64 (2), .int .i64 (0)] 2)
  replace Q := Q.alloc (.cells #[.int .i64 (0), .int .i64 (3), .int .i64 (2), .int .i64 (0)] 2)
  replace hB := bal hB (.cells #[.int .i64 (0), .int .i64 (3), .int .i64 (2), .int .i64 (0)] 2)
  go_wp2_with fail
  refine (bound_c _ _ _ _ _ _ T (by omega) (by omega) _ _ _ _ _ _ U1).mono ?_
  rw [b1.out, b2.out]
  rintro e w9 ⟨rfl, hb⟩
  clear U1 c0 c1 c2 c3
  replace T := T.keep hb
  replace G := G.keep hb
  replace Q := Q.keep hb
  replace hB := bt hB hb
  clear hb
  obtain ⟨c0, c1, c2, c3⟩ := G.open2
  have U1 := rd_num w9 3 0 rfl
  replace T := T.alloc (.cells #[.int .i64 0] 3)
  replace G := G.alloc (.cells #[.int .i64 0] 3)
  replace Q := Q.alloc (.cells #[.int .i64 0] 3)
  replace hB := bal hB (.cells #[.int .i64 0] 3)
  go_wp2_with fail
  refine (accept_c _ _ _ _ _ _ T (by omega) (by omega) _ _ _ _ _ _ Q _ _ _ _ U1).mono ?_
  rw [a1.out]
  rintro e w10 ⟨rfl, hb⟩
  replace T := T.keep hb
  replace hB := bt hB hb
  clear hb
  go_wp2_with fail
  go_returns
  exact ⟨rfl, hB⟩
end Go.Proofs.Ytbmfkncfenkjoaa
