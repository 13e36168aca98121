/-
  TopLeast: what its walk needs.
-/
import Derived.Test.YtcgcocingfhleaaQ17
namespace Go.Proofs.Ytcgcocingfhleaa
set_option linter.unusedVariables false
set_option linter.unusedSimpArgs false
open Go.RowKit
attribute [local irreducible] World.setCell World.cell?

theorem rl {i j : Nat} {P : Prop} (q : i = j ∨ P) (h : Nat.beq i j = false := by rfl) : P := q.resolve_left fun e => by subst e; simp at h
def M4 : Lq.Tab := tab [[1, 2, 0, 6, 0, 1], [2, 0, 1, 5, 0, 2]]
theorem rd_m4 {w : World} {g : Nat} (h : Blk w g 43 #[.int .i64 (1), .int .i64 (2), .int .i64 (0), .int .i64 (6), .int .i64 (0), .int .i64 (1), .int .i64 (2), .int .i64 (0), .int .i64 (1), .int .i64 (5), .int .i64 (0), .int .i64 (2)]) : Rd w 6 (some ⟨g, 0, none⟩) 2 2 (iv M4) :=
  Rd.of_blk h (Nat.le_refl _) (by omega) fun i j hi hj => by
    match i, j, hi, hj with
    | 0, 0, _, _ => rfl
    | 0, 1, _, _ => rfl
    | 0, 2, _, _ => rfl
    | 0, 3, _, _ => rfl
    | 0, 4, _, _ => rfl
    | 0, 5, _, _ => rfl
    | 1, 0, _, _ => rfl
    | 1, 1, _, _ => rfl
    | 1, 2, _, _ => rfl
    | 1, 3, _, _ => rfl
    | 1, 4, _, _ => rfl
    | 1, 5, _, _ => rfl

theorem aw4 : Lq.er 2 M4 = 0 ∧ Lq.sx 2 M4 = 24 ∧ Lq.sy 2 M4 = 40 ∧ Lq.det 2 M4 = 8 ∧ Lq.nr 24 8 = 3 ∧ Lq.nr 40 8 = 5 := ⟨by decide +kernel, by decide +kernel, by decide +kernel, by decide +kernel, by decide +kernel, by decide +kernel⟩
theorem sol4 {w : World} {g : Nat} (h : Blk w g 43 #[.int .i64 (1), .int .i64 (2), .int .i64 (0), .int .i64 (6), .int .i64 (0), .int .i64 (1), .int .i64 (2), .int .i64 (0), .int .i64 (1), .int .i64 (5), .int .i64 (0), .int .i64 (2)]) : Calls Try.prog 19 #[.slice (some ⟨g, 0, none⟩) 2 2] w fun e w' => e = .returned (.tuple #[.agg #[.int .i64 (Wi.Hq (24)), .int .u64 (Wi.Lr (24)), .int .i64 (Wi.Hq (40)), .int .u64 (Wi.Lr (40)), .int .i64 (8), .int .i64 (3), .int .i64 (5)], .int .i64 0]) ∧ Below w.heap.size w w' := by
  have q := solve_ok _ _ _ M4 w (rd_m4 h) aw4.1
  rw [aw4.2.1, aw4.2.2.1, aw4.2.2.2.1, aw4.2.2.2.2.1, aw4.2.2.2.2.2] at q
  exact q
def nsz (x : Int) : Int := if x = -9223372036854775808 then x else if x < 0 then -x else x
theorem nav_c (x : Int) (w : World) (h1 : -9223372036854775808 ≤ x) (h2 : x ≤ 9223372036854775807) : Calls Try.prog 32 #[.int .i64 x] w fun e w' => e = .returned (.int .i64 (nsz x)) ∧ Below w.heap.size w w' := by
  by_cases h : x < 0
  · obtain ⟨m, em, hm⟩ : ∃ m, IntKind.i64.wrap (-x) = m ∧ Hid (m = nsz x) := ⟨_, rfl, Lib.hid (by unfold nsz; rw [IntKind.wrap_i64]; split <;> omega)⟩
    go_enter Try.func32, Try.ntmps32
    go_wp2_with fail
    go_returns
    exact ⟨ret_int hm.out, Below.refl _ _⟩
  · have e : nsz x = x := by unfold nsz; rw [if_neg (by omega), if_neg h]
    have E := Lib.hid e
    clear e
    go_enter Try.func32, Try.ntmps32
    go_wp2_with fail
    go_returns
    exact ⟨ret_int E.out.symm, Below.refl _ _⟩
theorem ts_step {n : Nat} {M : Lq.Tab} {ux uy v : Int} (O : Lq.Ok n M) (x1 : -16000000 ≤ ux) (x2 : ux ≤ 16000000) (y1 : -16000000 ≤ uy) (y2 : uy ≤ 16000000) (v1 : 1 ≤ v) (v2 : v ≤ 8) {k : Nat} (hk : k < n) :
    Wi.inW (Lq.qf k M ux uy v) ∧ -42551738368 ≤ Lq.mi M k ux uy v ∧ Lq.mi M k ux uy v ≤ 42551738368 ∧ Wi.inW (Lq.mi M k ux uy v * Lq.mi M k ux uy v * M k 5) ∧ Wi.inW (Lq.qf k M ux uy v + Lq.mi M k ux uy v * Lq.mi M k ux uy v * M k 5) ∧ Wi.inW (Lq.mi M k ux uy v * Lq.mi M k ux uy v) := by
  have b0 := Lq.top_bd O ⟨x1, x2⟩ ⟨y1, y2⟩ ⟨v1, v2⟩ k (by omega)
  have b1 := Lq.top_bd O ⟨x1, x2⟩ ⟨y1, y2⟩ ⟨v1, v2⟩ (k + 1) (by omega)
  have m := Lq.mi_bd (O.v k hk) (u := ux) (v := uy) (t := v) (U := 16000000) (T := 8) ⟨x1, x2⟩ ⟨y1, y2⟩ (by omega)
  have hn := O.hn
  have s := Lq.mul_bd m m
  rw [Lq.qf_succ] at b1
  exact ⟨by unfold Wi.inW; omega, by omega, by omega, by unfold Wi.inW; omega, by unfold Wi.inW; omega, by unfold Wi.inW; omega⟩
theorem top_facts {n : Nat} {M : Lq.Tab} {ux uy v : Int} (O : Lq.Ok n M) (hd : 0 < Lq.det n M) (x1 : -16000000 ≤ ux) (x2 : ux ≤ 16000000) (y1 : -16000000 ≤ uy) (y2 : uy ≤ 16000000) (v1 : 1 ≤ v) (v2 : v ≤ 8) :
    Wi.inW (Lq.qf n M ux uy v) ∧ Wi.inW (Lq.num n M) ∧ Wi.inW (Lq.qf n M ux uy v * Lq.det n M) ∧ Wi.inW (Lq.num n M * (v * v)) ∧ Wi.cm (Lq.num n M * (v * v)) (Lq.qf n M ux uy v * Lq.det n M) ≤ 0 := by
  have bq := Lq.top_bd O ⟨x1, x2⟩ ⟨y1, y2⟩ ⟨v1, v2⟩ n (Nat.le_refl _)
  have hn := O.hn
  have bd := Lq.det_le O
  have bm := Lq.mul_bd (a := Lq.qf n M ux uy v) (b := Lq.det n M) (A := 463526512163513165676544) (B := 281474976710656) (by omega) (by omega)
  have best := Lq.best O hd ux uy v
  rw [Int.mul_assoc] at best
  have nn := Lq.num_nn O hd
  have vv := Lq.sq_nn v
  have nv := Int.mul_nonneg nn vv
  have q1 := Lq.num_bd O
  refine ⟨by unfold Wi.inW; omega, by unfold Lq.num; unfold Wi.inW; omega, by unfold Wi.inW; omega, by unfold Wi.inW; omega, by unfold Wi.cm; split <;> (try split) <;> omega⟩
end Go.Proofs.Ytcgcocingfhleaa
