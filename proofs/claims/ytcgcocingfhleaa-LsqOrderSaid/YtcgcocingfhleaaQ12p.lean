/-
  What Least returns, in words.
-/
import Derived.Test.YtcgcocingfhleaaQ7
namespace Go.Proofs.Ytcgcocingfhleaa
set_option linter.unusedVariables false
set_option linter.unusedSimpArgs false
open Go.RowKit
attribute [local irreducible] World.setCell World.cell?

/-- What Least returns. -/
def Lv (n : Nat) (M : Lq.Tab) (e : Ending) : Prop := (Lq.er n M = 0 → e = .returned (.tuple #[.agg #[.int .i64 (Wi.Hq (Lq.num n M)), .int .u64 (Wi.Lr (Lq.num n M))], .int .i64 (Lq.det n M), .int .i64 0])) ∧ (Lq.er n M ≠ 0 → e = .returned (.tuple #[.agg #[.int .i64 (0), .int .u64 (0)], .int .i64 0, .int .i64 (Lq.er n M)]))
theorem lv_ok {n : Nat} {M : Lq.Tab} (h : Lq.er n M = 0) : Lv n M (.returned (.tuple #[.agg #[.int .i64 (Wi.Hq (Lq.num n M)), .int .u64 (Wi.Lr (Lq.num n M))], .int .i64 (Lq.det n M), .int .i64 0])) := ⟨fun _ => rfl, fun q => absurd h q⟩
theorem lv_no {n : Nat} {M : Lq.Tab} {k : Int} (h : Lq.er n M = k) (hk : k ≠ 0) : Lv n M (.returned (.tuple #[.agg #[.int .i64 (0), .int .u64 (0)], .int .i64 0, .int .i64 k])) := ⟨fun q => absurd (h.symm.trans q) hk, fun _ => by rw [h]⟩
theorem solve_ok (A : Option Addr) (n c : Nat) (M : Lq.Tab) (w : World) (T : Rd w 6 A n c (iv M)) (h : Lq.er n M = 0) : Calls Try.prog 19 #[.slice A n c] w fun e w' => e = .returned (.tuple #[.agg #[.int .i64 (Wi.Hq (Lq.sx n M)), .int .u64 (Wi.Lr (Lq.sx n M)), .int .i64 (Wi.Hq (Lq.sy n M)), .int .u64 (Wi.Lr (Lq.sy n M)), .int .i64 (Lq.det n M), .int .i64 (Lq.nr (Lq.sx n M) (Lq.det n M)), .int .i64 (Lq.nr (Lq.sy n M) (Lq.det n M))], .int .i64 0]) ∧ Below w.heap.size w w' := (solve_c A n c M w T).mono fun _ _ q => ⟨q.1.1 h, q.2⟩
theorem solve_no (A : Option Addr) (n c : Nat) (M : Lq.Tab) (w : World) (T : Rd w 6 A n c (iv M)) (h : Lq.er n M ≠ 0) : Calls Try.prog 19 #[.slice A n c] w fun e w' => e = .returned (.tuple #[.agg #[.int .i64 (0), .int .u64 (0), .int .i64 (0), .int .u64 (0), .int .i64 (0), .int .i64 (0), .int .i64 (0)], .int .i64 (Lq.er n M)]) ∧ Below w.heap.size w w' := (solve_c A n c M w T).mono fun _ _ q => ⟨q.1.2 h, q.2⟩
theorem zz_step {n : Nat} {M : Lq.Tab} (O : Lq.Ok n M) {k : Nat} (hk : k < n) : Wi.inW (Lq.zz k M) ∧ Wi.inW (M k 3 * M k 3 * M k 5) ∧ Wi.rv (Lq.zz k M + M k 3 * M k 3 * M k 5) = Lq.zz (k + 1) M ∧ Wi.inW (M k 5 * M k 3 * M k 3) ∧ Wi.rv (Lq.zz k M + M k 5 * M k 3 * M k 3) = Lq.zz (k + 1) M ∧ -68719476736 ≤ M k 5 * M k 3 ∧ M k 5 * M k 3 ≤ 68719476736 := by
  have b0 := Lq.zz_bd O k (by omega)
  have b1 := Lq.zz_bd O (k + 1) (by omega)
  have v := O.v k hk
  have hz := Lq.mul_bd (a := M k 3) (b := M k 3) ⟨v.z1, v.z2⟩ ⟨v.z1, v.z2⟩
  have hg : -16 ≤ M k 5 ∧ M k 5 ≤ 16 := by have := v.g1; have := v.g2; omega
  have h1 := Lq.mul_bd hz hg
  have h2 := Lq.mul_bd (b := M k 3) hg ⟨v.z1, v.z2⟩
  have e : M k 5 * M k 3 * M k 3 = M k 3 * M k 3 * M k 5 := by grind
  have e2 : Lq.zz (k + 1) M = Lq.zz k M + M k 3 * M k 3 * M k 5 := rfl
  rw [e]
  refine ⟨by unfold Wi.inW; omega, by unfold Wi.inW; omega, ?_, by unfold Wi.inW; omega, ?_, by omega, by omega⟩
  · rw [e2]; exact Wi.rv_yes (by rw [e2] at b1; unfold Wi.inW; omega)
  · rw [e2]; exact Wi.rv_yes (by rw [e2] at b1; unfold Wi.inW; omega)
theorem num_facts {n : Nat} {M : Lq.Tab} (O : Lq.Ok n M) : Wi.inW (Lq.zz n M) ∧ Wi.rv (Lq.zz n M * Lq.det n M) = Lq.zz n M * Lq.det n M ∧ Wi.rv (Lq.sx n M * Lq.xz n M) = Lq.sx n M * Lq.xz n M ∧ Wi.rv (Lq.sy n M * Lq.yz n M) = Lq.sy n M * Lq.yz n M ∧
    Wi.rv (Lq.zz n M * Lq.det n M - Lq.sx n M * Lq.xz n M) = Lq.zz n M * Lq.det n M - Lq.sx n M * Lq.xz n M ∧ Wi.rv (Lq.zz n M * Lq.det n M - Lq.sx n M * Lq.xz n M - Lq.sy n M * Lq.yz n M) = Lq.num n M ∧
    Wi.inW (Lq.zz n M * Lq.det n M) ∧ Wi.inW (Lq.sx n M * Lq.xz n M) ∧ Wi.inW (Lq.sy n M * Lq.yz n M) ∧ Wi.inW (Lq.zz n M * Lq.det n M - Lq.sx n M * Lq.xz n M) := by
  have z := Lq.zz_bd O n (Nat.le_refl _)
  obtain ⟨a, b, c⟩ := Lq.num_bd O
  refine ⟨by unfold Wi.inW; omega, Wi.rv_yes (by unfold Wi.inW; omega), Wi.rv_yes (by unfold Wi.inW; omega), Wi.rv_yes (by unfold Wi.inW; omega), Wi.rv_yes (by unfold Wi.inW; omega), Wi.rv_yes (by unfold Wi.inW; omega), by unfold Wi.inW; omega, by unfold Wi.inW; omega, by unfold Wi.inW; omega, by unfold Wi.inW; omega⟩
end Go.Proofs.Ytcgcocingfhleaa
