/-
  What Residual returns, in words.
-/
import Derived.Test.YtcgcocingfhleaaQ3
import Derived.Test.YtcgcocingfhleaaQ5
namespace Go.Proofs.Ytcgcocingfhleaa
set_option linter.unusedVariables false
set_option linter.unusedSimpArgs false
open Go.RowKit
attribute [local irreducible] World.setCell World.cell?

/-- The error of a residual. -/
def Re (n : Nat) (M : Lq.Tab) (px py : Int) : Int := if Lq.ck n M ≠ 0 then Lq.ck n M else if Lq.pv px py = true then 0 else 1
theorem re_ck {n : Nat} {M : Lq.Tab} {px py : Int} (h : Lq.ck n M ≠ 0) : Re n M px py = Lq.ck n M := if_pos h
theorem re_1 {n : Nat} {M : Lq.Tab} {px py : Int} (h : Lq.ck n M = 0) (h2 : Lq.pv px py = false) : Re n M px py = 1 := by unfold Re; rw [if_neg (by omega), h2]; rfl
theorem re_0 {n : Nat} {M : Lq.Tab} {px py : Int} (h : Lq.ck n M = 0) (h2 : Lq.pv px py = true) : Re n M px py = 0 := by unfold Re; rw [if_neg (by omega), h2]; rfl
theorem re_iff {n : Nat} {M : Lq.Tab} {px py : Int} : Re n M px py = 0 ↔ Lq.ck n M = 0 ∧ Lq.pv px py = true := by
  unfold Re
  constructor
  · intro h
    split at h
    · omega
    · rename_i h1
      split at h
      · exact ⟨by omega, ‹_›⟩
      · omega
  · rintro ⟨h1, h2⟩; exact re_0 h1 h2
/-- What Residual returns. -/
def Rv (n : Nat) (M : Lq.Tab) (px py : Int) (e : Ending) : Prop := (Re n M px py = 0 → e = .returned (.tuple #[.agg #[.int .i64 (Wi.Hq (Lq.qf n M px py 1)), .int .u64 (Wi.Lr (Lq.qf n M px py 1))], .int .i64 0])) ∧ (Re n M px py ≠ 0 → e = .returned (.tuple #[.agg #[.int .i64 (0), .int .u64 (0)], .int .i64 (Re n M px py)]))
theorem rv_ok {n : Nat} {M : Lq.Tab} {px py : Int} (h : Re n M px py = 0) : Rv n M px py (.returned (.tuple #[.agg #[.int .i64 (Wi.Hq (Lq.qf n M px py 1)), .int .u64 (Wi.Lr (Lq.qf n M px py 1))], .int .i64 0])) := ⟨fun _ => rfl, fun q => absurd h q⟩
theorem rv_no {n : Nat} {M : Lq.Tab} {px py k : Int} (h : Re n M px py = k) (hk : k ≠ 0) : Rv n M px py (.returned (.tuple #[.agg #[.int .i64 (0), .int .u64 (0)], .int .i64 k])) := ⟨fun q => absurd (h.symm.trans q) hk, fun _ => by rw [h]⟩
/-- What a round needs. -/
theorem rs_step {n : Nat} {M : Lq.Tab} {px py : Int} (O : Lq.Ok n M) (hp : Lq.pv px py = true) {k : Nat} (hk : k < n) :
    Wi.inW (Lq.qf k M px py 1) ∧ M k 1 * px + M k 2 * py - M k 3 = Lq.mi M k px py 1 ∧ -5318967296 ≤ Lq.mi M k px py 1 ∧ Lq.mi M k px py 1 ≤ 5318967296 ∧ Wi.inW (Lq.mi M k px py 1 * Lq.mi M k px py 1 * M k 5) ∧ Wi.rv (Lq.qf k M px py 1 + Lq.mi M k px py 1 * Lq.mi M k px py 1 * M k 5) = Lq.qf (k + 1) M px py 1 ∧ Wi.inW (Lq.mi M k px py 1 * Lq.mi M k px py 1) := by
  obtain ⟨x1, x2, y1, y2⟩ := Lq.pv_iff.1 hp
  have b0 := Lq.res_bd O ⟨x1, x2⟩ ⟨y1, y2⟩ k (by omega)
  have b1 := Lq.res_bd O ⟨x1, x2⟩ ⟨y1, y2⟩ (k + 1) (by omega)
  have m := Lq.mi_bd (O.v k hk) (u := px) (v := py) (t := 1) (T := 1) ⟨x1, x2⟩ ⟨y1, y2⟩ (by omega)
  have hn := O.hn
  have s := Lq.mul_bd m m
  rw [Lq.qf_succ] at b1
  refine ⟨by unfold Wi.inW; omega, by unfold Lq.mi; rw [Int.mul_one], by omega, by omega, by unfold Wi.inW; omega, ?_, by unfold Wi.inW; omega⟩
  rw [Lq.qf_succ]
  exact Wi.rv_yes (by unfold Wi.inW; omega)
end Go.Proofs.Ytcgcocingfhleaa
