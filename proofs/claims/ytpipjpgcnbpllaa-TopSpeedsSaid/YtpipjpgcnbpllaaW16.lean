/-
  The walk of ConstraintDecides.
-/
import Derived.Test.YtpipjpgcnbpllaaW15
import Derived.Test.YtpipjpgcnbpllaaRd2
import Derived.Deep.DeepCutAuto
import Derived.Deep.DrawnRows
namespace Go.Proofs.Ytpipjpgcnbpllaa
set_option linter.unusedVariables false
set_option linter.unusedSimpArgs false
open Go.RowKit

theorem infoI : (Try.prog.info? 2).map (fun i => (i.zero, i.size, i.bytes)) = some (some (.int .i64 0), 1, 8) := by kernel_rfl
theorem mk_ints (n : Nat) (hn : n ≤ 64) : ∀ W : World, (Instr.makeSlice 23 (.int .i64 (n : Int)) (.int .i64 (n : Int))).run Try.prog W = .ok (.slice (some ⟨W.heap.size, 0, none⟩) n n) (W.alloc (.cells (madeCells #[.int .i64 0] n) 2)) := by
  obtain ⟨i0, hi, hz0, hz1, hz2⟩ := info_parts infoI
  intro W
  have h := run_make_n (P := Try.prog) Try.underlying23 hi hz0 hz1 hz2 n (by omega) (by omega) W
  rw [Nat.mul_one] at h
  exact h
theorem own_ints (w : World) (base n : Nat) (hn : n ≤ 64) (hb : base ≤ w.heap.size) : Own (w.alloc (.cells (madeCells #[.int .i64 0] n) 2)) base 2 1 (some ⟨w.heap.size, 0, none⟩) n n (nv fun _ => 0) := by
  have h := Own.made (z := #[.int .i64 0]) (q := 1) (V := nv fun _ => 0) w 2 n rfl (by omega) (by omega) hb fun i j hi hj => by
    obtain rfl : j = 0 := by omega
    rfl
  rw [Nat.mul_one] at h
  exact h
theorem two_ints (w : World) (n : Nat) (hn : n ≤ 64) :
    Own ((w.alloc (.cells (madeCells #[.int .i64 0] n) 2)).alloc (.cells (madeCells #[.int .i64 0] n) 2)) w.heap.size 2 1 (some ⟨w.heap.size, 0, none⟩) n n (nv fun _ => 0) ∧
    Own ((w.alloc (.cells (madeCells #[.int .i64 0] n) 2)).alloc (.cells (madeCells #[.int .i64 0] n) 2)) w.heap.size 2 1 (some ⟨w.heap.size + 1, 0, none⟩) n n (nv fun _ => 0) := by
  refine ⟨(own_ints w w.heap.size n hn (Nat.le_refl _)).alloc _, ?_⟩
  have h := own_ints (w.alloc (.cells (madeCells #[.int .i64 0] n) 2)) w.heap.size n hn (by simp)
  have e : (w.alloc (.cells (madeCells #[.int .i64 0] n) 2)).heap.size = w.heap.size + 1 := by simp
  rw [e] at h
  exact h

end Go.Proofs.Ytpipjpgcnbpllaa
