/-
  The walk of TopProfile.
-/
import Derived.Test.YtpipjpgcnbpllaaW21
import Derived.StillTailTactics
namespace Go.Proofs.Ytpipjpgcnbpllaa
set_option linter.unusedVariables false
set_option linter.unusedSimpArgs false
open Go.RowKit

theorem Rd.s1 {w : World} {b off n c : Nat} {N : Nat → Int} (h : Rd w 1 (some ⟨b, off, none⟩) n c (nv N)) {k : Nat} (hk : k < n) : b < w.heap.size ∧ w.cell? ⟨b, off + k, none⟩ = some (.int .i64 (N k)) := by
  obtain ⟨b', off', e, hl, hc⟩ := h.at1 hk
  injection e with e
  injection e with e1 e2
  subst e1 e2
  exact ⟨hl, hc⟩
def exC : List (Int × Int) := [(0, 10), (50, 60)]
def exD : List (Int × Int) := [(30, 5)]
def exE : List (Int × Int) := [(45, 5)]
theorem bc1 : Co.fI 2 (tb exC) 1 (tb exD) = 0 ∧ Co.fJ 2 (tb exC) 1 (tb exD) = 1 ∧ Co.fB 2 (tb exC) 1 (tb exD) = true ∧ Co.ck 2 (tb exC) 1 (tb exD) = 0 := by decide +kernel
theorem bc2 : Co.tgE 2 (tb exC) 1 (tb exE) = 0 ∧ Co.tgL 2 (tb exC) 1 (tb exE) = 2 ∧ Co.thi 2 (tb exC) (tb exE) 0 = 10 ∧ Co.thi 2 (tb exC) (tb exE) 1 = 55 := by decide +kernel

set_option maxRecDepth 100000 in
set_option maxHeartbeats 2000000 in
theorem bChain_c (w : World) : Calls Try.prog 4 #[] w fun e w' => e = .returned (.bool true) ∧ Below w.heap.size w w' := by
  go_enter Try.func4, Try.ntmps4
  go_wp2_with fail
  have WS := (Blk.new w 30 #[.int .i64 0, .int .i64 10, .int .i64 50, .int .i64 60])
  have hB := ba w (.cells #[.int .i64 0, .int .i64 10, .int .i64 50, .int .i64 60] 30)
  refine (conflicts_c _ _ 2 _ 1 _ (tb exC) (tb exD) _ (Rd.lit exC (WS.alloc _) rfl rfl (by decide)) (Rd.lit exD (Blk.new1 w _ 48 _) rfl rfl (by decide))).mono ?_
  rw [bc1.1, bc1.2.1, bc1.2.2.1, bc1.2.2.2]
  rintro e w1 ⟨rfl, hb⟩
  replace WS := (WS.alloc _).keep hb
  replace hB := bt (bal hB _) hb
  clear hb
  have C := Blk.new w1 42 #[.int .i64 0, .int .i64 1]
  replace hB := bal hB (.cells #[.int .i64 0, .int .i64 1] 42)
  replace WS := WS.alloc (.cells #[.int .i64 0, .int .i64 1] 42)
  go_wp2_with fail
  refine (greatest_c _ _ 2 _ 1 _ (tb exC) (tb exE) _ (Rd.lit exC (WS.alloc _) rfl rfl (by decide)) (Rd.lit exE (Blk.new1 w1 _ 48 _) rfl rfl (by decide))).mono ?_
  rintro e w2 ⟨A2, d2, rfl, own, hb⟩
  rw [bc2.1, bc2.2.1]
  rw [bc2.2.1] at own
  replace C := (C.alloc _).keep hb
  replace hB := bt (bal hB _) hb
  clear hb WS
  obtain ⟨g, rfl, hg1, hg2⟩ := own.pos (by omega)
  have o0 : w2.cell? ⟨g, 0, none⟩ = some (.int .i64 10) := (own.cell1 (i := 0) (by omega)).trans (by rw [bc2.2.2.1])
  have o1 : w2.cell? ⟨g, 1, none⟩ = some (.int .i64 55) := (own.cell1 (i := 1) (by omega)).trans (by rw [bc2.2.2.2])
  obtain ⟨c0, c1, c2, c3⟩ := C.open2
  go_wp2_with fail
  go_returns
  exact ⟨rfl, hB⟩

end Go.Proofs.Ytpipjpgcnbpllaa
