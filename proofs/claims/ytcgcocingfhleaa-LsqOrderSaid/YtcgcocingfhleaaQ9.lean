/-
  Contracts: how far a measurement is from holding; a weighted square.
-/
import Derived.Test.YtcgcocingfhleaaQPlain2
import Derived.Test.YtcgcocingfhleaaW5
import Derived.Test.YtcgcocingfhleaaW6
import Derived.Test.YtcgcocingfhleaaRd6
namespace Go.Proofs.Ytcgcocingfhleaa
set_option linter.unusedVariables false
set_option linter.unusedSimpArgs false
open Go.RowKit
attribute [local irreducible] World.setCell World.cell?

set_option maxRecDepth 100000 in
set_option maxHeartbeats 4000000 in
theorem miss_c (s a b z d g px py : Int) (w : World) (a1 : -256 ≤ a) (a2 : a ≤ 256) (b1 : -256 ≤ b) (b2 : b ≤ 256) (z1 : -4294967296 ≤ z) (z2 : z ≤ 4294967296) (x1 : -2000000 ≤ px) (x2 : px ≤ 2000000) (y1 : -2000000 ≤ py) (y2 : py ≤ 2000000) :
    Calls Try.prog 49 #[.agg #[.int .i64 s, .int .i64 a, .int .i64 b, .int .i64 z, .int .i64 d, .int .i64 g], .agg #[.int .i64 px, .int .i64 py]] w fun e w' => e = .returned (.int .i64 (a * px + b * py - z)) ∧ Below w.heap.size w w' := by
  have p1 := Lq.mul_bd (a := a) (b := px) ⟨a1, a2⟩ ⟨x1, x2⟩
  have p2 := Lq.mul_bd (a := b) (b := py) ⟨b1, b2⟩ ⟨y1, y2⟩
  have f1 : -512000000 ≤ a * px := by omega
  have f2 : a * px ≤ 512000000 := by omega
  have f3 : -512000000 ≤ b * py := by omega
  have f4 : b * py ≤ 512000000 := by omega
  clear p1 p2
  go_enter Try.func49, Try.ntmps49
  go_wp2_with fail
  go_returns
  exact ⟨rfl, by go_grown⟩
set_option maxRecDepth 100000 in
set_option maxHeartbeats 4000000 in
theorem weighted_c (g v : Int) (w : World) (g1 : 1 ≤ g) (g2 : g ≤ 16) (v1 : -42949672960 ≤ v) (v2 : v ≤ 42949672960) :
    Calls Try.prog 43 #[.int .i64 g, .int .i64 v] w fun e w' => e = .returned (.agg #[.int .i64 (Wi.Hq (v * v * g)), .int .u64 (Wi.Lr (v * v * g))]) ∧ Below w.heap.size w w' := by
  have p1 := Lq.mul_bd (a := v) (b := v) ⟨v1, v2⟩ ⟨v1, v2⟩
  have p2 := Lq.mul_bd (a := v * v) (b := g) (B := 16) p1 ⟨by omega, g2⟩
  have O1 : Wi.Wd (Wi.Hq (v * v)) (Wi.Lr (v * v)) (v * v) := Wi.wd_self (by unfold Wi.inW; omega)
  have e1 := Lib.hid (Wi.rv_yes (v := v * v * g) (by unfold Wi.inW; omega))
  clear p1 p2
  go_enter Try.func43, Try.ntmps43
  have R := Blk.new w 34 #[.int .i64 (0), .int .u64 (0)]
  have hB := ba w (.cells #[.int .i64 (0), .int .u64 (0)] 34)
  go_wp2_with fail
  refine (mul_c _ _ _ (by omega) (by omega) (by omega) (by omega)).mono ?_
  rintro e w1 ⟨rfl, hb⟩
  replace R := R.keep hb
  replace hB := bt hB hb
  clear hb
  go_wp2_with fail
  refine (times_c _ _ _ _ _ O1 (by omega) (by omega)).mono ?_
  rw [e1.out]
  rintro e w2 ⟨rfl, hb⟩
  replace R := R.keep hb
  replace hB := bt hB hb
  clear hb
  obtain ⟨r00, r01, r02, r03⟩ := R.open2
  go_wp2_with fail
  refine bodyPost_ret (by simp [results, Try.results43, go_sem, r00, r01, r02, r03]; try rfl) rfl ?_
  exact ⟨rfl, by repeat (first | exact Below.refl _ _ | (with_reducible assumption) | (with_reducible apply bal) | (with_reducible apply bdr) | (with_reducible apply bdnl) | (with_reducible refine bst ?_ (by first | (simp; done) | (simp; omega) | omega) _) | (with_reducible refine bt ?_ (by with_reducible assumption)))⟩
end Go.Proofs.Ytcgcocingfhleaa
