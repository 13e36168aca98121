/-
  The walk of TopLeast.
-/
import Derived.Test.YtcgcocingfhleaaQ24a
import Derived.Test.YtcgcocingfhleaaQ24b
import Derived.Test.YtcgcocingfhleaaQ24c
import Derived.Test.YtcgcocingfhleaaQ24d
namespace Go.Proofs.Ytcgcocingfhleaa
set_option linter.unusedVariables false
set_option linter.unusedSimpArgs false
open Go.RowKit
attribute [local irreducible] World.setCell World.cell?

set_option maxRecDepth 100000 in
set_option maxHeartbeats 4000000 in
theorem law_top (A : Option Addr) (n c : Nat) (M : Lq.Tab) (ux uy v : Int) (w : World) (T : Rd w 6 A n c (iv M)) (bx : -9223372036854775808 ≤ ux ∧ ux ≤ 9223372036854775807) (by_ : -9223372036854775808 ≤ uy ∧ uy ≤ 9223372036854775807) :
    Calls Try.prog 12 #[.slice A n c, .agg #[.int .i64 ux, .int .i64 uy], .int .i64 v] w fun e w' => e = .returned (.bool true) ∧ Below w.heap.size w w' := by
  have hkn : (if n ≤ 17 then n else 17) ≤ n := by split <;> omega
  have f2 : (if (17 : Int) < (n : Int) then (17 : Int) else (n : Int)) = ((if n ≤ 17 then n else 17 : Nat) : Int) := by split <;> split <;> omega
  generalize (if n ≤ 17 then n else 17) = k at hkn f2
  by_cases h : Lq.er k M = 0
  · by_cases c0 : v < 1
    · exact top_0 A n c M ux uy v w T bx by_ k hkn f2 h c0
    by_cases c1 : 8 < v
    · exact top_1 A n c M ux uy v w T bx by_ k hkn f2 h c0 c1
    by_cases c2 : 16000000 < max (nsz ux) (nsz uy)
    · exact top_2 A n c M ux uy v w T bx by_ k hkn f2 h c0 c1 c2
    by_cases c3 : ux < -16000000
    · exact top_3 A n c M ux uy v w T bx by_ k hkn f2 h c0 c1 c2 c3
    by_cases c4 : uy < -16000000
    · exact top_4 A n c M ux uy v w T bx by_ k hkn f2 h c0 c1 c2 c3 c4
    · exact top_5 A n c M ux uy v w T bx by_ k hkn f2 h c0 c1 c2 c3 c4
  · exact top_e A n c M ux uy v w T bx by_ k hkn f2 h
end Go.Proofs.Ytcgcocingfhleaa
