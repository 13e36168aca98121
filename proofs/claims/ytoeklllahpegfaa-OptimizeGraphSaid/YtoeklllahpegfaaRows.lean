/-
  No cell of these rows narrows 'for every input' (looked for: loops, veiled, ifaces, maps, wideKeys, modest, calm, conditions, laid).
  DERIVED. THE GIVEN ROWS OF THIS SEAT. 8 by the template 'for every input the law returns true; each argument reads behind the call as it read before'; 0 by the template 'total and deterministic' (their statements: YtoeklllahpegfaaTotals.lean).
  GIVEN WITH THE SEED: the statements are not yours to turn. If you find one false, say at which input.
  Laid BY PROGRAM, IN A SANDBOX (cutbox-rows.mjs): the forced cells as the released guide's own fill.sh prints them over the translation 70e83080a2170b2a… (all of the seat's roots in one cut). By AI agents, Wed Nov 11 2026. No macro, syntax, notation, axiom, sorry.
-/
import Derived.Test.YtoeklllahpegfaaChecked
import GoSem.Claim
import GoSem.ClaimJoined
import GoSem.ClaimMapViews
import Derived.JoinedTies
import Derived.KernelRfl
namespace Go.Proofs.Ytoeklllahpegfaa
/- THE CELL 'sum', in the pinned program and in every row, IS THE sha256 OF THE DUMP (.gsa) THAT YtoeklllahpegfaaProg.lean LOADS. Nothing in Lean hashes anything: it is a label: what it is worth is what the hold of that sum in a sandbox is worth. -/
noncomputable def Try.pinned : Pinned := { name := "ytoeklllahpegfaa", sum := "70e83080a2170b2a1a57880518aac5c9061f5b0c043e18c55fd9641ba00381ff", checked := Try.checked }
namespace Rows
def none {H : Type} : Left H := { results := [], args := [] }

/-- 'flightdecklaw40.OptimizeCosts': WHATEVER THE INPUT: true; the input reads as it did. -/
def optimizeCostsSpec : ChangeSpec := { name := "optimizeCosts", fn := fun _ => fun
  | [d1, d2, d3] => { results := [.lit (.bool true)], args := [d1, d2, d3] }
  | _ => none }
def optimizeCostsRow : OpenClaim := { program := "ytoeklllahpegfaa", sum := "70e83080a2170b2a1a57880518aac5c9061f5b0c043e18c55fd9641ba00381ff", func := "flightdeck/flightdecklaw40.OptimizeCosts", spec := "optimizeCosts", unfollowed := true, recurses := true, named := ["math/bits.divideError", "math/bits.overflowError"], apart := false }
def OptimizeCostsSaid : Prop := optimizeCostsRow.holds Try.pinned (OpenSpec.ofChange optimizeCostsSpec)

/-- ITS FALSE NEIGHBOUR: 'it returns false'. Refute it at one input. -/
def optimizeCostsWrong : ChangeSpec := { name := "optimizeCosts", fn := fun _ => fun
  | [d1, d2, d3] => { results := [.lit (.bool false)], args := [d1, d2, d3] }
  | _ => none }
def OptimizeCostsWrongFalsely : Prop := optimizeCostsRow.holds Try.pinned (OpenSpec.ofChange optimizeCostsWrong)

/-- 'flightdecklaw40.OptimizeGraph': WHATEVER THE INPUT: true; the input reads as it did. -/
def optimizeGraphSpec : ChangeSpec := { name := "optimizeGraph", fn := fun _ => fun
  | [d1, d2] => { results := [.lit (.bool true)], args := [d1, d2] }
  | _ => none }
def optimizeGraphRow : OpenClaim := { program := "ytoeklllahpegfaa", sum := "70e83080a2170b2a1a57880518aac5c9061f5b0c043e18c55fd9641ba00381ff", func := "flightdeck/flightdecklaw40.OptimizeGraph", spec := "optimizeGraph", unfollowed := true, recurses := true, named := ["math/bits.divideError", "math/bits.overflowError"], apart := false }
def OptimizeGraphSaid : Prop := optimizeGraphRow.holds Try.pinned (OpenSpec.ofChange optimizeGraphSpec)

/-- ITS FALSE NEIGHBOUR: 'it returns false'. Refute it at one input. -/
def optimizeGraphWrong : ChangeSpec := { name := "optimizeGraph", fn := fun _ => fun
  | [d1, d2] => { results := [.lit (.bool false)], args := [d1, d2] }
  | _ => none }
def OptimizeGraphWrongFalsely : Prop := optimizeGraphRow.holds Try.pinned (OpenSpec.ofChange optimizeGraphWrong)

/-- 'flightdecklaw40.OptimizeSolves': WHATEVER THE INPUT: true; the input reads as it did. -/
def optimizeSolvesSpec : ChangeSpec := { name := "optimizeSolves", fn := fun _ => fun
  | [d] => { results := [.lit (.bool true)], args := [d] }
  | _ => none }
def optimizeSolvesRow : OpenClaim := { program := "ytoeklllahpegfaa", sum := "70e83080a2170b2a1a57880518aac5c9061f5b0c043e18c55fd9641ba00381ff", func := "flightdeck/flightdecklaw40.OptimizeSolves", spec := "optimizeSolves", unfollowed := true, recurses := true, named := ["math/bits.divideError", "math/bits.overflowError"], apart := false }
def OptimizeSolvesSaid : Prop := optimizeSolvesRow.holds Try.pinned (OpenSpec.ofChange optimizeSolvesSpec)

/-- ITS FALSE NEIGHBOUR: 'it returns false'. Refute it at one input. -/
def optimizeSolvesWrong : ChangeSpec := { name := "optimizeSolves", fn := fun _ => fun
  | [d] => { results := [.lit (.bool false)], args := [d] }
  | _ => none }
def OptimizeSolvesWrongFalsely : Prop := optimizeSolvesRow.holds Try.pinned (OpenSpec.ofChange optimizeSolvesWrong)

/-- 'flightdecklaw40.OptimizeLeast': WHATEVER THE INPUT: true; the input reads as it did. -/
def optimizeLeastSpec : ChangeSpec := { name := "optimizeLeast", fn := fun _ => fun
  | [d1, d2] => { results := [.lit (.bool true)], args := [d1, d2] }
  | _ => none }
def optimizeLeastRow : OpenClaim := { program := "ytoeklllahpegfaa", sum := "70e83080a2170b2a1a57880518aac5c9061f5b0c043e18c55fd9641ba00381ff", func := "flightdeck/flightdecklaw40.OptimizeLeast", spec := "optimizeLeast", unfollowed := true, recurses := true, named := ["math/bits.divideError", "math/bits.overflowError"], apart := false }
def OptimizeLeastSaid : Prop := optimizeLeastRow.holds Try.pinned (OpenSpec.ofChange optimizeLeastSpec)

/-- ITS FALSE NEIGHBOUR: 'it returns false'. Refute it at one input. -/
def optimizeLeastWrong : ChangeSpec := { name := "optimizeLeast", fn := fun _ => fun
  | [d1, d2] => { results := [.lit (.bool false)], args := [d1, d2] }
  | _ => none }
def OptimizeLeastWrongFalsely : Prop := optimizeLeastRow.holds Try.pinned (OpenSpec.ofChange optimizeLeastWrong)

/-- 'flightdecklaw40.OptimizeRoutes': WHATEVER THE INPUT: true; the input reads as it did. -/
def optimizeRoutesSpec : ChangeSpec := { name := "optimizeRoutes", fn := fun _ => fun
  | [d1, d2] => { results := [.lit (.bool true)], args := [d1, d2] }
  | _ => none }
def optimizeRoutesRow : OpenClaim := { program := "ytoeklllahpegfaa", sum := "70e83080a2170b2a1a57880518aac5c9061f5b0c043e18c55fd9641ba00381ff", func := "flightdeck/flightdecklaw40.OptimizeRoutes", spec := "optimizeRoutes", unfollowed := true, recurses := true, named := ["math/bits.divideError", "math/bits.overflowError"], apart := false }
def OptimizeRoutesSaid : Prop := optimizeRoutesRow.holds Try.pinned (OpenSpec.ofChange optimizeRoutesSpec)

/-- ITS FALSE NEIGHBOUR: 'it returns false'. Refute it at one input. -/
def optimizeRoutesWrong : ChangeSpec := { name := "optimizeRoutes", fn := fun _ => fun
  | [d1, d2] => { results := [.lit (.bool false)], args := [d1, d2] }
  | _ => none }
def OptimizeRoutesWrongFalsely : Prop := optimizeRoutesRow.holds Try.pinned (OpenSpec.ofChange optimizeRoutesWrong)

/-- 'flightdecklaw40.OptimizeDearer': WHATEVER THE INPUT: true; the input reads as it did. -/
def optimizeDearerSpec : ChangeSpec := { name := "optimizeDearer", fn := fun _ => fun
  | [d1, d2] => { results := [.lit (.bool true)], args := [d1, d2] }
  | _ => none }
def optimizeDearerRow : OpenClaim := { program := "ytoeklllahpegfaa", sum := "70e83080a2170b2a1a57880518aac5c9061f5b0c043e18c55fd9641ba00381ff", func := "flightdeck/flightdecklaw40.OptimizeDearer", spec := "optimizeDearer", unfollowed := true, recurses := true, named := ["math/bits.divideError", "math/bits.overflowError"], apart := false }
def OptimizeDearerSaid : Prop := optimizeDearerRow.holds Try.pinned (OpenSpec.ofChange optimizeDearerSpec)

/-- ITS FALSE NEIGHBOUR: 'it returns false'. Refute it at one input. -/
def optimizeDearerWrong : ChangeSpec := { name := "optimizeDearer", fn := fun _ => fun
  | [d1, d2] => { results := [.lit (.bool false)], args := [d1, d2] }
  | _ => none }
def OptimizeDearerWrongFalsely : Prop := optimizeDearerRow.holds Try.pinned (OpenSpec.ofChange optimizeDearerWrong)

/-- 'flightdecklaw40.OptimizeProves': WHATEVER THE INPUT: true; the input reads as it did. -/
def optimizeProvesSpec : ChangeSpec := { name := "optimizeProves", fn := fun _ => fun
  | [d] => { results := [.lit (.bool true)], args := [d] }
  | _ => none }
def optimizeProvesRow : OpenClaim := { program := "ytoeklllahpegfaa", sum := "70e83080a2170b2a1a57880518aac5c9061f5b0c043e18c55fd9641ba00381ff", func := "flightdeck/flightdecklaw40.OptimizeProves", spec := "optimizeProves", unfollowed := true, recurses := true, named := ["math/bits.divideError", "math/bits.overflowError"], apart := false }
def OptimizeProvesSaid : Prop := optimizeProvesRow.holds Try.pinned (OpenSpec.ofChange optimizeProvesSpec)

/-- ITS FALSE NEIGHBOUR: 'it returns false'. Refute it at one input. -/
def optimizeProvesWrong : ChangeSpec := { name := "optimizeProves", fn := fun _ => fun
  | [d] => { results := [.lit (.bool false)], args := [d] }
  | _ => none }
def OptimizeProvesWrongFalsely : Prop := optimizeProvesRow.holds Try.pinned (OpenSpec.ofChange optimizeProvesWrong)

/-- 'flightdecktop.TopOptimal': WHATEVER THE INPUT: true; the input reads as it did. -/
def topOptimalSpec : ChangeSpec := { name := "topOptimal", fn := fun _ => fun
  | [d1, d2, d3] => { results := [.lit (.bool true)], args := [d1, d2, d3] }
  | _ => none }
def topOptimalRow : OpenClaim := { program := "ytoeklllahpegfaa", sum := "70e83080a2170b2a1a57880518aac5c9061f5b0c043e18c55fd9641ba00381ff", func := "flightdeck/flightdecktop.TopOptimal", spec := "topOptimal", unfollowed := true, recurses := true, named := ["math/bits.divideError", "math/bits.overflowError"], apart := false }
def TopOptimalSaid : Prop := topOptimalRow.holds Try.pinned (OpenSpec.ofChange topOptimalSpec)

/-- ITS FALSE NEIGHBOUR: 'it returns false'. Refute it at one input. -/
def topOptimalWrong : ChangeSpec := { name := "topOptimal", fn := fun _ => fun
  | [d1, d2, d3] => { results := [.lit (.bool false)], args := [d1, d2, d3] }
  | _ => none }
def TopOptimalWrongFalsely : Prop := topOptimalRow.holds Try.pinned (OpenSpec.ofChange topOptimalWrong)

/- THE SECOND FORM. 'bulk': how many values and letters a reading holds, each counted each time it is reached (what is shared counts as often as it is met; a slice's spare places count too). A statement '..UptoSaid' is the law's where the arguments, and the package variables that the reading takes, are together of bulk at most 1048576: NARROWER than '..Said'. Prove '..Said' where nothing that the law and all that it calls make is longer than what came in: it says more and counts as full. Else prove '..UptoSaid'. A law counts once. -/
mutual
def uptoBulk {H : Type} : DataW H → Nat
  | .lit (.string bytes) => bytes.length + 1
  | .lit _ => 1
  | .nil => 1
  | .ptr d => uptoBulk d + 1
  | .slice elems spare => uptoBulkAll elems + uptoBulkAll spare + 1
  | .agg parts => uptoBulkAll parts + 1
  | .iface _ d => uptoBulk d + 1
  | .map entries => uptoBulkEntries entries + 1
  | .held _ => 1
def uptoBulkAll {H : Type} : List (DataW H) → Nat
  | [] => 0
  | d :: r => uptoBulk d + uptoBulkAll r
def uptoBulkEntries {H : Type} : List (Lit × DataW H) → Nat
  | [] => 0
  | x :: r => uptoBulkEntry x + uptoBulkEntries r
def uptoBulkEntry {H : Type} : Lit × DataW H → Nat
  | (.string bytes, d) => bytes.length + uptoBulk d + 1
  | (_, d) => uptoBulk d + 1
 end
def uptoSmall : (H : Type) → List (DataW H) → Bool := fun _ ds => decide (uptoBulkAll ds ≤ 1048576)
def OpenSpec.upto (s : _root_.Go.ChangeSpec) : _root_.Go.OpenSpec := { _root_.Go.OpenSpec.ofChange s with cond := some uptoSmall }

/-- 'flightdecklaw40.OptimizeCosts', WHERE WHAT IT READS IS OF BULK AT MOST 1048576: true; the input reads as it did. -/
def optimizeCostsUptoRow : OpenClaim := { program := "ytoeklllahpegfaa", sum := "70e83080a2170b2a1a57880518aac5c9061f5b0c043e18c55fd9641ba00381ff", func := "flightdeck/flightdecklaw40.OptimizeCosts", spec := "optimizeCosts", unfollowed := true, recurses := true, named := ["math/bits.divideError", "math/bits.overflowError"], apart := false, narrowed := true }
def OptimizeCostsUptoSaid : Prop := optimizeCostsUptoRow.holds Try.pinned (OpenSpec.upto optimizeCostsSpec)

/-- 'flightdecklaw40.OptimizeGraph', WHERE WHAT IT READS IS OF BULK AT MOST 1048576: true; the input reads as it did. -/
def optimizeGraphUptoRow : OpenClaim := { program := "ytoeklllahpegfaa", sum := "70e83080a2170b2a1a57880518aac5c9061f5b0c043e18c55fd9641ba00381ff", func := "flightdeck/flightdecklaw40.OptimizeGraph", spec := "optimizeGraph", unfollowed := true, recurses := true, named := ["math/bits.divideError", "math/bits.overflowError"], apart := false, narrowed := true }
def OptimizeGraphUptoSaid : Prop := optimizeGraphUptoRow.holds Try.pinned (OpenSpec.upto optimizeGraphSpec)

/-- 'flightdecklaw40.OptimizeSolves', WHERE WHAT IT READS IS OF BULK AT MOST 1048576: true; the input reads as it did. -/
def optimizeSolvesUptoRow : OpenClaim := { program := "ytoeklllahpegfaa", sum := "70e83080a2170b2a1a57880518aac5c9061f5b0c043e18c55fd9641ba00381ff", func := "flightdeck/flightdecklaw40.OptimizeSolves", spec := "optimizeSolves", unfollowed := true, recurses := true, named := ["math/bits.divideError", "math/bits.overflowError"], apart := false, narrowed := true }
def OptimizeSolvesUptoSaid : Prop := optimizeSolvesUptoRow.holds Try.pinned (OpenSpec.upto optimizeSolvesSpec)

/-- 'flightdecklaw40.OptimizeLeast', WHERE WHAT IT READS IS OF BULK AT MOST 1048576: true; the input reads as it did. -/
def optimizeLeastUptoRow : OpenClaim := { program := "ytoeklllahpegfaa", sum := "70e83080a2170b2a1a57880518aac5c9061f5b0c043e18c55fd9641ba00381ff", func := "flightdeck/flightdecklaw40.OptimizeLeast", spec := "optimizeLeast", unfollowed := true, recurses := true, named := ["math/bits.divideError", "math/bits.overflowError"], apart := false, narrowed := true }
def OptimizeLeastUptoSaid : Prop := optimizeLeastUptoRow.holds Try.pinned (OpenSpec.upto optimizeLeastSpec)

/-- 'flightdecklaw40.OptimizeRoutes', WHERE WHAT IT READS IS OF BULK AT MOST 1048576: true; the input reads as it did. -/
def optimizeRoutesUptoRow : OpenClaim := { program := "ytoeklllahpegfaa", sum := "70e83080a2170b2a1a57880518aac5c9061f5b0c043e18c55fd9641ba00381ff", func := "flightdeck/flightdecklaw40.OptimizeRoutes", spec := "optimizeRoutes", unfollowed := true, recurses := true, named := ["math/bits.divideError", "math/bits.overflowError"], apart := false, narrowed := true }
def OptimizeRoutesUptoSaid : Prop := optimizeRoutesUptoRow.holds Try.pinned (OpenSpec.upto optimizeRoutesSpec)

/-- 'flightdecklaw40.OptimizeDearer', WHERE WHAT IT READS IS OF BULK AT MOST 1048576: true; the input reads as it did. -/
def optimizeDearerUptoRow : OpenClaim := { program := "ytoeklllahpegfaa", sum := "70e83080a2170b2a1a57880518aac5c9061f5b0c043e18c55fd9641ba00381ff", func := "flightdeck/flightdecklaw40.OptimizeDearer", spec := "optimizeDearer", unfollowed := true, recurses := true, named := ["math/bits.divideError", "math/bits.overflowError"], apart := false, narrowed := true }
def OptimizeDearerUptoSaid : Prop := optimizeDearerUptoRow.holds Try.pinned (OpenSpec.upto optimizeDearerSpec)

/-- 'flightdecklaw40.OptimizeProves', WHERE WHAT IT READS IS OF BULK AT MOST 1048576: true; the input reads as it did. -/
def optimizeProvesUptoRow : OpenClaim := { program := "ytoeklllahpegfaa", sum := "70e83080a2170b2a1a57880518aac5c9061f5b0c043e18c55fd9641ba00381ff", func := "flightdeck/flightdecklaw40.OptimizeProves", spec := "optimizeProves", unfollowed := true, recurses := true, named := ["math/bits.divideError", "math/bits.overflowError"], apart := false, narrowed := true }
def OptimizeProvesUptoSaid : Prop := optimizeProvesUptoRow.holds Try.pinned (OpenSpec.upto optimizeProvesSpec)

/-- 'flightdecktop.TopOptimal', WHERE WHAT IT READS IS OF BULK AT MOST 1048576: true; the input reads as it did. -/
def topOptimalUptoRow : OpenClaim := { program := "ytoeklllahpegfaa", sum := "70e83080a2170b2a1a57880518aac5c9061f5b0c043e18c55fd9641ba00381ff", func := "flightdeck/flightdecktop.TopOptimal", spec := "topOptimal", unfollowed := true, recurses := true, named := ["math/bits.divideError", "math/bits.overflowError"], apart := false, narrowed := true }
def TopOptimalUptoSaid : Prop := topOptimalUptoRow.holds Try.pinned (OpenSpec.upto topOptimalSpec)

end Rows
end Go.Proofs.Ytoeklllahpegfaa
