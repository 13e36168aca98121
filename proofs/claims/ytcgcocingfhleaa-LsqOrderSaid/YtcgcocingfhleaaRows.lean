/-
  No cell of these rows narrows 'for every input' (looked for: loops, veiled, ifaces, maps, wideKeys, modest, calm, conditions, laid).
  DERIVED. THE GIVEN ROWS OF THIS SEAT. 10 by the template 'for every input the law returns true; each argument reads behind the call as it read before'; 0 by the template 'total and deterministic' (their statements: YtcgcocingfhleaaTotals.lean).
  GIVEN WITH THE SEED: the statements are not yours to turn. If you find one false, say at which input.
  Laid BY PROGRAM, IN A SANDBOX (cutbox-rows.mjs): the forced cells as the released guide's own fill.sh prints them over the translation 84e2739a3553b11b… (all of the seat's roots in one cut). By AI agents, Wed Nov 11 2026. No macro, syntax, notation, axiom, sorry.
-/
import Derived.Test.YtcgcocingfhleaaChecked
import GoSem.Claim
import GoSem.ClaimJoined
import GoSem.ClaimMapViews
import Derived.JoinedTies
import Derived.KernelRfl
namespace Go.Proofs.Ytcgcocingfhleaa
/- THE CELL 'sum', in the pinned program and in every row, IS THE sha256 OF THE DUMP (.gsa) THAT YtcgcocingfhleaaProg.lean LOADS. Nothing in Lean hashes anything: it is a label: what it is worth is what the hold of that sum in a sandbox is worth. -/
noncomputable def Try.pinned : Pinned := { name := "ytcgcocingfhleaa", sum := "84e2739a3553b11bbf3ffd5d465f2d7dbb962d0c8a76f8b295098753c61d51db", checked := Try.checked }
namespace Rows
def none {H : Type} : Left H := { results := [], args := [] }

/-- 'flightdecklaw42.LsqNormals': WHATEVER THE INPUT: true; the input reads as it did. -/
def lsqNormalsSpec : ChangeSpec := { name := "lsqNormals", fn := fun _ => fun
  | [d] => { results := [.lit (.bool true)], args := [d] }
  | _ => none }
def lsqNormalsRow : OpenClaim := { program := "ytcgcocingfhleaa", sum := "84e2739a3553b11bbf3ffd5d465f2d7dbb962d0c8a76f8b295098753c61d51db", func := "flightdeck/flightdecklaw42.LsqNormals", spec := "lsqNormals", inPlace := ["math/bits.Sub64", "math/bits.Add64"], apart := false }
def LsqNormalsSaid : Prop := lsqNormalsRow.holds Try.pinned (OpenSpec.ofChange lsqNormalsSpec)

/-- ITS FALSE NEIGHBOUR: 'it returns false'. Refute it at one input. -/
def lsqNormalsWrong : ChangeSpec := { name := "lsqNormals", fn := fun _ => fun
  | [d] => { results := [.lit (.bool false)], args := [d] }
  | _ => none }
def LsqNormalsWrongFalsely : Prop := lsqNormalsRow.holds Try.pinned (OpenSpec.ofChange lsqNormalsWrong)

/-- 'flightdecklaw42.LsqSolves': WHATEVER THE INPUT: true; the input reads as it did. -/
def lsqSolvesSpec : ChangeSpec := { name := "lsqSolves", fn := fun _ => fun
  | [d] => { results := [.lit (.bool true)], args := [d] }
  | _ => none }
def lsqSolvesRow : OpenClaim := { program := "ytcgcocingfhleaa", sum := "84e2739a3553b11bbf3ffd5d465f2d7dbb962d0c8a76f8b295098753c61d51db", func := "flightdeck/flightdecklaw42.LsqSolves", spec := "lsqSolves", inPlace := ["math/bits.Sub64", "math/bits.Add64"], apart := false }
def LsqSolvesSaid : Prop := lsqSolvesRow.holds Try.pinned (OpenSpec.ofChange lsqSolvesSpec)

/-- ITS FALSE NEIGHBOUR: 'it returns false'. Refute it at one input. -/
def lsqSolvesWrong : ChangeSpec := { name := "lsqSolves", fn := fun _ => fun
  | [d] => { results := [.lit (.bool false)], args := [d] }
  | _ => none }
def LsqSolvesWrongFalsely : Prop := lsqSolvesRow.holds Try.pinned (OpenSpec.ofChange lsqSolvesWrong)

/-- 'flightdecklaw42.LsqEquations': WHATEVER THE INPUT: true; the input reads as it did. -/
def lsqEquationsSpec : ChangeSpec := { name := "lsqEquations", fn := fun _ => fun
  | [d] => { results := [.lit (.bool true)], args := [d] }
  | _ => none }
def lsqEquationsRow : OpenClaim := { program := "ytcgcocingfhleaa", sum := "84e2739a3553b11bbf3ffd5d465f2d7dbb962d0c8a76f8b295098753c61d51db", func := "flightdeck/flightdecklaw42.LsqEquations", spec := "lsqEquations", inPlace := ["math/bits.Sub64", "math/bits.Add64"], apart := false }
def LsqEquationsSaid : Prop := lsqEquationsRow.holds Try.pinned (OpenSpec.ofChange lsqEquationsSpec)

/-- ITS FALSE NEIGHBOUR: 'it returns false'. Refute it at one input. -/
def lsqEquationsWrong : ChangeSpec := { name := "lsqEquations", fn := fun _ => fun
  | [d] => { results := [.lit (.bool false)], args := [d] }
  | _ => none }
def LsqEquationsWrongFalsely : Prop := lsqEquationsRow.holds Try.pinned (OpenSpec.ofChange lsqEquationsWrong)

/-- 'flightdecklaw42.LsqOrder': WHATEVER THE INPUT: true; the input reads as it did. -/
def lsqOrderSpec : ChangeSpec := { name := "lsqOrder", fn := fun _ => fun
  | [d1, d2] => { results := [.lit (.bool true)], args := [d1, d2] }
  | _ => none }
def lsqOrderRow : OpenClaim := { program := "ytcgcocingfhleaa", sum := "84e2739a3553b11bbf3ffd5d465f2d7dbb962d0c8a76f8b295098753c61d51db", func := "flightdeck/flightdecklaw42.LsqOrder", spec := "lsqOrder", inPlace := ["math/bits.Sub64", "math/bits.Add64"], apart := false }
def LsqOrderSaid : Prop := lsqOrderRow.holds Try.pinned (OpenSpec.ofChange lsqOrderSpec)

/-- ITS FALSE NEIGHBOUR: 'it returns false'. Refute it at one input. -/
def lsqOrderWrong : ChangeSpec := { name := "lsqOrder", fn := fun _ => fun
  | [d1, d2] => { results := [.lit (.bool false)], args := [d1, d2] }
  | _ => none }
def LsqOrderWrongFalsely : Prop := lsqOrderRow.holds Try.pinned (OpenSpec.ofChange lsqOrderWrong)

/-- 'flightdecklaw42.LsqShift': WHATEVER THE INPUT: true; the input reads as it did. -/
def lsqShiftSpec : ChangeSpec := { name := "lsqShift", fn := fun _ => fun
  | [d1, d2] => { results := [.lit (.bool true)], args := [d1, d2] }
  | _ => none }
def lsqShiftRow : OpenClaim := { program := "ytcgcocingfhleaa", sum := "84e2739a3553b11bbf3ffd5d465f2d7dbb962d0c8a76f8b295098753c61d51db", func := "flightdeck/flightdecklaw42.LsqShift", spec := "lsqShift", inPlace := ["math/bits.Sub64", "math/bits.Add64"], apart := false }
def LsqShiftSaid : Prop := lsqShiftRow.holds Try.pinned (OpenSpec.ofChange lsqShiftSpec)

/-- ITS FALSE NEIGHBOUR: 'it returns false'. Refute it at one input. -/
def lsqShiftWrong : ChangeSpec := { name := "lsqShift", fn := fun _ => fun
  | [d1, d2] => { results := [.lit (.bool false)], args := [d1, d2] }
  | _ => none }
def LsqShiftWrongFalsely : Prop := lsqShiftRow.holds Try.pinned (OpenSpec.ofChange lsqShiftWrong)

/-- 'flightdecklaw42.LsqLeasts': WHATEVER THE INPUT: true; the input reads as it did. -/
def lsqLeastsSpec : ChangeSpec := { name := "lsqLeasts", fn := fun _ => fun
  | [d] => { results := [.lit (.bool true)], args := [d] }
  | _ => none }
def lsqLeastsRow : OpenClaim := { program := "ytcgcocingfhleaa", sum := "84e2739a3553b11bbf3ffd5d465f2d7dbb962d0c8a76f8b295098753c61d51db", func := "flightdeck/flightdecklaw42.LsqLeasts", spec := "lsqLeasts", inPlace := ["math/bits.Sub64", "math/bits.Add64"], apart := false }
def LsqLeastsSaid : Prop := lsqLeastsRow.holds Try.pinned (OpenSpec.ofChange lsqLeastsSpec)

/-- ITS FALSE NEIGHBOUR: 'it returns false'. Refute it at one input. -/
def lsqLeastsWrong : ChangeSpec := { name := "lsqLeasts", fn := fun _ => fun
  | [d] => { results := [.lit (.bool false)], args := [d] }
  | _ => none }
def LsqLeastsWrongFalsely : Prop := lsqLeastsRow.holds Try.pinned (OpenSpec.ofChange lsqLeastsWrong)

/-- 'flightdecklaw42.LsqExact': WHATEVER THE INPUT: true; the input reads as it did. -/
def lsqExactSpec : ChangeSpec := { name := "lsqExact", fn := fun _ => fun
  | [d1, d2] => { results := [.lit (.bool true)], args := [d1, d2] }
  | _ => none }
def lsqExactRow : OpenClaim := { program := "ytcgcocingfhleaa", sum := "84e2739a3553b11bbf3ffd5d465f2d7dbb962d0c8a76f8b295098753c61d51db", func := "flightdeck/flightdecklaw42.LsqExact", spec := "lsqExact", inPlace := ["math/bits.Sub64", "math/bits.Add64"], apart := false }
def LsqExactSaid : Prop := lsqExactRow.holds Try.pinned (OpenSpec.ofChange lsqExactSpec)

/-- ITS FALSE NEIGHBOUR: 'it returns false'. Refute it at one input. -/
def lsqExactWrong : ChangeSpec := { name := "lsqExact", fn := fun _ => fun
  | [d1, d2] => { results := [.lit (.bool false)], args := [d1, d2] }
  | _ => none }
def LsqExactWrongFalsely : Prop := lsqExactRow.holds Try.pinned (OpenSpec.ofChange lsqExactWrong)

/-- 'flightdecklaw42.LsqBest': WHATEVER THE INPUT: true; the input reads as it did. -/
def lsqBestSpec : ChangeSpec := { name := "lsqBest", fn := fun _ => fun
  | [d1, d2] => { results := [.lit (.bool true)], args := [d1, d2] }
  | _ => none }
def lsqBestRow : OpenClaim := { program := "ytcgcocingfhleaa", sum := "84e2739a3553b11bbf3ffd5d465f2d7dbb962d0c8a76f8b295098753c61d51db", func := "flightdeck/flightdecklaw42.LsqBest", spec := "lsqBest", inPlace := ["math/bits.Sub64", "math/bits.Add64"], apart := false }
def LsqBestSaid : Prop := lsqBestRow.holds Try.pinned (OpenSpec.ofChange lsqBestSpec)

/-- ITS FALSE NEIGHBOUR: 'it returns false'. Refute it at one input. -/
def lsqBestWrong : ChangeSpec := { name := "lsqBest", fn := fun _ => fun
  | [d1, d2] => { results := [.lit (.bool false)], args := [d1, d2] }
  | _ => none }
def LsqBestWrongFalsely : Prop := lsqBestRow.holds Try.pinned (OpenSpec.ofChange lsqBestWrong)

/-- 'flightdecklaw42.LsqResiduals': WHATEVER THE INPUT: true; the input reads as it did. -/
def lsqResidualsSpec : ChangeSpec := { name := "lsqResiduals", fn := fun _ => fun
  | [d1, d2] => { results := [.lit (.bool true)], args := [d1, d2] }
  | _ => none }
def lsqResidualsRow : OpenClaim := { program := "ytcgcocingfhleaa", sum := "84e2739a3553b11bbf3ffd5d465f2d7dbb962d0c8a76f8b295098753c61d51db", func := "flightdeck/flightdecklaw42.LsqResiduals", spec := "lsqResiduals", inPlace := ["math/bits.Sub64", "math/bits.Add64"], apart := false }
def LsqResidualsSaid : Prop := lsqResidualsRow.holds Try.pinned (OpenSpec.ofChange lsqResidualsSpec)

/-- ITS FALSE NEIGHBOUR: 'it returns false'. Refute it at one input. -/
def lsqResidualsWrong : ChangeSpec := { name := "lsqResiduals", fn := fun _ => fun
  | [d1, d2] => { results := [.lit (.bool false)], args := [d1, d2] }
  | _ => none }
def LsqResidualsWrongFalsely : Prop := lsqResidualsRow.holds Try.pinned (OpenSpec.ofChange lsqResidualsWrong)

/-- 'flightdecktop.TopLeast': WHATEVER THE INPUT: true; the input reads as it did. -/
def topLeastSpec : ChangeSpec := { name := "topLeast", fn := fun _ => fun
  | [d1, d2, d3] => { results := [.lit (.bool true)], args := [d1, d2, d3] }
  | _ => none }
def topLeastRow : OpenClaim := { program := "ytcgcocingfhleaa", sum := "84e2739a3553b11bbf3ffd5d465f2d7dbb962d0c8a76f8b295098753c61d51db", func := "flightdeck/flightdecktop.TopLeast", spec := "topLeast", inPlace := ["math/bits.Sub64", "math/bits.Add64"], apart := false }
def TopLeastSaid : Prop := topLeastRow.holds Try.pinned (OpenSpec.ofChange topLeastSpec)

/-- ITS FALSE NEIGHBOUR: 'it returns false'. Refute it at one input. -/
def topLeastWrong : ChangeSpec := { name := "topLeast", fn := fun _ => fun
  | [d1, d2, d3] => { results := [.lit (.bool false)], args := [d1, d2, d3] }
  | _ => none }
def TopLeastWrongFalsely : Prop := topLeastRow.holds Try.pinned (OpenSpec.ofChange topLeastWrong)

/- THE SECOND FORM. 'bulk': how many values and letters a reading holds, each counted each time it is reached (what is shared counts as often as it is met; a slice's spare places count too). A statement '..UptoSaid' is the law's where the arguments, and the package variables that the reading takes, are together of bulk at most 1048576: NARROWER than '..Said'. Prove '..Said' where nothing that the law and all that it calls make is longer than what came in: it says more and counts as full. Else prove '..UptoSaid'. A law counts once. -/
mutual
def uptoBulk {H : Type} : DataW H → Nat
  | .lit (.string bytes) => bytes.length + 1
  | .lit _ => 1
  | .nil => 1
  | .ptr d => uptoBulk d + 1
  | .slice elems spare => uptoBulkAll elems + uptoBulkAll spare + 1
  | .agg parts => uptoBulkAll parts + 1
  | .iface _ d => uptoBulk d + 1
  | .map entries => uptoBulkEntries entries + 1
  | .held _ => 1
def uptoBulkAll {H : Type} : List (DataW H) → Nat
  | [] => 0
  | d :: r => uptoBulk d + uptoBulkAll r
def uptoBulkEntries {H : Type} : List (Lit × DataW H) → Nat
  | [] => 0
  | x :: r => uptoBulkEntry x + uptoBulkEntries r
def uptoBulkEntry {H : Type} : Lit × DataW H → Nat
  | (.string bytes, d) => bytes.length + uptoBulk d + 1
  | (_, d) => uptoBulk d + 1
 end
def uptoSmall : (H : Type) → List (DataW H) → Bool := fun _ ds => decide (uptoBulkAll ds ≤ 1048576)
def OpenSpec.upto (s : _root_.Go.ChangeSpec) : _root_.Go.OpenSpec := { _root_.Go.OpenSpec.ofChange s with cond := some uptoSmall }

/-- 'flightdecklaw42.LsqNormals', WHERE WHAT IT READS IS OF BULK AT MOST 1048576: true; the input reads as it did. -/
def lsqNormalsUptoRow : OpenClaim := { program := "ytcgcocingfhleaa", sum := "84e2739a3553b11bbf3ffd5d465f2d7dbb962d0c8a76f8b295098753c61d51db", func := "flightdeck/flightdecklaw42.LsqNormals", spec := "lsqNormals", inPlace := ["math/bits.Sub64", "math/bits.Add64"], apart := false, narrowed := true }
def LsqNormalsUptoSaid : Prop := lsqNormalsUptoRow.holds Try.pinned (OpenSpec.upto lsqNormalsSpec)

/-- 'flightdecklaw42.LsqSolves', WHERE WHAT IT READS IS OF BULK AT MOST 1048576: true; the input reads as it did. -/
def lsqSolvesUptoRow : OpenClaim := { program := "ytcgcocingfhleaa", sum := "84e2739a3553b11bbf3ffd5d465f2d7dbb962d0c8a76f8b295098753c61d51db", func := "flightdeck/flightdecklaw42.LsqSolves", spec := "lsqSolves", inPlace := ["math/bits.Sub64", "math/bits.Add64"], apart := false, narrowed := true }
def LsqSolvesUptoSaid : Prop := lsqSolvesUptoRow.holds Try.pinned (OpenSpec.upto lsqSolvesSpec)

/-- 'flightdecklaw42.LsqEquations', WHERE WHAT IT READS IS OF BULK AT MOST 1048576: true; the input reads as it did. -/
def lsqEquationsUptoRow : OpenClaim := { program := "ytcgcocingfhleaa", sum := "84e2739a3553b11bbf3ffd5d465f2d7dbb962d0c8a76f8b295098753c61d51db", func := "flightdeck/flightdecklaw42.LsqEquations", spec := "lsqEquations", inPlace := ["math/bits.Sub64", "math/bits.Add64"], apart := false, narrowed := true }
def LsqEquationsUptoSaid : Prop := lsqEquationsUptoRow.holds Try.pinned (OpenSpec.upto lsqEquationsSpec)

/-- 'flightdecklaw42.LsqOrder', WHERE WHAT IT READS IS OF BULK AT MOST 1048576: true; the input reads as it did. -/
def lsqOrderUptoRow : OpenClaim := { program := "ytcgcocingfhleaa", sum := "84e2739a3553b11bbf3ffd5d465f2d7dbb962d0c8a76f8b295098753c61d51db", func := "flightdeck/flightdecklaw42.LsqOrder", spec := "lsqOrder", inPlace := ["math/bits.Sub64", "math/bits.Add64"], apart := false, narrowed := true }
def LsqOrderUptoSaid : Prop := lsqOrderUptoRow.holds Try.pinned (OpenSpec.upto lsqOrderSpec)

/-- 'flightdecklaw42.LsqShift', WHERE WHAT IT READS IS OF BULK AT MOST 1048576: true; the input reads as it did. -/
def lsqShiftUptoRow : OpenClaim := { program := "ytcgcocingfhleaa", sum := "84e2739a3553b11bbf3ffd5d465f2d7dbb962d0c8a76f8b295098753c61d51db", func := "flightdeck/flightdecklaw42.LsqShift", spec := "lsqShift", inPlace := ["math/bits.Sub64", "math/bits.Add64"], apart := false, narrowed := true }
def LsqShiftUptoSaid : Prop := lsqShiftUptoRow.holds Try.pinned (OpenSpec.upto lsqShiftSpec)

/-- 'flightdecklaw42.LsqLeasts', WHERE WHAT IT READS IS OF BULK AT MOST 1048576: true; the input reads as it did. -/
def lsqLeastsUptoRow : OpenClaim := { program := "ytcgcocingfhleaa", sum := "84e2739a3553b11bbf3ffd5d465f2d7dbb962d0c8a76f8b295098753c61d51db", func := "flightdeck/flightdecklaw42.LsqLeasts", spec := "lsqLeasts", inPlace := ["math/bits.Sub64", "math/bits.Add64"], apart := false, narrowed := true }
def LsqLeastsUptoSaid : Prop := lsqLeastsUptoRow.holds Try.pinned (OpenSpec.upto lsqLeastsSpec)

/-- 'flightdecklaw42.LsqExact', WHERE WHAT IT READS IS OF BULK AT MOST 1048576: true; the input reads as it did. -/
def lsqExactUptoRow : OpenClaim := { program := "ytcgcocingfhleaa", sum := "84e2739a3553b11bbf3ffd5d465f2d7dbb962d0c8a76f8b295098753c61d51db", func := "flightdeck/flightdecklaw42.LsqExact", spec := "lsqExact", inPlace := ["math/bits.Sub64", "math/bits.Add64"], apart := false, narrowed := true }
def LsqExactUptoSaid : Prop := lsqExactUptoRow.holds Try.pinned (OpenSpec.upto lsqExactSpec)

/-- 'flightdecklaw42.LsqBest', WHERE WHAT IT READS IS OF BULK AT MOST 1048576: true; the input reads as it did. -/
def lsqBestUptoRow : OpenClaim := { program := "ytcgcocingfhleaa", sum := "84e2739a3553b11bbf3ffd5d465f2d7dbb962d0c8a76f8b295098753c61d51db", func := "flightdeck/flightdecklaw42.LsqBest", spec := "lsqBest", inPlace := ["math/bits.Sub64", "math/bits.Add64"], apart := false, narrowed := true }
def LsqBestUptoSaid : Prop := lsqBestUptoRow.holds Try.pinned (OpenSpec.upto lsqBestSpec)

/-- 'flightdecklaw42.LsqResiduals', WHERE WHAT IT READS IS OF BULK AT MOST 1048576: true; the input reads as it did. -/
def lsqResidualsUptoRow : OpenClaim := { program := "ytcgcocingfhleaa", sum := "84e2739a3553b11bbf3ffd5d465f2d7dbb962d0c8a76f8b295098753c61d51db", func := "flightdeck/flightdecklaw42.LsqResiduals", spec := "lsqResiduals", inPlace := ["math/bits.Sub64", "math/bits.Add64"], apart := false, narrowed := true }
def LsqResidualsUptoSaid : Prop := lsqResidualsUptoRow.holds Try.pinned (OpenSpec.upto lsqResidualsSpec)

/-- 'flightdecktop.TopLeast', WHERE WHAT IT READS IS OF BULK AT MOST 1048576: true; the input reads as it did. -/
def topLeastUptoRow : OpenClaim := { program := "ytcgcocingfhleaa", sum := "84e2739a3553b11bbf3ffd5d465f2d7dbb962d0c8a76f8b295098753c61d51db", func := "flightdeck/flightdecktop.TopLeast", spec := "topLeast", inPlace := ["math/bits.Sub64", "math/bits.Add64"], apart := false, narrowed := true }
def TopLeastUptoSaid : Prop := topLeastUptoRow.holds Try.pinned (OpenSpec.upto topLeastSpec)

end Rows
end Go.Proofs.Ytcgcocingfhleaa
