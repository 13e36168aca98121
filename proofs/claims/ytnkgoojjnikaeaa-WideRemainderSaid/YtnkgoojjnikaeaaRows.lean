/-
  No cell of these rows narrows 'for every input' (looked for: loops, veiled, ifaces, maps, wideKeys, modest, calm, conditions, laid).
  DERIVED. THE GIVEN ROWS OF THIS SEAT. 10 by the template 'for every input the law returns true; each argument reads behind the call as it read before'; 0 by the template 'total and deterministic' (their statements: YtnkgoojjnikaeaaTotals.lean).
  GIVEN WITH THE SEED: the statements are not yours to turn. If you find one false, say at which input.
  Laid BY PROGRAM, IN A SANDBOX (cutbox-rows.mjs): the forced cells as the released guide's own fill.sh prints them over the translation a8340859521babce… (all of the seat's roots in one cut). By AI agents, Wed Nov 11 2026. No macro, syntax, notation, axiom, sorry.
-/
import Derived.Test.YtnkgoojjnikaeaaChecked
import GoSem.Claim
import GoSem.ClaimJoined
import GoSem.ClaimMapViews
import Derived.JoinedTies
import Derived.KernelRfl
namespace Go.Proofs.Ytnkgoojjnikaeaa
/- THE CELL 'sum', in the pinned program and in every row, IS THE sha256 OF THE DUMP (.gsa) THAT YtnkgoojjnikaeaaProg.lean LOADS. Nothing in Lean hashes anything: it is a label: what it is worth is what the hold of that sum in a sandbox is worth. -/
noncomputable def Try.pinned : Pinned := { name := "ytnkgoojjnikaeaa", sum := "a8340859521babceb273cc83aa8d505b81ee0d6982205692ad21a165be9b0dcf", checked := Try.checked }
namespace Rows
def none {H : Type} : Left H := { results := [], args := [] }

/-- 'flightdecklaw02.WideQuotients': WHATEVER THE INPUT: true; the input reads as it did. -/
def wideQuotientsSpec : ChangeSpec := { name := "wideQuotients", fn := fun _ => fun
  | [d1, d2] => { results := [.lit (.bool true)], args := [d1, d2] }
  | _ => none }
def wideQuotientsRow : OpenClaim := { program := "ytnkgoojjnikaeaa", sum := "a8340859521babceb273cc83aa8d505b81ee0d6982205692ad21a165be9b0dcf", func := "flightdeck/flightdecklaw02.WideQuotients", spec := "wideQuotients", inPlace := ["math/bits.Sub64", "math/bits.Add64"], named := ["math/bits.divideError", "math/bits.overflowError"], apart := false }
def WideQuotientsSaid : Prop := wideQuotientsRow.holds Try.pinned (OpenSpec.ofChange wideQuotientsSpec)

/-- ITS FALSE NEIGHBOUR: 'it returns false'. Refute it at one input. -/
def wideQuotientsWrong : ChangeSpec := { name := "wideQuotients", fn := fun _ => fun
  | [d1, d2] => { results := [.lit (.bool false)], args := [d1, d2] }
  | _ => none }
def WideQuotientsWrongFalsely : Prop := wideQuotientsRow.holds Try.pinned (OpenSpec.ofChange wideQuotientsWrong)

/-- 'flightdecklaw02.WideRoots': WHATEVER THE INPUT: true; the input reads as it did. -/
def wideRootsSpec : ChangeSpec := { name := "wideRoots", fn := fun _ => fun
  | [d1, d2] => { results := [.lit (.bool true)], args := [d1, d2] }
  | _ => none }
def wideRootsRow : OpenClaim := { program := "ytnkgoojjnikaeaa", sum := "a8340859521babceb273cc83aa8d505b81ee0d6982205692ad21a165be9b0dcf", func := "flightdeck/flightdecklaw02.WideRoots", spec := "wideRoots", inPlace := ["math/bits.Sub64", "math/bits.Add64"], named := ["math/bits.divideError", "math/bits.overflowError"], apart := false }
def WideRootsSaid : Prop := wideRootsRow.holds Try.pinned (OpenSpec.ofChange wideRootsSpec)

/-- ITS FALSE NEIGHBOUR: 'it returns false'. Refute it at one input. -/
def wideRootsWrong : ChangeSpec := { name := "wideRoots", fn := fun _ => fun
  | [d1, d2] => { results := [.lit (.bool false)], args := [d1, d2] }
  | _ => none }
def WideRootsWrongFalsely : Prop := wideRootsRow.holds Try.pinned (OpenSpec.ofChange wideRootsWrong)

/-- 'flightdecklaw02.WideTexts': WHATEVER THE INPUT: true; the input reads as it did. -/
def wideTextsSpec : ChangeSpec := { name := "wideTexts", fn := fun _ => fun
  | [d] => { results := [.lit (.bool true)], args := [d] }
  | _ => none }
def wideTextsRow : OpenClaim := { program := "ytnkgoojjnikaeaa", sum := "a8340859521babceb273cc83aa8d505b81ee0d6982205692ad21a165be9b0dcf", func := "flightdeck/flightdecklaw02.WideTexts", spec := "wideTexts", inPlace := ["math/bits.Sub64", "math/bits.Add64"], named := ["math/bits.divideError", "math/bits.overflowError"], apart := false }
def WideTextsSaid : Prop := wideTextsRow.holds Try.pinned (OpenSpec.ofChange wideTextsSpec)

/-- ITS FALSE NEIGHBOUR: 'it returns false'. Refute it at one input. -/
def wideTextsWrong : ChangeSpec := { name := "wideTexts", fn := fun _ => fun
  | [d] => { results := [.lit (.bool false)], args := [d] }
  | _ => none }
def WideTextsWrongFalsely : Prop := wideTextsRow.holds Try.pinned (OpenSpec.ofChange wideTextsWrong)

/-- 'flightdecklaw02.WideParses': WHATEVER THE INPUT: true; the input reads as it did. -/
def wideParsesSpec : ChangeSpec := { name := "wideParses", fn := fun _ => fun
  | [d] => { results := [.lit (.bool true)], args := [d] }
  | _ => none }
def wideParsesRow : OpenClaim := { program := "ytnkgoojjnikaeaa", sum := "a8340859521babceb273cc83aa8d505b81ee0d6982205692ad21a165be9b0dcf", func := "flightdeck/flightdecklaw02.WideParses", spec := "wideParses", inPlace := ["math/bits.Sub64", "math/bits.Add64"], named := ["math/bits.divideError", "math/bits.overflowError"], apart := false }
def WideParsesSaid : Prop := wideParsesRow.holds Try.pinned (OpenSpec.ofChange wideParsesSpec)

/-- ITS FALSE NEIGHBOUR: 'it returns false'. Refute it at one input. -/
def wideParsesWrong : ChangeSpec := { name := "wideParses", fn := fun _ => fun
  | [d] => { results := [.lit (.bool false)], args := [d] }
  | _ => none }
def WideParsesWrongFalsely : Prop := wideParsesRow.holds Try.pinned (OpenSpec.ofChange wideParsesWrong)

/-- 'flightdecklaw02.WideSums': WHATEVER THE INPUT: true; the input reads as it did. -/
def wideSumsSpec : ChangeSpec := { name := "wideSums", fn := fun _ => fun
  | [d1, d2] => { results := [.lit (.bool true)], args := [d1, d2] }
  | _ => none }
def wideSumsRow : OpenClaim := { program := "ytnkgoojjnikaeaa", sum := "a8340859521babceb273cc83aa8d505b81ee0d6982205692ad21a165be9b0dcf", func := "flightdeck/flightdecklaw02.WideSums", spec := "wideSums", inPlace := ["math/bits.Sub64", "math/bits.Add64"], named := ["math/bits.divideError", "math/bits.overflowError"], apart := false }
def WideSumsSaid : Prop := wideSumsRow.holds Try.pinned (OpenSpec.ofChange wideSumsSpec)

/-- ITS FALSE NEIGHBOUR: 'it returns false'. Refute it at one input. -/
def wideSumsWrong : ChangeSpec := { name := "wideSums", fn := fun _ => fun
  | [d1, d2] => { results := [.lit (.bool false)], args := [d1, d2] }
  | _ => none }
def WideSumsWrongFalsely : Prop := wideSumsRow.holds Try.pinned (OpenSpec.ofChange wideSumsWrong)

/-- 'flightdecklaw02.WideOrder': WHATEVER THE INPUT: true; the input reads as it did. -/
def wideOrderSpec : ChangeSpec := { name := "wideOrder", fn := fun _ => fun
  | [d1, d2, d3] => { results := [.lit (.bool true)], args := [d1, d2, d3] }
  | _ => none }
def wideOrderRow : OpenClaim := { program := "ytnkgoojjnikaeaa", sum := "a8340859521babceb273cc83aa8d505b81ee0d6982205692ad21a165be9b0dcf", func := "flightdeck/flightdecklaw02.WideOrder", spec := "wideOrder", inPlace := ["math/bits.Sub64", "math/bits.Add64"], named := ["math/bits.divideError", "math/bits.overflowError"], apart := false }
def WideOrderSaid : Prop := wideOrderRow.holds Try.pinned (OpenSpec.ofChange wideOrderSpec)

/-- ITS FALSE NEIGHBOUR: 'it returns false'. Refute it at one input. -/
def wideOrderWrong : ChangeSpec := { name := "wideOrder", fn := fun _ => fun
  | [d1, d2, d3] => { results := [.lit (.bool false)], args := [d1, d2, d3] }
  | _ => none }
def WideOrderWrongFalsely : Prop := wideOrderRow.holds Try.pinned (OpenSpec.ofChange wideOrderWrong)

/-- 'flightdecklaw02.WideProducts': WHATEVER THE INPUT: true; the input reads as it did. -/
def wideProductsSpec : ChangeSpec := { name := "wideProducts", fn := fun _ => fun
  | [d1, d2, d3] => { results := [.lit (.bool true)], args := [d1, d2, d3] }
  | _ => none }
def wideProductsRow : OpenClaim := { program := "ytnkgoojjnikaeaa", sum := "a8340859521babceb273cc83aa8d505b81ee0d6982205692ad21a165be9b0dcf", func := "flightdeck/flightdecklaw02.WideProducts", spec := "wideProducts", inPlace := ["math/bits.Sub64", "math/bits.Add64"], named := ["math/bits.divideError", "math/bits.overflowError"], apart := false }
def WideProductsSaid : Prop := wideProductsRow.holds Try.pinned (OpenSpec.ofChange wideProductsSpec)

/-- ITS FALSE NEIGHBOUR: 'it returns false'. Refute it at one input. -/
def wideProductsWrong : ChangeSpec := { name := "wideProducts", fn := fun _ => fun
  | [d1, d2, d3] => { results := [.lit (.bool false)], args := [d1, d2, d3] }
  | _ => none }
def WideProductsWrongFalsely : Prop := wideProductsRow.holds Try.pinned (OpenSpec.ofChange wideProductsWrong)

/-- 'flightdecklaw02.WideRing': WHATEVER THE INPUT: true; the input reads as it did. -/
def wideRingSpec : ChangeSpec := { name := "wideRing", fn := fun _ => fun
  | [d1, d2, d3] => { results := [.lit (.bool true)], args := [d1, d2, d3] }
  | _ => none }
def wideRingRow : OpenClaim := { program := "ytnkgoojjnikaeaa", sum := "a8340859521babceb273cc83aa8d505b81ee0d6982205692ad21a165be9b0dcf", func := "flightdeck/flightdecklaw02.WideRing", spec := "wideRing", inPlace := ["math/bits.Sub64", "math/bits.Add64"], named := ["math/bits.divideError", "math/bits.overflowError"], apart := false }
def WideRingSaid : Prop := wideRingRow.holds Try.pinned (OpenSpec.ofChange wideRingSpec)

/-- ITS FALSE NEIGHBOUR: 'it returns false'. Refute it at one input. -/
def wideRingWrong : ChangeSpec := { name := "wideRing", fn := fun _ => fun
  | [d1, d2, d3] => { results := [.lit (.bool false)], args := [d1, d2, d3] }
  | _ => none }
def WideRingWrongFalsely : Prop := wideRingRow.holds Try.pinned (OpenSpec.ofChange wideRingWrong)

/-- 'flightdecklaw02.WideRemainder': WHATEVER THE INPUT: true; the input reads as it did. -/
def wideRemainderSpec : ChangeSpec := { name := "wideRemainder", fn := fun _ => fun
  | [d1, d2] => { results := [.lit (.bool true)], args := [d1, d2] }
  | _ => none }
def wideRemainderRow : OpenClaim := { program := "ytnkgoojjnikaeaa", sum := "a8340859521babceb273cc83aa8d505b81ee0d6982205692ad21a165be9b0dcf", func := "flightdeck/flightdecklaw02.WideRemainder", spec := "wideRemainder", inPlace := ["math/bits.Sub64", "math/bits.Add64"], named := ["math/bits.divideError", "math/bits.overflowError"], apart := false }
def WideRemainderSaid : Prop := wideRemainderRow.holds Try.pinned (OpenSpec.ofChange wideRemainderSpec)

/-- ITS FALSE NEIGHBOUR: 'it returns false'. Refute it at one input. -/
def wideRemainderWrong : ChangeSpec := { name := "wideRemainder", fn := fun _ => fun
  | [d1, d2] => { results := [.lit (.bool false)], args := [d1, d2] }
  | _ => none }
def WideRemainderWrongFalsely : Prop := wideRemainderRow.holds Try.pinned (OpenSpec.ofChange wideRemainderWrong)

/-- 'flightdecklaw02.WideScales': WHATEVER THE INPUT: true; the input reads as it did. -/
def wideScalesSpec : ChangeSpec := { name := "wideScales", fn := fun _ => fun
  | [d1, d2, d3] => { results := [.lit (.bool true)], args := [d1, d2, d3] }
  | _ => none }
def wideScalesRow : OpenClaim := { program := "ytnkgoojjnikaeaa", sum := "a8340859521babceb273cc83aa8d505b81ee0d6982205692ad21a165be9b0dcf", func := "flightdeck/flightdecklaw02.WideScales", spec := "wideScales", inPlace := ["math/bits.Sub64", "math/bits.Add64"], named := ["math/bits.divideError", "math/bits.overflowError"], apart := false }
def WideScalesSaid : Prop := wideScalesRow.holds Try.pinned (OpenSpec.ofChange wideScalesSpec)

/-- ITS FALSE NEIGHBOUR: 'it returns false'. Refute it at one input. -/
def wideScalesWrong : ChangeSpec := { name := "wideScales", fn := fun _ => fun
  | [d1, d2, d3] => { results := [.lit (.bool false)], args := [d1, d2, d3] }
  | _ => none }
def WideScalesWrongFalsely : Prop := wideScalesRow.holds Try.pinned (OpenSpec.ofChange wideScalesWrong)

/- THE SECOND FORM. 'bulk': how many values and letters a reading holds, each counted each time it is reached (what is shared counts as often as it is met; a slice's spare places count too). A statement '..UptoSaid' is the law's where the arguments, and the package variables that the reading takes, are together of bulk at most 1048576: NARROWER than '..Said'. Prove '..Said' where nothing that the law and all that it calls make is longer than what came in: it says more and counts as full. Else prove '..UptoSaid'. A law counts once. -/
mutual
def uptoBulk {H : Type} : DataW H → Nat
  | .lit (.string bytes) => bytes.length + 1
  | .lit _ => 1
  | .nil => 1
  | .ptr d => uptoBulk d + 1
  | .slice elems spare => uptoBulkAll elems + uptoBulkAll spare + 1
  | .agg parts => uptoBulkAll parts + 1
  | .iface _ d => uptoBulk d + 1
  | .map entries => uptoBulkEntries entries + 1
  | .held _ => 1
def uptoBulkAll {H : Type} : List (DataW H) → Nat
  | [] => 0
  | d :: r => uptoBulk d + uptoBulkAll r
def uptoBulkEntries {H : Type} : List (Lit × DataW H) → Nat
  | [] => 0
  | x :: r => uptoBulkEntry x + uptoBulkEntries r
def uptoBulkEntry {H : Type} : Lit × DataW H → Nat
  | (.string bytes, d) => bytes.length + uptoBulk d + 1
  | (_, d) => uptoBulk d + 1
 end
def uptoSmall : (H : Type) → List (DataW H) → Bool := fun _ ds => decide (uptoBulkAll ds ≤ 1048576)
def OpenSpec.upto (s : _root_.Go.ChangeSpec) : _root_.Go.OpenSpec := { _root_.Go.OpenSpec.ofChange s with cond := some uptoSmall }

/-- 'flightdecklaw02.WideQuotients', WHERE WHAT IT READS IS OF BULK AT MOST 1048576: true; the input reads as it did. -/
def wideQuotientsUptoRow : OpenClaim := { program := "ytnkgoojjnikaeaa", sum := "a8340859521babceb273cc83aa8d505b81ee0d6982205692ad21a165be9b0dcf", func := "flightdeck/flightdecklaw02.WideQuotients", spec := "wideQuotients", inPlace := ["math/bits.Sub64", "math/bits.Add64"], named := ["math/bits.divideError", "math/bits.overflowError"], apart := false, narrowed := true }
def WideQuotientsUptoSaid : Prop := wideQuotientsUptoRow.holds Try.pinned (OpenSpec.upto wideQuotientsSpec)

/-- 'flightdecklaw02.WideRoots', WHERE WHAT IT READS IS OF BULK AT MOST 1048576: true; the input reads as it did. -/
def wideRootsUptoRow : OpenClaim := { program := "ytnkgoojjnikaeaa", sum := "a8340859521babceb273cc83aa8d505b81ee0d6982205692ad21a165be9b0dcf", func := "flightdeck/flightdecklaw02.WideRoots", spec := "wideRoots", inPlace := ["math/bits.Sub64", "math/bits.Add64"], named := ["math/bits.divideError", "math/bits.overflowError"], apart := false, narrowed := true }
def WideRootsUptoSaid : Prop := wideRootsUptoRow.holds Try.pinned (OpenSpec.upto wideRootsSpec)

/-- 'flightdecklaw02.WideTexts', WHERE WHAT IT READS IS OF BULK AT MOST 1048576: true; the input reads as it did. -/
def wideTextsUptoRow : OpenClaim := { program := "ytnkgoojjnikaeaa", sum := "a8340859521babceb273cc83aa8d505b81ee0d6982205692ad21a165be9b0dcf", func := "flightdeck/flightdecklaw02.WideTexts", spec := "wideTexts", inPlace := ["math/bits.Sub64", "math/bits.Add64"], named := ["math/bits.divideError", "math/bits.overflowError"], apart := false, narrowed := true }
def WideTextsUptoSaid : Prop := wideTextsUptoRow.holds Try.pinned (OpenSpec.upto wideTextsSpec)

/-- 'flightdecklaw02.WideParses', WHERE WHAT IT READS IS OF BULK AT MOST 1048576: true; the input reads as it did. -/
def wideParsesUptoRow : OpenClaim := { program := "ytnkgoojjnikaeaa", sum := "a8340859521babceb273cc83aa8d505b81ee0d6982205692ad21a165be9b0dcf", func := "flightdeck/flightdecklaw02.WideParses", spec := "wideParses", inPlace := ["math/bits.Sub64", "math/bits.Add64"], named := ["math/bits.divideError", "math/bits.overflowError"], apart := false, narrowed := true }
def WideParsesUptoSaid : Prop := wideParsesUptoRow.holds Try.pinned (OpenSpec.upto wideParsesSpec)

/-- 'flightdecklaw02.WideSums', WHERE WHAT IT READS IS OF BULK AT MOST 1048576: true; the input reads as it did. -/
def wideSumsUptoRow : OpenClaim := { program := "ytnkgoojjnikaeaa", sum := "a8340859521babceb273cc83aa8d505b81ee0d6982205692ad21a165be9b0dcf", func := "flightdeck/flightdecklaw02.WideSums", spec := "wideSums", inPlace := ["math/bits.Sub64", "math/bits.Add64"], named := ["math/bits.divideError", "math/bits.overflowError"], apart := false, narrowed := true }
def WideSumsUptoSaid : Prop := wideSumsUptoRow.holds Try.pinned (OpenSpec.upto wideSumsSpec)

/-- 'flightdecklaw02.WideOrder', WHERE WHAT IT READS IS OF BULK AT MOST 1048576: true; the input reads as it did. -/
def wideOrderUptoRow : OpenClaim := { program := "ytnkgoojjnikaeaa", sum := "a8340859521babceb273cc83aa8d505b81ee0d6982205692ad21a165be9b0dcf", func := "flightdeck/flightdecklaw02.WideOrder", spec := "wideOrder", inPlace := ["math/bits.Sub64", "math/bits.Add64"], named := ["math/bits.divideError", "math/bits.overflowError"], apart := false, narrowed := true }
def WideOrderUptoSaid : Prop := wideOrderUptoRow.holds Try.pinned (OpenSpec.upto wideOrderSpec)

/-- 'flightdecklaw02.WideProducts', WHERE WHAT IT READS IS OF BULK AT MOST 1048576: true; the input reads as it did. -/
def wideProductsUptoRow : OpenClaim := { program := "ytnkgoojjnikaeaa", sum := "a8340859521babceb273cc83aa8d505b81ee0d6982205692ad21a165be9b0dcf", func := "flightdeck/flightdecklaw02.WideProducts", spec := "wideProducts", inPlace := ["math/bits.Sub64", "math/bits.Add64"], named := ["math/bits.divideError", "math/bits.overflowError"], apart := false, narrowed := true }
def WideProductsUptoSaid : Prop := wideProductsUptoRow.holds Try.pinned (OpenSpec.upto wideProductsSpec)

/-- 'flightdecklaw02.WideRing', WHERE WHAT IT READS IS OF BULK AT MOST 1048576: true; the input reads as it did. -/
def wideRingUptoRow : OpenClaim := { program := "ytnkgoojjnikaeaa", sum := "a8340859521babceb273cc83aa8d505b81ee0d6982205692ad21a165be9b0dcf", func := "flightdeck/flightdecklaw02.WideRing", spec := "wideRing", inPlace := ["math/bits.Sub64", "math/bits.Add64"], named := ["math/bits.divideError", "math/bits.overflowError"], apart := false, narrowed := true }
def WideRingUptoSaid : Prop := wideRingUptoRow.holds Try.pinned (OpenSpec.upto wideRingSpec)

/-- 'flightdecklaw02.WideRemainder', WHERE WHAT IT READS IS OF BULK AT MOST 1048576: true; the input reads as it did. -/
def wideRemainderUptoRow : OpenClaim := { program := "ytnkgoojjnikaeaa", sum := "a8340859521babceb273cc83aa8d505b81ee0d6982205692ad21a165be9b0dcf", func := "flightdeck/flightdecklaw02.WideRemainder", spec := "wideRemainder", inPlace := ["math/bits.Sub64", "math/bits.Add64"], named := ["math/bits.divideError", "math/bits.overflowError"], apart := false, narrowed := true }
def WideRemainderUptoSaid : Prop := wideRemainderUptoRow.holds Try.pinned (OpenSpec.upto wideRemainderSpec)

/-- 'flightdecklaw02.WideScales', WHERE WHAT IT READS IS OF BULK AT MOST 1048576: true; the input reads as it did. -/
def wideScalesUptoRow : OpenClaim := { program := "ytnkgoojjnikaeaa", sum := "a8340859521babceb273cc83aa8d505b81ee0d6982205692ad21a165be9b0dcf", func := "flightdeck/flightdecklaw02.WideScales", spec := "wideScales", inPlace := ["math/bits.Sub64", "math/bits.Add64"], named := ["math/bits.divideError", "math/bits.overflowError"], apart := false, narrowed := true }
def WideScalesUptoSaid : Prop := wideScalesUptoRow.holds Try.pinned (OpenSpec.upto wideScalesSpec)

end Rows
end Go.Proofs.Ytnkgoojjnikaeaa
