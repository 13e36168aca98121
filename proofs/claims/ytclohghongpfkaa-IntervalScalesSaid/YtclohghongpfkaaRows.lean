/-
  No cell of these rows narrows 'for every input' (looked for: loops, veiled, ifaces, maps, wideKeys, modest, calm, conditions, laid).
  DERIVED. THE GIVEN ROWS OF THIS SEAT. 10 by the template 'for every input the law returns true; each argument reads behind the call as it read before'; 0 by the template 'total and deterministic' (their statements: YtclohghongpfkaaTotals.lean).
  GIVEN WITH THE SEED: the statements are not yours to turn. If you find one false, say at which input.
  Laid BY PROGRAM, IN A SANDBOX (cutbox-rows.mjs): the forced cells as the released guide's own fill.sh prints them over the translation 52c0047875f54f9e… (all of the seat's roots in one cut). By AI agents, Wed Nov 11 2026. No macro, syntax, notation, axiom, sorry.
-/
import Derived.Test.YtclohghongpfkaaChecked
import GoSem.Claim
import GoSem.ClaimJoined
import GoSem.ClaimMapViews
import Derived.JoinedTies
import Derived.KernelRfl
namespace Go.Proofs.Ytclohghongpfkaa
/- THE CELL 'sum', in the pinned program and in every row, IS THE sha256 OF THE DUMP (.gsa) THAT YtclohghongpfkaaProg.lean LOADS. Nothing in Lean hashes anything: it is a label: what it is worth is what the hold of that sum in a sandbox is worth. -/
noncomputable def Try.pinned : Pinned := { name := "ytclohghongpfkaa", sum := "52c0047875f54f9e82021d5eaba41e27f9135a3183c794e26af7929a631f2dbf", checked := Try.checked }
namespace Rows
def none {H : Type} : Left H := { results := [], args := [] }

/-- 'flightdecklaw03.IntervalProducts': WHATEVER THE INPUT: true; the input reads as it did. -/
def intervalProductsSpec : ChangeSpec := { name := "intervalProducts", fn := fun _ => fun
  | [d1, d2] => { results := [.lit (.bool true)], args := [d1, d2] }
  | _ => none }
def intervalProductsRow : OpenClaim := { program := "ytclohghongpfkaa", sum := "52c0047875f54f9e82021d5eaba41e27f9135a3183c794e26af7929a631f2dbf", func := "flightdeck/flightdecklaw03.IntervalProducts", spec := "intervalProducts", inPlace := ["math/bits.Sub64"], named := ["math/bits.divideError", "math/bits.overflowError"], apart := false }
def IntervalProductsSaid : Prop := intervalProductsRow.holds Try.pinned (OpenSpec.ofChange intervalProductsSpec)

/-- ITS FALSE NEIGHBOUR: 'it returns false'. Refute it at one input. -/
def intervalProductsWrong : ChangeSpec := { name := "intervalProducts", fn := fun _ => fun
  | [d1, d2] => { results := [.lit (.bool false)], args := [d1, d2] }
  | _ => none }
def IntervalProductsWrongFalsely : Prop := intervalProductsRow.holds Try.pinned (OpenSpec.ofChange intervalProductsWrong)

/-- 'flightdecklaw03.IntervalScales': WHATEVER THE INPUT: true; the input reads as it did. -/
def intervalScalesSpec : ChangeSpec := { name := "intervalScales", fn := fun _ => fun
  | [d1, d2, d3] => { results := [.lit (.bool true)], args := [d1, d2, d3] }
  | _ => none }
def intervalScalesRow : OpenClaim := { program := "ytclohghongpfkaa", sum := "52c0047875f54f9e82021d5eaba41e27f9135a3183c794e26af7929a631f2dbf", func := "flightdeck/flightdecklaw03.IntervalScales", spec := "intervalScales", inPlace := ["math/bits.Sub64"], named := ["math/bits.divideError", "math/bits.overflowError"], apart := false }
def IntervalScalesSaid : Prop := intervalScalesRow.holds Try.pinned (OpenSpec.ofChange intervalScalesSpec)

/-- ITS FALSE NEIGHBOUR: 'it returns false'. Refute it at one input. -/
def intervalScalesWrong : ChangeSpec := { name := "intervalScales", fn := fun _ => fun
  | [d1, d2, d3] => { results := [.lit (.bool false)], args := [d1, d2, d3] }
  | _ => none }
def IntervalScalesWrongFalsely : Prop := intervalScalesRow.holds Try.pinned (OpenSpec.ofChange intervalScalesWrong)

/-- 'flightdecklaw03.IntervalMakes': WHATEVER THE INPUT: true; the input reads as it did. -/
def intervalMakesSpec : ChangeSpec := { name := "intervalMakes", fn := fun _ => fun
  | [d1, d2, d3] => { results := [.lit (.bool true)], args := [d1, d2, d3] }
  | _ => none }
def intervalMakesRow : OpenClaim := { program := "ytclohghongpfkaa", sum := "52c0047875f54f9e82021d5eaba41e27f9135a3183c794e26af7929a631f2dbf", func := "flightdeck/flightdecklaw03.IntervalMakes", spec := "intervalMakes", inPlace := ["math/bits.Sub64"], named := ["math/bits.divideError", "math/bits.overflowError"], apart := false }
def IntervalMakesSaid : Prop := intervalMakesRow.holds Try.pinned (OpenSpec.ofChange intervalMakesSpec)

/-- ITS FALSE NEIGHBOUR: 'it returns false'. Refute it at one input. -/
def intervalMakesWrong : ChangeSpec := { name := "intervalMakes", fn := fun _ => fun
  | [d1, d2, d3] => { results := [.lit (.bool false)], args := [d1, d2, d3] }
  | _ => none }
def IntervalMakesWrongFalsely : Prop := intervalMakesRow.holds Try.pinned (OpenSpec.ofChange intervalMakesWrong)

/-- 'flightdecklaw03.IntervalTight': WHATEVER THE INPUT: true; the input reads as it did. -/
def intervalTightSpec : ChangeSpec := { name := "intervalTight", fn := fun _ => fun
  | [d1, d2] => { results := [.lit (.bool true)], args := [d1, d2] }
  | _ => none }
def intervalTightRow : OpenClaim := { program := "ytclohghongpfkaa", sum := "52c0047875f54f9e82021d5eaba41e27f9135a3183c794e26af7929a631f2dbf", func := "flightdeck/flightdecklaw03.IntervalTight", spec := "intervalTight", inPlace := ["math/bits.Sub64"], named := ["math/bits.divideError", "math/bits.overflowError"], apart := false }
def IntervalTightSaid : Prop := intervalTightRow.holds Try.pinned (OpenSpec.ofChange intervalTightSpec)

/-- ITS FALSE NEIGHBOUR: 'it returns false'. Refute it at one input. -/
def intervalTightWrong : ChangeSpec := { name := "intervalTight", fn := fun _ => fun
  | [d1, d2] => { results := [.lit (.bool false)], args := [d1, d2] }
  | _ => none }
def IntervalTightWrongFalsely : Prop := intervalTightRow.holds Try.pinned (OpenSpec.ofChange intervalTightWrong)

/-- 'flightdecklaw03.IntervalNests': WHATEVER THE INPUT: true; the input reads as it did. -/
def intervalNestsSpec : ChangeSpec := { name := "intervalNests", fn := fun _ => fun
  | [d1, d2, d3] => { results := [.lit (.bool true)], args := [d1, d2, d3] }
  | _ => none }
def intervalNestsRow : OpenClaim := { program := "ytclohghongpfkaa", sum := "52c0047875f54f9e82021d5eaba41e27f9135a3183c794e26af7929a631f2dbf", func := "flightdeck/flightdecklaw03.IntervalNests", spec := "intervalNests", inPlace := ["math/bits.Sub64"], named := ["math/bits.divideError", "math/bits.overflowError"], apart := false }
def IntervalNestsSaid : Prop := intervalNestsRow.holds Try.pinned (OpenSpec.ofChange intervalNestsSpec)

/-- ITS FALSE NEIGHBOUR: 'it returns false'. Refute it at one input. -/
def intervalNestsWrong : ChangeSpec := { name := "intervalNests", fn := fun _ => fun
  | [d1, d2, d3] => { results := [.lit (.bool false)], args := [d1, d2, d3] }
  | _ => none }
def IntervalNestsWrongFalsely : Prop := intervalNestsRow.holds Try.pinned (OpenSpec.ofChange intervalNestsWrong)

/-- 'flightdecklaw03.IntervalHulls': WHATEVER THE INPUT: true; the input reads as it did. -/
def intervalHullsSpec : ChangeSpec := { name := "intervalHulls", fn := fun _ => fun
  | [d1, d2, d3] => { results := [.lit (.bool true)], args := [d1, d2, d3] }
  | _ => none }
def intervalHullsRow : OpenClaim := { program := "ytclohghongpfkaa", sum := "52c0047875f54f9e82021d5eaba41e27f9135a3183c794e26af7929a631f2dbf", func := "flightdeck/flightdecklaw03.IntervalHulls", spec := "intervalHulls", inPlace := ["math/bits.Sub64"], named := ["math/bits.divideError", "math/bits.overflowError"], apart := false }
def IntervalHullsSaid : Prop := intervalHullsRow.holds Try.pinned (OpenSpec.ofChange intervalHullsSpec)

/-- ITS FALSE NEIGHBOUR: 'it returns false'. Refute it at one input. -/
def intervalHullsWrong : ChangeSpec := { name := "intervalHulls", fn := fun _ => fun
  | [d1, d2, d3] => { results := [.lit (.bool false)], args := [d1, d2, d3] }
  | _ => none }
def IntervalHullsWrongFalsely : Prop := intervalHullsRow.holds Try.pinned (OpenSpec.ofChange intervalHullsWrong)

/-- 'flightdecklaw03.IntervalContains': WHATEVER THE INPUT: true; the input reads as it did. -/
def intervalContainsSpec : ChangeSpec := { name := "intervalContains", fn := fun _ => fun
  | [d1, d2, d3] => { results := [.lit (.bool true)], args := [d1, d2, d3] }
  | _ => none }
def intervalContainsRow : OpenClaim := { program := "ytclohghongpfkaa", sum := "52c0047875f54f9e82021d5eaba41e27f9135a3183c794e26af7929a631f2dbf", func := "flightdeck/flightdecklaw03.IntervalContains", spec := "intervalContains", inPlace := ["math/bits.Sub64"], named := ["math/bits.divideError", "math/bits.overflowError"], apart := false }
def IntervalContainsSaid : Prop := intervalContainsRow.holds Try.pinned (OpenSpec.ofChange intervalContainsSpec)

/-- ITS FALSE NEIGHBOUR: 'it returns false'. Refute it at one input. -/
def intervalContainsWrong : ChangeSpec := { name := "intervalContains", fn := fun _ => fun
  | [d1, d2, d3] => { results := [.lit (.bool false)], args := [d1, d2, d3] }
  | _ => none }
def IntervalContainsWrongFalsely : Prop := intervalContainsRow.holds Try.pinned (OpenSpec.ofChange intervalContainsWrong)

/-- 'flightdecklaw03.IntervalSums': WHATEVER THE INPUT: true; the input reads as it did. -/
def intervalSumsSpec : ChangeSpec := { name := "intervalSums", fn := fun _ => fun
  | [d1, d2] => { results := [.lit (.bool true)], args := [d1, d2] }
  | _ => none }
def intervalSumsRow : OpenClaim := { program := "ytclohghongpfkaa", sum := "52c0047875f54f9e82021d5eaba41e27f9135a3183c794e26af7929a631f2dbf", func := "flightdeck/flightdecklaw03.IntervalSums", spec := "intervalSums", inPlace := ["math/bits.Sub64"], named := ["math/bits.divideError", "math/bits.overflowError"], apart := false }
def IntervalSumsSaid : Prop := intervalSumsRow.holds Try.pinned (OpenSpec.ofChange intervalSumsSpec)

/-- ITS FALSE NEIGHBOUR: 'it returns false'. Refute it at one input. -/
def intervalSumsWrong : ChangeSpec := { name := "intervalSums", fn := fun _ => fun
  | [d1, d2] => { results := [.lit (.bool false)], args := [d1, d2] }
  | _ => none }
def IntervalSumsWrongFalsely : Prop := intervalSumsRow.holds Try.pinned (OpenSpec.ofChange intervalSumsWrong)

/-- 'flightdecklaw03.IntervalQuotients': WHATEVER THE INPUT: true; the input reads as it did. -/
def intervalQuotientsSpec : ChangeSpec := { name := "intervalQuotients", fn := fun _ => fun
  | [d1, d2, d3] => { results := [.lit (.bool true)], args := [d1, d2, d3] }
  | _ => none }
def intervalQuotientsRow : OpenClaim := { program := "ytclohghongpfkaa", sum := "52c0047875f54f9e82021d5eaba41e27f9135a3183c794e26af7929a631f2dbf", func := "flightdeck/flightdecklaw03.IntervalQuotients", spec := "intervalQuotients", inPlace := ["math/bits.Sub64", "math/bits.Add64"], named := ["math/bits.divideError", "math/bits.overflowError"], apart := false }
def IntervalQuotientsSaid : Prop := intervalQuotientsRow.holds Try.pinned (OpenSpec.ofChange intervalQuotientsSpec)

/-- ITS FALSE NEIGHBOUR: 'it returns false'. Refute it at one input. -/
def intervalQuotientsWrong : ChangeSpec := { name := "intervalQuotients", fn := fun _ => fun
  | [d1, d2, d3] => { results := [.lit (.bool false)], args := [d1, d2, d3] }
  | _ => none }
def IntervalQuotientsWrongFalsely : Prop := intervalQuotientsRow.holds Try.pinned (OpenSpec.ofChange intervalQuotientsWrong)

/-- 'flightdecktop.TopEnclosure': WHATEVER THE INPUT: true; the input reads as it did. -/
def topEnclosureSpec : ChangeSpec := { name := "topEnclosure", fn := fun _ => fun
  | [d] => { results := [.lit (.bool true)], args := [d] }
  | _ => none }
def topEnclosureRow : OpenClaim := { program := "ytclohghongpfkaa", sum := "52c0047875f54f9e82021d5eaba41e27f9135a3183c794e26af7929a631f2dbf", func := "flightdeck/flightdecktop.TopEnclosure", spec := "topEnclosure", inPlace := ["math/bits.Sub64"], apart := false }
def TopEnclosureSaid : Prop := topEnclosureRow.holds Try.pinned (OpenSpec.ofChange topEnclosureSpec)

/-- ITS FALSE NEIGHBOUR: 'it returns false'. Refute it at one input. -/
def topEnclosureWrong : ChangeSpec := { name := "topEnclosure", fn := fun _ => fun
  | [d] => { results := [.lit (.bool false)], args := [d] }
  | _ => none }
def TopEnclosureWrongFalsely : Prop := topEnclosureRow.holds Try.pinned (OpenSpec.ofChange topEnclosureWrong)

/- THE SECOND FORM. 'bulk': how many values and letters a reading holds, each counted each time it is reached (what is shared counts as often as it is met; a slice's spare places count too). A statement '..UptoSaid' is the law's where the arguments, and the package variables that the reading takes, are together of bulk at most 1048576: NARROWER than '..Said'. Prove '..Said' where nothing that the law and all that it calls make is longer than what came in: it says more and counts as full. Else prove '..UptoSaid'. A law counts once. -/
mutual
def uptoBulk {H : Type} : DataW H → Nat
  | .lit (.string bytes) => bytes.length + 1
  | .lit _ => 1
  | .nil => 1
  | .ptr d => uptoBulk d + 1
  | .slice elems spare => uptoBulkAll elems + uptoBulkAll spare + 1
  | .agg parts => uptoBulkAll parts + 1
  | .iface _ d => uptoBulk d + 1
  | .map entries => uptoBulkEntries entries + 1
  | .held _ => 1
def uptoBulkAll {H : Type} : List (DataW H) → Nat
  | [] => 0
  | d :: r => uptoBulk d + uptoBulkAll r
def uptoBulkEntries {H : Type} : List (Lit × DataW H) → Nat
  | [] => 0
  | x :: r => uptoBulkEntry x + uptoBulkEntries r
def uptoBulkEntry {H : Type} : Lit × DataW H → Nat
  | (.string bytes, d) => bytes.length + uptoBulk d + 1
  | (_, d) => uptoBulk d + 1
 end
def uptoSmall : (H : Type) → List (DataW H) → Bool := fun _ ds => decide (uptoBulkAll ds ≤ 1048576)
def OpenSpec.upto (s : _root_.Go.ChangeSpec) : _root_.Go.OpenSpec := { _root_.Go.OpenSpec.ofChange s with cond := some uptoSmall }

/-- 'flightdecklaw03.IntervalProducts', WHERE WHAT IT READS IS OF BULK AT MOST 1048576: true; the input reads as it did. -/
def intervalProductsUptoRow : OpenClaim := { program := "ytclohghongpfkaa", sum := "52c0047875f54f9e82021d5eaba41e27f9135a3183c794e26af7929a631f2dbf", func := "flightdeck/flightdecklaw03.IntervalProducts", spec := "intervalProducts", inPlace := ["math/bits.Sub64"], named := ["math/bits.divideError", "math/bits.overflowError"], apart := false, narrowed := true }
def IntervalProductsUptoSaid : Prop := intervalProductsUptoRow.holds Try.pinned (OpenSpec.upto intervalProductsSpec)

/-- 'flightdecklaw03.IntervalScales', WHERE WHAT IT READS IS OF BULK AT MOST 1048576: true; the input reads as it did. -/
def intervalScalesUptoRow : OpenClaim := { program := "ytclohghongpfkaa", sum := "52c0047875f54f9e82021d5eaba41e27f9135a3183c794e26af7929a631f2dbf", func := "flightdeck/flightdecklaw03.IntervalScales", spec := "intervalScales", inPlace := ["math/bits.Sub64"], named := ["math/bits.divideError", "math/bits.overflowError"], apart := false, narrowed := true }
def IntervalScalesUptoSaid : Prop := intervalScalesUptoRow.holds Try.pinned (OpenSpec.upto intervalScalesSpec)

/-- 'flightdecklaw03.IntervalMakes', WHERE WHAT IT READS IS OF BULK AT MOST 1048576: true; the input reads as it did. -/
def intervalMakesUptoRow : OpenClaim := { program := "ytclohghongpfkaa", sum := "52c0047875f54f9e82021d5eaba41e27f9135a3183c794e26af7929a631f2dbf", func := "flightdeck/flightdecklaw03.IntervalMakes", spec := "intervalMakes", inPlace := ["math/bits.Sub64"], named := ["math/bits.divideError", "math/bits.overflowError"], apart := false, narrowed := true }
def IntervalMakesUptoSaid : Prop := intervalMakesUptoRow.holds Try.pinned (OpenSpec.upto intervalMakesSpec)

/-- 'flightdecklaw03.IntervalTight', WHERE WHAT IT READS IS OF BULK AT MOST 1048576: true; the input reads as it did. -/
def intervalTightUptoRow : OpenClaim := { program := "ytclohghongpfkaa", sum := "52c0047875f54f9e82021d5eaba41e27f9135a3183c794e26af7929a631f2dbf", func := "flightdeck/flightdecklaw03.IntervalTight", spec := "intervalTight", inPlace := ["math/bits.Sub64"], named := ["math/bits.divideError", "math/bits.overflowError"], apart := false, narrowed := true }
def IntervalTightUptoSaid : Prop := intervalTightUptoRow.holds Try.pinned (OpenSpec.upto intervalTightSpec)

/-- 'flightdecklaw03.IntervalNests', WHERE WHAT IT READS IS OF BULK AT MOST 1048576: true; the input reads as it did. -/
def intervalNestsUptoRow : OpenClaim := { program := "ytclohghongpfkaa", sum := "52c0047875f54f9e82021d5eaba41e27f9135a3183c794e26af7929a631f2dbf", func := "flightdeck/flightdecklaw03.IntervalNests", spec := "intervalNests", inPlace := ["math/bits.Sub64"], named := ["math/bits.divideError", "math/bits.overflowError"], apart := false, narrowed := true }
def IntervalNestsUptoSaid : Prop := intervalNestsUptoRow.holds Try.pinned (OpenSpec.upto intervalNestsSpec)

/-- 'flightdecklaw03.IntervalHulls', WHERE WHAT IT READS IS OF BULK AT MOST 1048576: true; the input reads as it did. -/
def intervalHullsUptoRow : OpenClaim := { program := "ytclohghongpfkaa", sum := "52c0047875f54f9e82021d5eaba41e27f9135a3183c794e26af7929a631f2dbf", func := "flightdeck/flightdecklaw03.IntervalHulls", spec := "intervalHulls", inPlace := ["math/bits.Sub64"], named := ["math/bits.divideError", "math/bits.overflowError"], apart := false, narrowed := true }
def IntervalHullsUptoSaid : Prop := intervalHullsUptoRow.holds Try.pinned (OpenSpec.upto intervalHullsSpec)

/-- 'flightdecklaw03.IntervalContains', WHERE WHAT IT READS IS OF BULK AT MOST 1048576: true; the input reads as it did. -/
def intervalContainsUptoRow : OpenClaim := { program := "ytclohghongpfkaa", sum := "52c0047875f54f9e82021d5eaba41e27f9135a3183c794e26af7929a631f2dbf", func := "flightdeck/flightdecklaw03.IntervalContains", spec := "intervalContains", inPlace := ["math/bits.Sub64"], named := ["math/bits.divideError", "math/bits.overflowError"], apart := false, narrowed := true }
def IntervalContainsUptoSaid : Prop := intervalContainsUptoRow.holds Try.pinned (OpenSpec.upto intervalContainsSpec)

/-- 'flightdecklaw03.IntervalSums', WHERE WHAT IT READS IS OF BULK AT MOST 1048576: true; the input reads as it did. -/
def intervalSumsUptoRow : OpenClaim := { program := "ytclohghongpfkaa", sum := "52c0047875f54f9e82021d5eaba41e27f9135a3183c794e26af7929a631f2dbf", func := "flightdeck/flightdecklaw03.IntervalSums", spec := "intervalSums", inPlace := ["math/bits.Sub64"], named := ["math/bits.divideError", "math/bits.overflowError"], apart := false, narrowed := true }
def IntervalSumsUptoSaid : Prop := intervalSumsUptoRow.holds Try.pinned (OpenSpec.upto intervalSumsSpec)

/-- 'flightdecklaw03.IntervalQuotients', WHERE WHAT IT READS IS OF BULK AT MOST 1048576: true; the input reads as it did. -/
def intervalQuotientsUptoRow : OpenClaim := { program := "ytclohghongpfkaa", sum := "52c0047875f54f9e82021d5eaba41e27f9135a3183c794e26af7929a631f2dbf", func := "flightdeck/flightdecklaw03.IntervalQuotients", spec := "intervalQuotients", inPlace := ["math/bits.Sub64", "math/bits.Add64"], named := ["math/bits.divideError", "math/bits.overflowError"], apart := false, narrowed := true }
def IntervalQuotientsUptoSaid : Prop := intervalQuotientsUptoRow.holds Try.pinned (OpenSpec.upto intervalQuotientsSpec)

/-- 'flightdecktop.TopEnclosure', WHERE WHAT IT READS IS OF BULK AT MOST 1048576: true; the input reads as it did. -/
def topEnclosureUptoRow : OpenClaim := { program := "ytclohghongpfkaa", sum := "52c0047875f54f9e82021d5eaba41e27f9135a3183c794e26af7929a631f2dbf", func := "flightdeck/flightdecktop.TopEnclosure", spec := "topEnclosure", inPlace := ["math/bits.Sub64"], apart := false, narrowed := true }
def TopEnclosureUptoSaid : Prop := topEnclosureUptoRow.holds Try.pinned (OpenSpec.upto topEnclosureSpec)

end Rows
end Go.Proofs.Ytclohghongpfkaa
