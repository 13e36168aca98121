/-
  No cell of these rows narrows 'for every input' (looked for: loops, veiled, ifaces, maps, wideKeys, modest, calm, conditions, laid).
  DERIVED. THE GIVEN ROWS OF THIS SEAT. 8 by the template 'for every input the law returns true; each argument reads behind the call as it read before'; 0 by the template 'total and deterministic' (their statements: YtoebjiocmnonnaaTotals.lean).
  GIVEN WITH THE SEED: the statements are not yours to turn. If you find one false, say at which input.
  Laid BY PROGRAM, IN A SANDBOX (cutbox-rows.mjs): the forced cells as the released guide's own fill.sh prints them over the translation 0c25c7564b0570a9… (all of the seat's roots in one cut). By AI agents, Wed Nov 11 2026. No macro, syntax, notation, axiom, sorry.
-/
import Derived.Test.YtoebjiocmnonnaaChecked
import GoSem.Claim
import GoSem.ClaimJoined
import GoSem.ClaimMapViews
import Derived.JoinedTies
import Derived.KernelRfl
namespace Go.Proofs.Ytoebjiocmnonnaa
/- THE CELL 'sum', in the pinned program and in every row, IS THE sha256 OF THE DUMP (.gsa) THAT YtoebjiocmnonnaaProg.lean LOADS. Nothing in Lean hashes anything: it is a label: what it is worth is what the hold of that sum in a sandbox is worth. -/
noncomputable def Try.pinned : Pinned := { name := "ytoebjiocmnonnaa", sum := "0c25c7564b0570a91f704084c8fad26a5f116c135d14c69ae42b8e560689c584", checked := Try.checked }
namespace Rows
def none {H : Type} : Left H := { results := [], args := [] }

/-- 'flightdecklaw32.FuelBurns': WHATEVER THE INPUT: true; the input reads as it did. -/
def fuelBurnsSpec : ChangeSpec := { name := "fuelBurns", fn := fun _ => fun
  | [d1, d2, d3] => { results := [.lit (.bool true)], args := [d1, d2, d3] }
  | _ => none }
def fuelBurnsRow : OpenClaim := { program := "ytoebjiocmnonnaa", sum := "0c25c7564b0570a91f704084c8fad26a5f116c135d14c69ae42b8e560689c584", func := "flightdeck/flightdecklaw32.FuelBurns", spec := "fuelBurns", apart := false }
def FuelBurnsSaid : Prop := fuelBurnsRow.holds Try.pinned (OpenSpec.ofChange fuelBurnsSpec)

/-- ITS FALSE NEIGHBOUR: 'it returns false'. Refute it at one input. -/
def fuelBurnsWrong : ChangeSpec := { name := "fuelBurns", fn := fun _ => fun
  | [d1, d2, d3] => { results := [.lit (.bool false)], args := [d1, d2, d3] }
  | _ => none }
def FuelBurnsWrongFalsely : Prop := fuelBurnsRow.holds Try.pinned (OpenSpec.ofChange fuelBurnsWrong)

/-- 'flightdecklaw32.FuelIntervals': WHATEVER THE INPUT: true; the input reads as it did. -/
def fuelIntervalsSpec : ChangeSpec := { name := "fuelIntervals", fn := fun _ => fun
  | [d1, d2, d3] => { results := [.lit (.bool true)], args := [d1, d2, d3] }
  | _ => none }
def fuelIntervalsRow : OpenClaim := { program := "ytoebjiocmnonnaa", sum := "0c25c7564b0570a91f704084c8fad26a5f116c135d14c69ae42b8e560689c584", func := "flightdeck/flightdecklaw32.FuelIntervals", spec := "fuelIntervals", apart := false }
def FuelIntervalsSaid : Prop := fuelIntervalsRow.holds Try.pinned (OpenSpec.ofChange fuelIntervalsSpec)

/-- ITS FALSE NEIGHBOUR: 'it returns false'. Refute it at one input. -/
def fuelIntervalsWrong : ChangeSpec := { name := "fuelIntervals", fn := fun _ => fun
  | [d1, d2, d3] => { results := [.lit (.bool false)], args := [d1, d2, d3] }
  | _ => none }
def FuelIntervalsWrongFalsely : Prop := fuelIntervalsRow.holds Try.pinned (OpenSpec.ofChange fuelIntervalsWrong)

/-- 'flightdecklaw32.FuelSplits': WHATEVER THE INPUT: true; the input reads as it did. -/
def fuelSplitsSpec : ChangeSpec := { name := "fuelSplits", fn := fun _ => fun
  | [d1, d2, d3] => { results := [.lit (.bool true)], args := [d1, d2, d3] }
  | _ => none }
def fuelSplitsRow : OpenClaim := { program := "ytoebjiocmnonnaa", sum := "0c25c7564b0570a91f704084c8fad26a5f116c135d14c69ae42b8e560689c584", func := "flightdeck/flightdecklaw32.FuelSplits", spec := "fuelSplits", apart := false }
def FuelSplitsSaid : Prop := fuelSplitsRow.holds Try.pinned (OpenSpec.ofChange fuelSplitsSpec)

/-- ITS FALSE NEIGHBOUR: 'it returns false'. Refute it at one input. -/
def fuelSplitsWrong : ChangeSpec := { name := "fuelSplits", fn := fun _ => fun
  | [d1, d2, d3] => { results := [.lit (.bool false)], args := [d1, d2, d3] }
  | _ => none }
def FuelSplitsWrongFalsely : Prop := fuelSplitsRow.holds Try.pinned (OpenSpec.ofChange fuelSplitsWrong)

/-- 'flightdecklaw32.FuelLasts': WHATEVER THE INPUT: true; the input reads as it did. -/
def fuelLastsSpec : ChangeSpec := { name := "fuelLasts", fn := fun _ => fun
  | [d1, d2] => { results := [.lit (.bool true)], args := [d1, d2] }
  | _ => none }
def fuelLastsRow : OpenClaim := { program := "ytoebjiocmnonnaa", sum := "0c25c7564b0570a91f704084c8fad26a5f116c135d14c69ae42b8e560689c584", func := "flightdeck/flightdecklaw32.FuelLasts", spec := "fuelLasts", apart := false }
def FuelLastsSaid : Prop := fuelLastsRow.holds Try.pinned (OpenSpec.ofChange fuelLastsSpec)

/-- ITS FALSE NEIGHBOUR: 'it returns false'. Refute it at one input. -/
def fuelLastsWrong : ChangeSpec := { name := "fuelLasts", fn := fun _ => fun
  | [d1, d2] => { results := [.lit (.bool false)], args := [d1, d2] }
  | _ => none }
def FuelLastsWrongFalsely : Prop := fuelLastsRow.holds Try.pinned (OpenSpec.ofChange fuelLastsWrong)

/-- 'flightdecklaw32.FuelEncloses': WHATEVER THE INPUT: true; the input reads as it did. -/
def fuelEnclosesSpec : ChangeSpec := { name := "fuelEncloses", fn := fun _ => fun
  | [d1, d2] => { results := [.lit (.bool true)], args := [d1, d2] }
  | _ => none }
def fuelEnclosesRow : OpenClaim := { program := "ytoebjiocmnonnaa", sum := "0c25c7564b0570a91f704084c8fad26a5f116c135d14c69ae42b8e560689c584", func := "flightdeck/flightdecklaw32.FuelEncloses", spec := "fuelEncloses", apart := false }
def FuelEnclosesSaid : Prop := fuelEnclosesRow.holds Try.pinned (OpenSpec.ofChange fuelEnclosesSpec)

/-- ITS FALSE NEIGHBOUR: 'it returns false'. Refute it at one input. -/
def fuelEnclosesWrong : ChangeSpec := { name := "fuelEncloses", fn := fun _ => fun
  | [d1, d2] => { results := [.lit (.bool false)], args := [d1, d2] }
  | _ => none }
def FuelEnclosesWrongFalsely : Prop := fuelEnclosesRow.holds Try.pinned (OpenSpec.ofChange fuelEnclosesWrong)

/-- 'flightdecklaw32.FuelNeeded': WHATEVER THE INPUT: true; the input reads as it did. -/
def fuelNeededSpec : ChangeSpec := { name := "fuelNeeded", fn := fun _ => fun
  | [d1, d2] => { results := [.lit (.bool true)], args := [d1, d2] }
  | _ => none }
def fuelNeededRow : OpenClaim := { program := "ytoebjiocmnonnaa", sum := "0c25c7564b0570a91f704084c8fad26a5f116c135d14c69ae42b8e560689c584", func := "flightdeck/flightdecklaw32.FuelNeeded", spec := "fuelNeeded", apart := false }
def FuelNeededSaid : Prop := fuelNeededRow.holds Try.pinned (OpenSpec.ofChange fuelNeededSpec)

/-- ITS FALSE NEIGHBOUR: 'it returns false'. Refute it at one input. -/
def fuelNeededWrong : ChangeSpec := { name := "fuelNeeded", fn := fun _ => fun
  | [d1, d2] => { results := [.lit (.bool false)], args := [d1, d2] }
  | _ => none }
def FuelNeededWrongFalsely : Prop := fuelNeededRow.holds Try.pinned (OpenSpec.ofChange fuelNeededWrong)

/-- 'flightdecklaw32.FuelAccounts': WHATEVER THE INPUT: true; the input reads as it did. -/
def fuelAccountsSpec : ChangeSpec := { name := "fuelAccounts", fn := fun _ => fun
  | [d] => { results := [.lit (.bool true)], args := [d] }
  | _ => none }
def fuelAccountsRow : OpenClaim := { program := "ytoebjiocmnonnaa", sum := "0c25c7564b0570a91f704084c8fad26a5f116c135d14c69ae42b8e560689c584", func := "flightdeck/flightdecklaw32.FuelAccounts", spec := "fuelAccounts", apart := false }
def FuelAccountsSaid : Prop := fuelAccountsRow.holds Try.pinned (OpenSpec.ofChange fuelAccountsSpec)

/-- ITS FALSE NEIGHBOUR: 'it returns false'. Refute it at one input. -/
def fuelAccountsWrong : ChangeSpec := { name := "fuelAccounts", fn := fun _ => fun
  | [d] => { results := [.lit (.bool false)], args := [d] }
  | _ => none }
def FuelAccountsWrongFalsely : Prop := fuelAccountsRow.holds Try.pinned (OpenSpec.ofChange fuelAccountsWrong)

/-- 'flightdecklaw32.FuelAdds': WHATEVER THE INPUT: true; the input reads as it did. -/
def fuelAddsSpec : ChangeSpec := { name := "fuelAdds", fn := fun _ => fun
  | [d1, d2] => { results := [.lit (.bool true)], args := [d1, d2] }
  | _ => none }
def fuelAddsRow : OpenClaim := { program := "ytoebjiocmnonnaa", sum := "0c25c7564b0570a91f704084c8fad26a5f116c135d14c69ae42b8e560689c584", func := "flightdeck/flightdecklaw32.FuelAdds", spec := "fuelAdds", apart := false }
def FuelAddsSaid : Prop := fuelAddsRow.holds Try.pinned (OpenSpec.ofChange fuelAddsSpec)

/-- ITS FALSE NEIGHBOUR: 'it returns false'. Refute it at one input. -/
def fuelAddsWrong : ChangeSpec := { name := "fuelAdds", fn := fun _ => fun
  | [d1, d2] => { results := [.lit (.bool false)], args := [d1, d2] }
  | _ => none }
def FuelAddsWrongFalsely : Prop := fuelAddsRow.holds Try.pinned (OpenSpec.ofChange fuelAddsWrong)

/- THE SECOND FORM. 'bulk': how many values and letters a reading holds, each counted each time it is reached (what is shared counts as often as it is met; a slice's spare places count too). A statement '..UptoSaid' is the law's where the arguments, and the package variables that the reading takes, are together of bulk at most 1048576: NARROWER than '..Said'. Prove '..Said' where nothing that the law and all that it calls make is longer than what came in: it says more and counts as full. Else prove '..UptoSaid'. A law counts once. -/
mutual
def uptoBulk {H : Type} : DataW H → Nat
  | .lit (.string bytes) => bytes.length + 1
  | .lit _ => 1
  | .nil => 1
  | .ptr d => uptoBulk d + 1
  | .slice elems spare => uptoBulkAll elems + uptoBulkAll spare + 1
  | .agg parts => uptoBulkAll parts + 1
  | .iface _ d => uptoBulk d + 1
  | .map entries => uptoBulkEntries entries + 1
  | .held _ => 1
def uptoBulkAll {H : Type} : List (DataW H) → Nat
  | [] => 0
  | d :: r => uptoBulk d + uptoBulkAll r
def uptoBulkEntries {H : Type} : List (Lit × DataW H) → Nat
  | [] => 0
  | x :: r => uptoBulkEntry x + uptoBulkEntries r
def uptoBulkEntry {H : Type} : Lit × DataW H → Nat
  | (.string bytes, d) => bytes.length + uptoBulk d + 1
  | (_, d) => uptoBulk d + 1
 end
def uptoSmall : (H : Type) → List (DataW H) → Bool := fun _ ds => decide (uptoBulkAll ds ≤ 1048576)
def OpenSpec.upto (s : _root_.Go.ChangeSpec) : _root_.Go.OpenSpec := { _root_.Go.OpenSpec.ofChange s with cond := some uptoSmall }

/-- 'flightdecklaw32.FuelBurns', WHERE WHAT IT READS IS OF BULK AT MOST 1048576: true; the input reads as it did. -/
def fuelBurnsUptoRow : OpenClaim := { program := "ytoebjiocmnonnaa", sum := "0c25c7564b0570a91f704084c8fad26a5f116c135d14c69ae42b8e560689c584", func := "flightdeck/flightdecklaw32.FuelBurns", spec := "fuelBurns", apart := false, narrowed := true }
def FuelBurnsUptoSaid : Prop := fuelBurnsUptoRow.holds Try.pinned (OpenSpec.upto fuelBurnsSpec)

/-- 'flightdecklaw32.FuelIntervals', WHERE WHAT IT READS IS OF BULK AT MOST 1048576: true; the input reads as it did. -/
def fuelIntervalsUptoRow : OpenClaim := { program := "ytoebjiocmnonnaa", sum := "0c25c7564b0570a91f704084c8fad26a5f116c135d14c69ae42b8e560689c584", func := "flightdeck/flightdecklaw32.FuelIntervals", spec := "fuelIntervals", apart := false, narrowed := true }
def FuelIntervalsUptoSaid : Prop := fuelIntervalsUptoRow.holds Try.pinned (OpenSpec.upto fuelIntervalsSpec)

/-- 'flightdecklaw32.FuelSplits', WHERE WHAT IT READS IS OF BULK AT MOST 1048576: true; the input reads as it did. -/
def fuelSplitsUptoRow : OpenClaim := { program := "ytoebjiocmnonnaa", sum := "0c25c7564b0570a91f704084c8fad26a5f116c135d14c69ae42b8e560689c584", func := "flightdeck/flightdecklaw32.FuelSplits", spec := "fuelSplits", apart := false, narrowed := true }
def FuelSplitsUptoSaid : Prop := fuelSplitsUptoRow.holds Try.pinned (OpenSpec.upto fuelSplitsSpec)

/-- 'flightdecklaw32.FuelLasts', WHERE WHAT IT READS IS OF BULK AT MOST 1048576: true; the input reads as it did. -/
def fuelLastsUptoRow : OpenClaim := { program := "ytoebjiocmnonnaa", sum := "0c25c7564b0570a91f704084c8fad26a5f116c135d14c69ae42b8e560689c584", func := "flightdeck/flightdecklaw32.FuelLasts", spec := "fuelLasts", apart := false, narrowed := true }
def FuelLastsUptoSaid : Prop := fuelLastsUptoRow.holds Try.pinned (OpenSpec.upto fuelLastsSpec)

/-- 'flightdecklaw32.FuelEncloses', WHERE WHAT IT READS IS OF BULK AT MOST 1048576: true; the input reads as it did. -/
def fuelEnclosesUptoRow : OpenClaim := { program := "ytoebjiocmnonnaa", sum := "0c25c7564b0570a91f704084c8fad26a5f116c135d14c69ae42b8e560689c584", func := "flightdeck/flightdecklaw32.FuelEncloses", spec := "fuelEncloses", apart := false, narrowed := true }
def FuelEnclosesUptoSaid : Prop := fuelEnclosesUptoRow.holds Try.pinned (OpenSpec.upto fuelEnclosesSpec)

/-- 'flightdecklaw32.FuelNeeded', WHERE WHAT IT READS IS OF BULK AT MOST 1048576: true; the input reads as it did. -/
def fuelNeededUptoRow : OpenClaim := { program := "ytoebjiocmnonnaa", sum := "0c25c7564b0570a91f704084c8fad26a5f116c135d14c69ae42b8e560689c584", func := "flightdeck/flightdecklaw32.FuelNeeded", spec := "fuelNeeded", apart := false, narrowed := true }
def FuelNeededUptoSaid : Prop := fuelNeededUptoRow.holds Try.pinned (OpenSpec.upto fuelNeededSpec)

/-- 'flightdecklaw32.FuelAccounts', WHERE WHAT IT READS IS OF BULK AT MOST 1048576: true; the input reads as it did. -/
def fuelAccountsUptoRow : OpenClaim := { program := "ytoebjiocmnonnaa", sum := "0c25c7564b0570a91f704084c8fad26a5f116c135d14c69ae42b8e560689c584", func := "flightdeck/flightdecklaw32.FuelAccounts", spec := "fuelAccounts", apart := false, narrowed := true }
def FuelAccountsUptoSaid : Prop := fuelAccountsUptoRow.holds Try.pinned (OpenSpec.upto fuelAccountsSpec)

/-- 'flightdecklaw32.FuelAdds', WHERE WHAT IT READS IS OF BULK AT MOST 1048576: true; the input reads as it did. -/
def fuelAddsUptoRow : OpenClaim := { program := "ytoebjiocmnonnaa", sum := "0c25c7564b0570a91f704084c8fad26a5f116c135d14c69ae42b8e560689c584", func := "flightdeck/flightdecklaw32.FuelAdds", spec := "fuelAdds", apart := false, narrowed := true }
def FuelAddsUptoSaid : Prop := fuelAddsUptoRow.holds Try.pinned (OpenSpec.upto fuelAddsSpec)

end Rows
end Go.Proofs.Ytoebjiocmnonnaa
