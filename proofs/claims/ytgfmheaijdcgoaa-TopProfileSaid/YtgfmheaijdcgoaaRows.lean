/-
  No cell of these rows narrows 'for every input' (looked for: loops, veiled, ifaces, maps, wideKeys, modest, calm, conditions, laid).
  DERIVED. THE GIVEN ROWS OF THIS SEAT. 9 by the template 'for every input the law returns true; each argument reads behind the call as it read before'; 0 by the template 'total and deterministic' (their statements: YtgfmheaijdcgoaaTotals.lean).
  GIVEN WITH THE SEED: the statements are not yours to turn. If you find one false, say at which input.
  Laid BY PROGRAM, IN A SANDBOX (cutbox-rows.mjs): the forced cells as the released guide's own fill.sh prints them over the translation ef6c44070a3ab5ec… (all of the seat's roots in one cut). By AI agents, Wed Nov 11 2026. No macro, syntax, notation, axiom, sorry.
-/
import Derived.Test.YtgfmheaijdcgoaaChecked
import GoSem.Claim
import GoSem.ClaimJoined
import GoSem.ClaimMapViews
import Derived.JoinedTies
import Derived.KernelRfl
namespace Go.Proofs.Ytgfmheaijdcgoaa
/- THE CELL 'sum', in the pinned program and in every row, IS THE sha256 OF THE DUMP (.gsa) THAT YtgfmheaijdcgoaaProg.lean LOADS. Nothing in Lean hashes anything: it is a label: what it is worth is what the hold of that sum in a sandbox is worth. -/
noncomputable def Try.pinned : Pinned := { name := "ytgfmheaijdcgoaa", sum := "ef6c44070a3ab5ec4d44aa6af3f6b4470aa9546c5a3dfd97f899f5e463bc9859", checked := Try.checked }
namespace Rows
def none {H : Type} : Left H := { results := [], args := [] }

/-- 'flightdecklaw33.ConstraintMeets': WHATEVER THE INPUT: true; the input reads as it did. -/
def constraintMeetsSpec : ChangeSpec := { name := "constraintMeets", fn := fun _ => fun
  | [d1, d2, d3] => { results := [.lit (.bool true)], args := [d1, d2, d3] }
  | _ => none }
def constraintMeetsRow : OpenClaim := { program := "ytgfmheaijdcgoaa", sum := "ef6c44070a3ab5ec4d44aa6af3f6b4470aa9546c5a3dfd97f899f5e463bc9859", func := "flightdeck/flightdecklaw33.ConstraintMeets", spec := "constraintMeets", apart := false }
def ConstraintMeetsSaid : Prop := constraintMeetsRow.holds Try.pinned (OpenSpec.ofChange constraintMeetsSpec)

/-- ITS FALSE NEIGHBOUR: 'it returns false'. Refute it at one input. -/
def constraintMeetsWrong : ChangeSpec := { name := "constraintMeets", fn := fun _ => fun
  | [d1, d2, d3] => { results := [.lit (.bool false)], args := [d1, d2, d3] }
  | _ => none }
def ConstraintMeetsWrongFalsely : Prop := constraintMeetsRow.holds Try.pinned (OpenSpec.ofChange constraintMeetsWrong)

/-- 'flightdecklaw33.ConstraintFinds': WHATEVER THE INPUT: true; the input reads as it did. -/
def constraintFindsSpec : ChangeSpec := { name := "constraintFinds", fn := fun _ => fun
  | [d1, d2, d3] => { results := [.lit (.bool true)], args := [d1, d2, d3] }
  | _ => none }
def constraintFindsRow : OpenClaim := { program := "ytgfmheaijdcgoaa", sum := "ef6c44070a3ab5ec4d44aa6af3f6b4470aa9546c5a3dfd97f899f5e463bc9859", func := "flightdeck/flightdecklaw33.ConstraintFinds", spec := "constraintFinds", apart := false }
def ConstraintFindsSaid : Prop := constraintFindsRow.holds Try.pinned (OpenSpec.ofChange constraintFindsSpec)

/-- ITS FALSE NEIGHBOUR: 'it returns false'. Refute it at one input. -/
def constraintFindsWrong : ChangeSpec := { name := "constraintFinds", fn := fun _ => fun
  | [d1, d2, d3] => { results := [.lit (.bool false)], args := [d1, d2, d3] }
  | _ => none }
def ConstraintFindsWrongFalsely : Prop := constraintFindsRow.holds Try.pinned (OpenSpec.ofChange constraintFindsWrong)

/-- 'flightdecklaw33.ConstraintTight': WHATEVER THE INPUT: true; the input reads as it did. -/
def constraintTightSpec : ChangeSpec := { name := "constraintTight", fn := fun _ => fun
  | [d1, d2] => { results := [.lit (.bool true)], args := [d1, d2] }
  | _ => none }
def constraintTightRow : OpenClaim := { program := "ytgfmheaijdcgoaa", sum := "ef6c44070a3ab5ec4d44aa6af3f6b4470aa9546c5a3dfd97f899f5e463bc9859", func := "flightdeck/flightdecklaw33.ConstraintTight", spec := "constraintTight", apart := false }
def ConstraintTightSaid : Prop := constraintTightRow.holds Try.pinned (OpenSpec.ofChange constraintTightSpec)

/-- ITS FALSE NEIGHBOUR: 'it returns false'. Refute it at one input. -/
def constraintTightWrong : ChangeSpec := { name := "constraintTight", fn := fun _ => fun
  | [d1, d2] => { results := [.lit (.bool false)], args := [d1, d2] }
  | _ => none }
def ConstraintTightWrongFalsely : Prop := constraintTightRow.holds Try.pinned (OpenSpec.ofChange constraintTightWrong)

/-- 'flightdecklaw33.ConstraintDecides': WHATEVER THE INPUT: true; the input reads as it did. -/
def constraintDecidesSpec : ChangeSpec := { name := "constraintDecides", fn := fun _ => fun
  | [d1, d2, d3] => { results := [.lit (.bool true)], args := [d1, d2, d3] }
  | _ => none }
def constraintDecidesRow : OpenClaim := { program := "ytgfmheaijdcgoaa", sum := "ef6c44070a3ab5ec4d44aa6af3f6b4470aa9546c5a3dfd97f899f5e463bc9859", func := "flightdeck/flightdecklaw33.ConstraintDecides", spec := "constraintDecides", apart := false }
def ConstraintDecidesSaid : Prop := constraintDecidesRow.holds Try.pinned (OpenSpec.ofChange constraintDecidesSpec)

/-- ITS FALSE NEIGHBOUR: 'it returns false'. Refute it at one input. -/
def constraintDecidesWrong : ChangeSpec := { name := "constraintDecides", fn := fun _ => fun
  | [d1, d2, d3] => { results := [.lit (.bool false)], args := [d1, d2, d3] }
  | _ => none }
def ConstraintDecidesWrongFalsely : Prop := constraintDecidesRow.holds Try.pinned (OpenSpec.ofChange constraintDecidesWrong)

/-- 'flightdecklaw33.ConstraintEach': WHATEVER THE INPUT: true; the input reads as it did. -/
def constraintEachSpec : ChangeSpec := { name := "constraintEach", fn := fun _ => fun
  | [d1, d2, d3] => { results := [.lit (.bool true)], args := [d1, d2, d3] }
  | _ => none }
def constraintEachRow : OpenClaim := { program := "ytgfmheaijdcgoaa", sum := "ef6c44070a3ab5ec4d44aa6af3f6b4470aa9546c5a3dfd97f899f5e463bc9859", func := "flightdeck/flightdecklaw33.ConstraintEach", spec := "constraintEach", apart := false }
def ConstraintEachSaid : Prop := constraintEachRow.holds Try.pinned (OpenSpec.ofChange constraintEachSpec)

/-- ITS FALSE NEIGHBOUR: 'it returns false'. Refute it at one input. -/
def constraintEachWrong : ChangeSpec := { name := "constraintEach", fn := fun _ => fun
  | [d1, d2, d3] => { results := [.lit (.bool false)], args := [d1, d2, d3] }
  | _ => none }
def ConstraintEachWrongFalsely : Prop := constraintEachRow.holds Try.pinned (OpenSpec.ofChange constraintEachWrong)

/-- 'flightdecklaw33.ConstraintSmallest': WHATEVER THE INPUT: true; the input reads as it did. -/
def constraintSmallestSpec : ChangeSpec := { name := "constraintSmallest", fn := fun _ => fun
  | [d1, d2] => { results := [.lit (.bool true)], args := [d1, d2] }
  | _ => none }
def constraintSmallestRow : OpenClaim := { program := "ytgfmheaijdcgoaa", sum := "ef6c44070a3ab5ec4d44aa6af3f6b4470aa9546c5a3dfd97f899f5e463bc9859", func := "flightdeck/flightdecklaw33.ConstraintSmallest", spec := "constraintSmallest", apart := false }
def ConstraintSmallestSaid : Prop := constraintSmallestRow.holds Try.pinned (OpenSpec.ofChange constraintSmallestSpec)

/-- ITS FALSE NEIGHBOUR: 'it returns false'. Refute it at one input. -/
def constraintSmallestWrong : ChangeSpec := { name := "constraintSmallest", fn := fun _ => fun
  | [d1, d2] => { results := [.lit (.bool false)], args := [d1, d2] }
  | _ => none }
def ConstraintSmallestWrongFalsely : Prop := constraintSmallestRow.holds Try.pinned (OpenSpec.ofChange constraintSmallestWrong)

/-- 'flightdecklaw33.ConstraintMirror': WHATEVER THE INPUT: true; the input reads as it did. -/
def constraintMirrorSpec : ChangeSpec := { name := "constraintMirror", fn := fun _ => fun
  | [d1, d2] => { results := [.lit (.bool true)], args := [d1, d2] }
  | _ => none }
def constraintMirrorRow : OpenClaim := { program := "ytgfmheaijdcgoaa", sum := "ef6c44070a3ab5ec4d44aa6af3f6b4470aa9546c5a3dfd97f899f5e463bc9859", func := "flightdeck/flightdecklaw33.ConstraintMirror", spec := "constraintMirror", apart := false }
def ConstraintMirrorSaid : Prop := constraintMirrorRow.holds Try.pinned (OpenSpec.ofChange constraintMirrorSpec)

/-- ITS FALSE NEIGHBOUR: 'it returns false'. Refute it at one input. -/
def constraintMirrorWrong : ChangeSpec := { name := "constraintMirror", fn := fun _ => fun
  | [d1, d2] => { results := [.lit (.bool false)], args := [d1, d2] }
  | _ => none }
def ConstraintMirrorWrongFalsely : Prop := constraintMirrorRow.holds Try.pinned (OpenSpec.ofChange constraintMirrorWrong)

/-- 'flightdecklaw33.ConstraintEased': WHATEVER THE INPUT: true; the input reads as it did. -/
def constraintEasedSpec : ChangeSpec := { name := "constraintEased", fn := fun _ => fun
  | [d1, d2] => { results := [.lit (.bool true)], args := [d1, d2] }
  | _ => none }
def constraintEasedRow : OpenClaim := { program := "ytgfmheaijdcgoaa", sum := "ef6c44070a3ab5ec4d44aa6af3f6b4470aa9546c5a3dfd97f899f5e463bc9859", func := "flightdeck/flightdecklaw33.ConstraintEased", spec := "constraintEased", apart := false }
def ConstraintEasedSaid : Prop := constraintEasedRow.holds Try.pinned (OpenSpec.ofChange constraintEasedSpec)

/-- ITS FALSE NEIGHBOUR: 'it returns false'. Refute it at one input. -/
def constraintEasedWrong : ChangeSpec := { name := "constraintEased", fn := fun _ => fun
  | [d1, d2] => { results := [.lit (.bool false)], args := [d1, d2] }
  | _ => none }
def ConstraintEasedWrongFalsely : Prop := constraintEasedRow.holds Try.pinned (OpenSpec.ofChange constraintEasedWrong)

/-- 'flightdecktop.TopProfile': WHATEVER THE INPUT: true; the input reads as it did. -/
def topProfileSpec : ChangeSpec := { name := "topProfile", fn := fun _ => fun
  | [d1, d2, d3] => { results := [.lit (.bool true)], args := [d1, d2, d3] }
  | _ => none }
def topProfileRow : OpenClaim := { program := "ytgfmheaijdcgoaa", sum := "ef6c44070a3ab5ec4d44aa6af3f6b4470aa9546c5a3dfd97f899f5e463bc9859", func := "flightdeck/flightdecktop.TopProfile", spec := "topProfile", apart := false }
def TopProfileSaid : Prop := topProfileRow.holds Try.pinned (OpenSpec.ofChange topProfileSpec)

/-- ITS FALSE NEIGHBOUR: 'it returns false'. Refute it at one input. -/
def topProfileWrong : ChangeSpec := { name := "topProfile", fn := fun _ => fun
  | [d1, d2, d3] => { results := [.lit (.bool false)], args := [d1, d2, d3] }
  | _ => none }
def TopProfileWrongFalsely : Prop := topProfileRow.holds Try.pinned (OpenSpec.ofChange topProfileWrong)

/- THE SECOND FORM. 'bulk': how many values and letters a reading holds, each counted each time it is reached (what is shared counts as often as it is met; a slice's spare places count too). A statement '..UptoSaid' is the law's where the arguments, and the package variables that the reading takes, are together of bulk at most 1048576: NARROWER than '..Said'. Prove '..Said' where nothing that the law and all that it calls make is longer than what came in: it says more and counts as full. Else prove '..UptoSaid'. A law counts once. -/
mutual
def uptoBulk {H : Type} : DataW H → Nat
  | .lit (.string bytes) => bytes.length + 1
  | .lit _ => 1
  | .nil => 1
  | .ptr d => uptoBulk d + 1
  | .slice elems spare => uptoBulkAll elems + uptoBulkAll spare + 1
  | .agg parts => uptoBulkAll parts + 1
  | .iface _ d => uptoBulk d + 1
  | .map entries => uptoBulkEntries entries + 1
  | .held _ => 1
def uptoBulkAll {H : Type} : List (DataW H) → Nat
  | [] => 0
  | d :: r => uptoBulk d + uptoBulkAll r
def uptoBulkEntries {H : Type} : List (Lit × DataW H) → Nat
  | [] => 0
  | x :: r => uptoBulkEntry x + uptoBulkEntries r
def uptoBulkEntry {H : Type} : Lit × DataW H → Nat
  | (.string bytes, d) => bytes.length + uptoBulk d + 1
  | (_, d) => uptoBulk d + 1
 end
def uptoSmall : (H : Type) → List (DataW H) → Bool := fun _ ds => decide (uptoBulkAll ds ≤ 1048576)
def OpenSpec.upto (s : _root_.Go.ChangeSpec) : _root_.Go.OpenSpec := { _root_.Go.OpenSpec.ofChange s with cond := some uptoSmall }

/-- 'flightdecklaw33.ConstraintMeets', WHERE WHAT IT READS IS OF BULK AT MOST 1048576: true; the input reads as it did. -/
def constraintMeetsUptoRow : OpenClaim := { program := "ytgfmheaijdcgoaa", sum := "ef6c44070a3ab5ec4d44aa6af3f6b4470aa9546c5a3dfd97f899f5e463bc9859", func := "flightdeck/flightdecklaw33.ConstraintMeets", spec := "constraintMeets", apart := false, narrowed := true }
def ConstraintMeetsUptoSaid : Prop := constraintMeetsUptoRow.holds Try.pinned (OpenSpec.upto constraintMeetsSpec)

/-- 'flightdecklaw33.ConstraintFinds', WHERE WHAT IT READS IS OF BULK AT MOST 1048576: true; the input reads as it did. -/
def constraintFindsUptoRow : OpenClaim := { program := "ytgfmheaijdcgoaa", sum := "ef6c44070a3ab5ec4d44aa6af3f6b4470aa9546c5a3dfd97f899f5e463bc9859", func := "flightdeck/flightdecklaw33.ConstraintFinds", spec := "constraintFinds", apart := false, narrowed := true }
def ConstraintFindsUptoSaid : Prop := constraintFindsUptoRow.holds Try.pinned (OpenSpec.upto constraintFindsSpec)

/-- 'flightdecklaw33.ConstraintTight', WHERE WHAT IT READS IS OF BULK AT MOST 1048576: true; the input reads as it did. -/
def constraintTightUptoRow : OpenClaim := { program := "ytgfmheaijdcgoaa", sum := "ef6c44070a3ab5ec4d44aa6af3f6b4470aa9546c5a3dfd97f899f5e463bc9859", func := "flightdeck/flightdecklaw33.ConstraintTight", spec := "constraintTight", apart := false, narrowed := true }
def ConstraintTightUptoSaid : Prop := constraintTightUptoRow.holds Try.pinned (OpenSpec.upto constraintTightSpec)

/-- 'flightdecklaw33.ConstraintDecides', WHERE WHAT IT READS IS OF BULK AT MOST 1048576: true; the input reads as it did. -/
def constraintDecidesUptoRow : OpenClaim := { program := "ytgfmheaijdcgoaa", sum := "ef6c44070a3ab5ec4d44aa6af3f6b4470aa9546c5a3dfd97f899f5e463bc9859", func := "flightdeck/flightdecklaw33.ConstraintDecides", spec := "constraintDecides", apart := false, narrowed := true }
def ConstraintDecidesUptoSaid : Prop := constraintDecidesUptoRow.holds Try.pinned (OpenSpec.upto constraintDecidesSpec)

/-- 'flightdecklaw33.ConstraintEach', WHERE WHAT IT READS IS OF BULK AT MOST 1048576: true; the input reads as it did. -/
def constraintEachUptoRow : OpenClaim := { program := "ytgfmheaijdcgoaa", sum := "ef6c44070a3ab5ec4d44aa6af3f6b4470aa9546c5a3dfd97f899f5e463bc9859", func := "flightdeck/flightdecklaw33.ConstraintEach", spec := "constraintEach", apart := false, narrowed := true }
def ConstraintEachUptoSaid : Prop := constraintEachUptoRow.holds Try.pinned (OpenSpec.upto constraintEachSpec)

/-- 'flightdecklaw33.ConstraintSmallest', WHERE WHAT IT READS IS OF BULK AT MOST 1048576: true; the input reads as it did. -/
def constraintSmallestUptoRow : OpenClaim := { program := "ytgfmheaijdcgoaa", sum := "ef6c44070a3ab5ec4d44aa6af3f6b4470aa9546c5a3dfd97f899f5e463bc9859", func := "flightdeck/flightdecklaw33.ConstraintSmallest", spec := "constraintSmallest", apart := false, narrowed := true }
def ConstraintSmallestUptoSaid : Prop := constraintSmallestUptoRow.holds Try.pinned (OpenSpec.upto constraintSmallestSpec)

/-- 'flightdecklaw33.ConstraintMirror', WHERE WHAT IT READS IS OF BULK AT MOST 1048576: true; the input reads as it did. -/
def constraintMirrorUptoRow : OpenClaim := { program := "ytgfmheaijdcgoaa", sum := "ef6c44070a3ab5ec4d44aa6af3f6b4470aa9546c5a3dfd97f899f5e463bc9859", func := "flightdeck/flightdecklaw33.ConstraintMirror", spec := "constraintMirror", apart := false, narrowed := true }
def ConstraintMirrorUptoSaid : Prop := constraintMirrorUptoRow.holds Try.pinned (OpenSpec.upto constraintMirrorSpec)

/-- 'flightdecklaw33.ConstraintEased', WHERE WHAT IT READS IS OF BULK AT MOST 1048576: true; the input reads as it did. -/
def constraintEasedUptoRow : OpenClaim := { program := "ytgfmheaijdcgoaa", sum := "ef6c44070a3ab5ec4d44aa6af3f6b4470aa9546c5a3dfd97f899f5e463bc9859", func := "flightdeck/flightdecklaw33.ConstraintEased", spec := "constraintEased", apart := false, narrowed := true }
def ConstraintEasedUptoSaid : Prop := constraintEasedUptoRow.holds Try.pinned (OpenSpec.upto constraintEasedSpec)

/-- 'flightdecktop.TopProfile', WHERE WHAT IT READS IS OF BULK AT MOST 1048576: true; the input reads as it did. -/
def topProfileUptoRow : OpenClaim := { program := "ytgfmheaijdcgoaa", sum := "ef6c44070a3ab5ec4d44aa6af3f6b4470aa9546c5a3dfd97f899f5e463bc9859", func := "flightdeck/flightdecktop.TopProfile", spec := "topProfile", apart := false, narrowed := true }
def TopProfileUptoSaid : Prop := topProfileUptoRow.holds Try.pinned (OpenSpec.upto topProfileSpec)

end Rows
end Go.Proofs.Ytgfmheaijdcgoaa
