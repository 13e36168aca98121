/-
  No cell of these rows narrows 'for every input' (looked for: loops, veiled, ifaces, maps, wideKeys, modest, calm, conditions, laid).
  DERIVED. THE GIVEN ROWS OF THIS SEAT. 8 by the template 'for every input the law returns true; each argument reads behind the call as it read before'; 0 by the template 'total and deterministic' (their statements: YtbmfkncfenkjoaaTotals.lean).
  GIVEN WITH THE SEED: the statements are not yours to turn. If you find one false, say at which input.
  Laid BY PROGRAM, IN A SANDBOX (cutbox-rows.mjs): the forced cells as the released guide's own fill.sh prints them over the translation 06dc4420d761c0e2… (all of the seat's roots in one cut). By AI agents, Wed Nov 11 2026. No macro, syntax, notation, axiom, sorry.
-/
import Derived.Test.YtbmfkncfenkjoaaChecked
import GoSem.Claim
import GoSem.ClaimJoined
import GoSem.ClaimMapViews
import Derived.JoinedTies
import Derived.KernelRfl
namespace Go.Proofs.Ytbmfkncfenkjoaa
/- THE CELL 'sum', in the pinned program and in every row, IS THE sha256 OF THE DUMP (.gsa) THAT YtbmfkncfenkjoaaProg.lean LOADS. Nothing in Lean hashes anything: it is a label: what it is worth is what the hold of that sum in a sandbox is worth. -/
noncomputable def Try.pinned : Pinned := { name := "ytbmfkncfenkjoaa", sum := "06dc4420d761c0e2f323dafed6bad9b344d84bfc94971260d39b8440bc7d84ca", checked := Try.checked }
namespace Rows
def none {H : Type} : Left H := { results := [], args := [] }

/-- 'flightdecklaw39.CertificateCosts': WHATEVER THE INPUT: true; the input reads as it did. -/
def certificateCostsSpec : ChangeSpec := { name := "certificateCosts", fn := fun _ => fun
  | [d1, d2, d3] => { results := [.lit (.bool true)], args := [d1, d2, d3] }
  | _ => none }
def certificateCostsRow : OpenClaim := { program := "ytbmfkncfenkjoaa", sum := "06dc4420d761c0e2f323dafed6bad9b344d84bfc94971260d39b8440bc7d84ca", func := "flightdeck/flightdecklaw39.CertificateCosts", spec := "certificateCosts", unfollowed := true, recurses := true, apart := false }
def CertificateCostsSaid : Prop := certificateCostsRow.holds Try.pinned (OpenSpec.ofChange certificateCostsSpec)

/-- ITS FALSE NEIGHBOUR: 'it returns false'. Refute it at one input. -/
def certificateCostsWrong : ChangeSpec := { name := "certificateCosts", fn := fun _ => fun
  | [d1, d2, d3] => { results := [.lit (.bool false)], args := [d1, d2, d3] }
  | _ => none }
def CertificateCostsWrongFalsely : Prop := certificateCostsRow.holds Try.pinned (OpenSpec.ofChange certificateCostsWrong)

/-- 'flightdecklaw39.CertificateBounds': WHATEVER THE INPUT: true; the input reads as it did. -/
def certificateBoundsSpec : ChangeSpec := { name := "certificateBounds", fn := fun _ => fun
  | [d1, d2, d3] => { results := [.lit (.bool true)], args := [d1, d2, d3] }
  | _ => none }
def certificateBoundsRow : OpenClaim := { program := "ytbmfkncfenkjoaa", sum := "06dc4420d761c0e2f323dafed6bad9b344d84bfc94971260d39b8440bc7d84ca", func := "flightdeck/flightdecklaw39.CertificateBounds", spec := "certificateBounds", unfollowed := true, recurses := true, apart := false }
def CertificateBoundsSaid : Prop := certificateBoundsRow.holds Try.pinned (OpenSpec.ofChange certificateBoundsSpec)

/-- ITS FALSE NEIGHBOUR: 'it returns false'. Refute it at one input. -/
def certificateBoundsWrong : ChangeSpec := { name := "certificateBounds", fn := fun _ => fun
  | [d1, d2, d3] => { results := [.lit (.bool false)], args := [d1, d2, d3] }
  | _ => none }
def CertificateBoundsWrongFalsely : Prop := certificateBoundsRow.holds Try.pinned (OpenSpec.ofChange certificateBoundsWrong)

/-- 'flightdecklaw39.CertificateAccepts': WHATEVER THE INPUT: true; the input reads as it did. -/
def certificateAcceptsSpec : ChangeSpec := { name := "certificateAccepts", fn := fun _ => fun
  | [d1, d2] => { results := [.lit (.bool true)], args := [d1, d2] }
  | _ => none }
def certificateAcceptsRow : OpenClaim := { program := "ytbmfkncfenkjoaa", sum := "06dc4420d761c0e2f323dafed6bad9b344d84bfc94971260d39b8440bc7d84ca", func := "flightdeck/flightdecklaw39.CertificateAccepts", spec := "certificateAccepts", unfollowed := true, recurses := true, apart := false }
def CertificateAcceptsSaid : Prop := certificateAcceptsRow.holds Try.pinned (OpenSpec.ofChange certificateAcceptsSpec)

/-- ITS FALSE NEIGHBOUR: 'it returns false'. Refute it at one input. -/
def certificateAcceptsWrong : ChangeSpec := { name := "certificateAccepts", fn := fun _ => fun
  | [d1, d2] => { results := [.lit (.bool false)], args := [d1, d2] }
  | _ => none }
def CertificateAcceptsWrongFalsely : Prop := certificateAcceptsRow.holds Try.pinned (OpenSpec.ofChange certificateAcceptsWrong)

/-- 'flightdecklaw39.CertificateSolves': WHATEVER THE INPUT: true; the input reads as it did. -/
def certificateSolvesSpec : ChangeSpec := { name := "certificateSolves", fn := fun _ => fun
  | [d1, d2] => { results := [.lit (.bool true)], args := [d1, d2] }
  | _ => none }
def certificateSolvesRow : OpenClaim := { program := "ytbmfkncfenkjoaa", sum := "06dc4420d761c0e2f323dafed6bad9b344d84bfc94971260d39b8440bc7d84ca", func := "flightdeck/flightdecklaw39.CertificateSolves", spec := "certificateSolves", unfollowed := true, recurses := true, apart := false }
def CertificateSolvesSaid : Prop := certificateSolvesRow.holds Try.pinned (OpenSpec.ofChange certificateSolvesSpec)

/-- ITS FALSE NEIGHBOUR: 'it returns false'. Refute it at one input. -/
def certificateSolvesWrong : ChangeSpec := { name := "certificateSolves", fn := fun _ => fun
  | [d1, d2] => { results := [.lit (.bool false)], args := [d1, d2] }
  | _ => none }
def CertificateSolvesWrongFalsely : Prop := certificateSolvesRow.holds Try.pinned (OpenSpec.ofChange certificateSolvesWrong)

/-- 'flightdecklaw39.CertificateProves': WHATEVER THE INPUT: true; the input reads as it did. -/
def certificateProvesSpec : ChangeSpec := { name := "certificateProves", fn := fun _ => fun
  | [d1, d2] => { results := [.lit (.bool true)], args := [d1, d2] }
  | _ => none }
def certificateProvesRow : OpenClaim := { program := "ytbmfkncfenkjoaa", sum := "06dc4420d761c0e2f323dafed6bad9b344d84bfc94971260d39b8440bc7d84ca", func := "flightdeck/flightdecklaw39.CertificateProves", spec := "certificateProves", unfollowed := true, recurses := true, apart := false }
def CertificateProvesSaid : Prop := certificateProvesRow.holds Try.pinned (OpenSpec.ofChange certificateProvesSpec)

/-- ITS FALSE NEIGHBOUR: 'it returns false'. Refute it at one input. -/
def certificateProvesWrong : ChangeSpec := { name := "certificateProves", fn := fun _ => fun
  | [d1, d2] => { results := [.lit (.bool false)], args := [d1, d2] }
  | _ => none }
def CertificateProvesWrongFalsely : Prop := certificateProvesRow.holds Try.pinned (OpenSpec.ofChange certificateProvesWrong)

/-- 'flightdecklaw39.CertificateLeast': WHATEVER THE INPUT: true; the input reads as it did. -/
def certificateLeastSpec : ChangeSpec := { name := "certificateLeast", fn := fun _ => fun
  | [d1, d2, d3] => { results := [.lit (.bool true)], args := [d1, d2, d3] }
  | _ => none }
def certificateLeastRow : OpenClaim := { program := "ytbmfkncfenkjoaa", sum := "06dc4420d761c0e2f323dafed6bad9b344d84bfc94971260d39b8440bc7d84ca", func := "flightdeck/flightdecklaw39.CertificateLeast", spec := "certificateLeast", unfollowed := true, recurses := true, apart := false }
def CertificateLeastSaid : Prop := certificateLeastRow.holds Try.pinned (OpenSpec.ofChange certificateLeastSpec)

/-- ITS FALSE NEIGHBOUR: 'it returns false'. Refute it at one input. -/
def certificateLeastWrong : ChangeSpec := { name := "certificateLeast", fn := fun _ => fun
  | [d1, d2, d3] => { results := [.lit (.bool false)], args := [d1, d2, d3] }
  | _ => none }
def CertificateLeastWrongFalsely : Prop := certificateLeastRow.holds Try.pinned (OpenSpec.ofChange certificateLeastWrong)

/-- 'flightdecklaw39.CertificateBelow': WHATEVER THE INPUT: true; the input reads as it did. -/
def certificateBelowSpec : ChangeSpec := { name := "certificateBelow", fn := fun _ => fun
  | [d1, d2] => { results := [.lit (.bool true)], args := [d1, d2] }
  | _ => none }
def certificateBelowRow : OpenClaim := { program := "ytbmfkncfenkjoaa", sum := "06dc4420d761c0e2f323dafed6bad9b344d84bfc94971260d39b8440bc7d84ca", func := "flightdeck/flightdecklaw39.CertificateBelow", spec := "certificateBelow", unfollowed := true, recurses := true, apart := false }
def CertificateBelowSaid : Prop := certificateBelowRow.holds Try.pinned (OpenSpec.ofChange certificateBelowSpec)

/-- ITS FALSE NEIGHBOUR: 'it returns false'. Refute it at one input. -/
def certificateBelowWrong : ChangeSpec := { name := "certificateBelow", fn := fun _ => fun
  | [d1, d2] => { results := [.lit (.bool false)], args := [d1, d2] }
  | _ => none }
def CertificateBelowWrongFalsely : Prop := certificateBelowRow.holds Try.pinned (OpenSpec.ofChange certificateBelowWrong)

/-- 'flightdecklaw39.CertificateDearer': WHATEVER THE INPUT: true; the input reads as it did. -/
def certificateDearerSpec : ChangeSpec := { name := "certificateDearer", fn := fun _ => fun
  | [d1, d2, d3] => { results := [.lit (.bool true)], args := [d1, d2, d3] }
  | _ => none }
def certificateDearerRow : OpenClaim := { program := "ytbmfkncfenkjoaa", sum := "06dc4420d761c0e2f323dafed6bad9b344d84bfc94971260d39b8440bc7d84ca", func := "flightdeck/flightdecklaw39.CertificateDearer", spec := "certificateDearer", unfollowed := true, recurses := true, apart := false }
def CertificateDearerSaid : Prop := certificateDearerRow.holds Try.pinned (OpenSpec.ofChange certificateDearerSpec)

/-- ITS FALSE NEIGHBOUR: 'it returns false'. Refute it at one input. -/
def certificateDearerWrong : ChangeSpec := { name := "certificateDearer", fn := fun _ => fun
  | [d1, d2, d3] => { results := [.lit (.bool false)], args := [d1, d2, d3] }
  | _ => none }
def CertificateDearerWrongFalsely : Prop := certificateDearerRow.holds Try.pinned (OpenSpec.ofChange certificateDearerWrong)

/- THE SECOND FORM. 'bulk': how many values and letters a reading holds, each counted each time it is reached (what is shared counts as often as it is met; a slice's spare places count too). A statement '..UptoSaid' is the law's where the arguments, and the package variables that the reading takes, are together of bulk at most 1048576: NARROWER than '..Said'. Prove '..Said' where nothing that the law and all that it calls make is longer than what came in: it says more and counts as full. Else prove '..UptoSaid'. A law counts once. -/
mutual
def uptoBulk {H : Type} : DataW H → Nat
  | .lit (.string bytes) => bytes.length + 1
  | .lit _ => 1
  | .nil => 1
  | .ptr d => uptoBulk d + 1
  | .slice elems spare => uptoBulkAll elems + uptoBulkAll spare + 1
  | .agg parts => uptoBulkAll parts + 1
  | .iface _ d => uptoBulk d + 1
  | .map entries => uptoBulkEntries entries + 1
  | .held _ => 1
def uptoBulkAll {H : Type} : List (DataW H) → Nat
  | [] => 0
  | d :: r => uptoBulk d + uptoBulkAll r
def uptoBulkEntries {H : Type} : List (Lit × DataW H) → Nat
  | [] => 0
  | x :: r => uptoBulkEntry x + uptoBulkEntries r
def uptoBulkEntry {H : Type} : Lit × DataW H → Nat
  | (.string bytes, d) => bytes.length + uptoBulk d + 1
  | (_, d) => uptoBulk d + 1
 end
def uptoSmall : (H : Type) → List (DataW H) → Bool := fun _ ds => decide (uptoBulkAll ds ≤ 1048576)
def OpenSpec.upto (s : _root_.Go.ChangeSpec) : _root_.Go.OpenSpec := { _root_.Go.OpenSpec.ofChange s with cond := some uptoSmall }

/-- 'flightdecklaw39.CertificateCosts', WHERE WHAT IT READS IS OF BULK AT MOST 1048576: true; the input reads as it did. -/
def certificateCostsUptoRow : OpenClaim := { program := "ytbmfkncfenkjoaa", sum := "06dc4420d761c0e2f323dafed6bad9b344d84bfc94971260d39b8440bc7d84ca", func := "flightdeck/flightdecklaw39.CertificateCosts", spec := "certificateCosts", unfollowed := true, recurses := true, apart := false, narrowed := true }
def CertificateCostsUptoSaid : Prop := certificateCostsUptoRow.holds Try.pinned (OpenSpec.upto certificateCostsSpec)

/-- 'flightdecklaw39.CertificateBounds', WHERE WHAT IT READS IS OF BULK AT MOST 1048576: true; the input reads as it did. -/
def certificateBoundsUptoRow : OpenClaim := { program := "ytbmfkncfenkjoaa", sum := "06dc4420d761c0e2f323dafed6bad9b344d84bfc94971260d39b8440bc7d84ca", func := "flightdeck/flightdecklaw39.CertificateBounds", spec := "certificateBounds", unfollowed := true, recurses := true, apart := false, narrowed := true }
def CertificateBoundsUptoSaid : Prop := certificateBoundsUptoRow.holds Try.pinned (OpenSpec.upto certificateBoundsSpec)

/-- 'flightdecklaw39.CertificateAccepts', WHERE WHAT IT READS IS OF BULK AT MOST 1048576: true; the input reads as it did. -/
def certificateAcceptsUptoRow : OpenClaim := { program := "ytbmfkncfenkjoaa", sum := "06dc4420d761c0e2f323dafed6bad9b344d84bfc94971260d39b8440bc7d84ca", func := "flightdeck/flightdecklaw39.CertificateAccepts", spec := "certificateAccepts", unfollowed := true, recurses := true, apart := false, narrowed := true }
def CertificateAcceptsUptoSaid : Prop := certificateAcceptsUptoRow.holds Try.pinned (OpenSpec.upto certificateAcceptsSpec)

/-- 'flightdecklaw39.CertificateSolves', WHERE WHAT IT READS IS OF BULK AT MOST 1048576: true; the input reads as it did. -/
def certificateSolvesUptoRow : OpenClaim := { program := "ytbmfkncfenkjoaa", sum := "06dc4420d761c0e2f323dafed6bad9b344d84bfc94971260d39b8440bc7d84ca", func := "flightdeck/flightdecklaw39.CertificateSolves", spec := "certificateSolves", unfollowed := true, recurses := true, apart := false, narrowed := true }
def CertificateSolvesUptoSaid : Prop := certificateSolvesUptoRow.holds Try.pinned (OpenSpec.upto certificateSolvesSpec)

/-- 'flightdecklaw39.CertificateProves', WHERE WHAT IT READS IS OF BULK AT MOST 1048576: true; the input reads as it did. -/
def certificateProvesUptoRow : OpenClaim := { program := "ytbmfkncfenkjoaa", sum := "06dc4420d761c0e2f323dafed6bad9b344d84bfc94971260d39b8440bc7d84ca", func := "flightdeck/flightdecklaw39.CertificateProves", spec := "certificateProves", unfollowed := true, recurses := true, apart := false, narrowed := true }
def CertificateProvesUptoSaid : Prop := certificateProvesUptoRow.holds Try.pinned (OpenSpec.upto certificateProvesSpec)

/-- 'flightdecklaw39.CertificateLeast', WHERE WHAT IT READS IS OF BULK AT MOST 1048576: true; the input reads as it did. -/
def certificateLeastUptoRow : OpenClaim := { program := "ytbmfkncfenkjoaa", sum := "06dc4420d761c0e2f323dafed6bad9b344d84bfc94971260d39b8440bc7d84ca", func := "flightdeck/flightdecklaw39.CertificateLeast", spec := "certificateLeast", unfollowed := true, recurses := true, apart := false, narrowed := true }
def CertificateLeastUptoSaid : Prop := certificateLeastUptoRow.holds Try.pinned (OpenSpec.upto certificateLeastSpec)

/-- 'flightdecklaw39.CertificateBelow', WHERE WHAT IT READS IS OF BULK AT MOST 1048576: true; the input reads as it did. -/
def certificateBelowUptoRow : OpenClaim := { program := "ytbmfkncfenkjoaa", sum := "06dc4420d761c0e2f323dafed6bad9b344d84bfc94971260d39b8440bc7d84ca", func := "flightdeck/flightdecklaw39.CertificateBelow", spec := "certificateBelow", unfollowed := true, recurses := true, apart := false, narrowed := true }
def CertificateBelowUptoSaid : Prop := certificateBelowUptoRow.holds Try.pinned (OpenSpec.upto certificateBelowSpec)

/-- 'flightdecklaw39.CertificateDearer', WHERE WHAT IT READS IS OF BULK AT MOST 1048576: true; the input reads as it did. -/
def certificateDearerUptoRow : OpenClaim := { program := "ytbmfkncfenkjoaa", sum := "06dc4420d761c0e2f323dafed6bad9b344d84bfc94971260d39b8440bc7d84ca", func := "flightdeck/flightdecklaw39.CertificateDearer", spec := "certificateDearer", unfollowed := true, recurses := true, apart := false, narrowed := true }
def CertificateDearerUptoSaid : Prop := certificateDearerUptoRow.holds Try.pinned (OpenSpec.upto certificateDearerSpec)

end Rows
end Go.Proofs.Ytbmfkncfenkjoaa
