/-
  No cell of these rows narrows 'for every input' (looked for: loops, veiled, ifaces, maps, wideKeys, modest, calm, conditions, laid).
  DERIVED. THE GIVEN ROWS OF THIS SEAT. 11 by the template 'for every input the law returns true; each argument reads behind the call as it read before'; 0 by the template 'total and deterministic' (their statements: YtplbjbpdinmjeaaTotals.lean).
  GIVEN WITH THE SEED: the statements are not yours to turn. If you find one false, say at which input.
  Laid BY PROGRAM, IN A SANDBOX (cutbox-rows.mjs): the forced cells as the released guide's own fill.sh prints them over the translation bec8095b48a7b41e… (all of the seat's roots in one cut). By AI agents, Wed Nov 11 2026. No macro, syntax, notation, axiom, sorry.
-/
import Derived.Test.YtplbjbpdinmjeaaChecked
import GoSem.Claim
import GoSem.ClaimJoined
import GoSem.ClaimMapViews
import Derived.JoinedTies
import Derived.KernelRfl
namespace Go.Proofs.Ytplbjbpdinmjeaa
/- THE CELL 'sum', in the pinned program and in every row, IS THE sha256 OF THE DUMP (.gsa) THAT YtplbjbpdinmjeaaProg.lean LOADS. Nothing in Lean hashes anything: it is a label: what it is worth is what the hold of that sum in a sandbox is worth. -/
noncomputable def Try.pinned : Pinned := { name := "ytplbjbpdinmjeaa", sum := "bec8095b48a7b41e712b08a68618b106faf8c24d8ac8fb2a73f240e8887f83e4", checked := Try.checked }
namespace Rows
def none {H : Type} : Left H := { results := [], args := [] }

/-- 'flightdecklaw05.CalendarMonths': WHATEVER THE INPUT: true; the input reads as it did. -/
def calendarMonthsSpec : ChangeSpec := { name := "calendarMonths", fn := fun _ => fun
  | [d1, d2] => { results := [.lit (.bool true)], args := [d1, d2] }
  | _ => none }
def calendarMonthsRow : OpenClaim := { program := "ytplbjbpdinmjeaa", sum := "bec8095b48a7b41e712b08a68618b106faf8c24d8ac8fb2a73f240e8887f83e4", func := "flightdeck/flightdecklaw05.CalendarMonths", spec := "calendarMonths", apart := false }
def CalendarMonthsSaid : Prop := calendarMonthsRow.holds Try.pinned (OpenSpec.ofChange calendarMonthsSpec)

/-- ITS FALSE NEIGHBOUR: 'it returns false'. Refute it at one input. -/
def calendarMonthsWrong : ChangeSpec := { name := "calendarMonths", fn := fun _ => fun
  | [d1, d2] => { results := [.lit (.bool false)], args := [d1, d2] }
  | _ => none }
def CalendarMonthsWrongFalsely : Prop := calendarMonthsRow.holds Try.pinned (OpenSpec.ofChange calendarMonthsWrong)

/-- 'flightdecklaw05.CalendarDays': WHATEVER THE INPUT: true; the input reads as it did. -/
def calendarDaysSpec : ChangeSpec := { name := "calendarDays", fn := fun _ => fun
  | [d1, d2, d3] => { results := [.lit (.bool true)], args := [d1, d2, d3] }
  | _ => none }
def calendarDaysRow : OpenClaim := { program := "ytplbjbpdinmjeaa", sum := "bec8095b48a7b41e712b08a68618b106faf8c24d8ac8fb2a73f240e8887f83e4", func := "flightdeck/flightdecklaw05.CalendarDays", spec := "calendarDays", apart := false }
def CalendarDaysSaid : Prop := calendarDaysRow.holds Try.pinned (OpenSpec.ofChange calendarDaysSpec)

/-- ITS FALSE NEIGHBOUR: 'it returns false'. Refute it at one input. -/
def calendarDaysWrong : ChangeSpec := { name := "calendarDays", fn := fun _ => fun
  | [d1, d2, d3] => { results := [.lit (.bool false)], args := [d1, d2, d3] }
  | _ => none }
def CalendarDaysWrongFalsely : Prop := calendarDaysRow.holds Try.pinned (OpenSpec.ofChange calendarDaysWrong)

/-- 'flightdecklaw05.CalendarDates': WHATEVER THE INPUT: true; the input reads as it did. -/
def calendarDatesSpec : ChangeSpec := { name := "calendarDates", fn := fun _ => fun
  | [d] => { results := [.lit (.bool true)], args := [d] }
  | _ => none }
def calendarDatesRow : OpenClaim := { program := "ytplbjbpdinmjeaa", sum := "bec8095b48a7b41e712b08a68618b106faf8c24d8ac8fb2a73f240e8887f83e4", func := "flightdeck/flightdecklaw05.CalendarDates", spec := "calendarDates", apart := false }
def CalendarDatesSaid : Prop := calendarDatesRow.holds Try.pinned (OpenSpec.ofChange calendarDatesSpec)

/-- ITS FALSE NEIGHBOUR: 'it returns false'. Refute it at one input. -/
def calendarDatesWrong : ChangeSpec := { name := "calendarDates", fn := fun _ => fun
  | [d] => { results := [.lit (.bool false)], args := [d] }
  | _ => none }
def CalendarDatesWrongFalsely : Prop := calendarDatesRow.holds Try.pinned (OpenSpec.ofChange calendarDatesWrong)

/-- 'flightdecklaw05.CalendarNext': WHATEVER THE INPUT: true; the input reads as it did. -/
def calendarNextSpec : ChangeSpec := { name := "calendarNext", fn := fun _ => fun
  | [d] => { results := [.lit (.bool true)], args := [d] }
  | _ => none }
def calendarNextRow : OpenClaim := { program := "ytplbjbpdinmjeaa", sum := "bec8095b48a7b41e712b08a68618b106faf8c24d8ac8fb2a73f240e8887f83e4", func := "flightdeck/flightdecklaw05.CalendarNext", spec := "calendarNext", apart := false }
def CalendarNextSaid : Prop := calendarNextRow.holds Try.pinned (OpenSpec.ofChange calendarNextSpec)

/-- ITS FALSE NEIGHBOUR: 'it returns false'. Refute it at one input. -/
def calendarNextWrong : ChangeSpec := { name := "calendarNext", fn := fun _ => fun
  | [d] => { results := [.lit (.bool false)], args := [d] }
  | _ => none }
def CalendarNextWrongFalsely : Prop := calendarNextRow.holds Try.pinned (OpenSpec.ofChange calendarNextWrong)

/-- 'flightdecklaw05.CalendarCycles': WHATEVER THE INPUT: true; the input reads as it did. -/
def calendarCyclesSpec : ChangeSpec := { name := "calendarCycles", fn := fun _ => fun
  | [d] => { results := [.lit (.bool true)], args := [d] }
  | _ => none }
def calendarCyclesRow : OpenClaim := { program := "ytplbjbpdinmjeaa", sum := "bec8095b48a7b41e712b08a68618b106faf8c24d8ac8fb2a73f240e8887f83e4", func := "flightdeck/flightdecklaw05.CalendarCycles", spec := "calendarCycles", apart := false }
def CalendarCyclesSaid : Prop := calendarCyclesRow.holds Try.pinned (OpenSpec.ofChange calendarCyclesSpec)

/-- ITS FALSE NEIGHBOUR: 'it returns false'. Refute it at one input. -/
def calendarCyclesWrong : ChangeSpec := { name := "calendarCycles", fn := fun _ => fun
  | [d] => { results := [.lit (.bool false)], args := [d] }
  | _ => none }
def CalendarCyclesWrongFalsely : Prop := calendarCyclesRow.holds Try.pinned (OpenSpec.ofChange calendarCyclesWrong)

/-- 'flightdecklaw05.CalendarInstants': WHATEVER THE INPUT: true; the input reads as it did. -/
def calendarInstantsSpec : ChangeSpec := { name := "calendarInstants", fn := fun _ => fun
  | [d1, d2, d3] => { results := [.lit (.bool true)], args := [d1, d2, d3] }
  | _ => none }
def calendarInstantsRow : OpenClaim := { program := "ytplbjbpdinmjeaa", sum := "bec8095b48a7b41e712b08a68618b106faf8c24d8ac8fb2a73f240e8887f83e4", func := "flightdeck/flightdecklaw05.CalendarInstants", spec := "calendarInstants", apart := false }
def CalendarInstantsSaid : Prop := calendarInstantsRow.holds Try.pinned (OpenSpec.ofChange calendarInstantsSpec)

/-- ITS FALSE NEIGHBOUR: 'it returns false'. Refute it at one input. -/
def calendarInstantsWrong : ChangeSpec := { name := "calendarInstants", fn := fun _ => fun
  | [d1, d2, d3] => { results := [.lit (.bool false)], args := [d1, d2, d3] }
  | _ => none }
def CalendarInstantsWrongFalsely : Prop := calendarInstantsRow.holds Try.pinned (OpenSpec.ofChange calendarInstantsWrong)

/-- 'flightdecklaw05.CalendarLater': WHATEVER THE INPUT: true; the input reads as it did. -/
def calendarLaterSpec : ChangeSpec := { name := "calendarLater", fn := fun _ => fun
  | [d1, d2] => { results := [.lit (.bool true)], args := [d1, d2] }
  | _ => none }
def calendarLaterRow : OpenClaim := { program := "ytplbjbpdinmjeaa", sum := "bec8095b48a7b41e712b08a68618b106faf8c24d8ac8fb2a73f240e8887f83e4", func := "flightdeck/flightdecklaw05.CalendarLater", spec := "calendarLater", apart := false }
def CalendarLaterSaid : Prop := calendarLaterRow.holds Try.pinned (OpenSpec.ofChange calendarLaterSpec)

/-- ITS FALSE NEIGHBOUR: 'it returns false'. Refute it at one input. -/
def calendarLaterWrong : ChangeSpec := { name := "calendarLater", fn := fun _ => fun
  | [d1, d2] => { results := [.lit (.bool false)], args := [d1, d2] }
  | _ => none }
def CalendarLaterWrongFalsely : Prop := calendarLaterRow.holds Try.pinned (OpenSpec.ofChange calendarLaterWrong)

/-- 'flightdecklaw05.CalendarParses': WHATEVER THE INPUT: true; the input reads as it did. -/
def calendarParsesSpec : ChangeSpec := { name := "calendarParses", fn := fun _ => fun
  | [d] => { results := [.lit (.bool true)], args := [d] }
  | _ => none }
def calendarParsesRow : OpenClaim := { program := "ytplbjbpdinmjeaa", sum := "bec8095b48a7b41e712b08a68618b106faf8c24d8ac8fb2a73f240e8887f83e4", func := "flightdeck/flightdecklaw05.CalendarParses", spec := "calendarParses", apart := false }
def CalendarParsesSaid : Prop := calendarParsesRow.holds Try.pinned (OpenSpec.ofChange calendarParsesSpec)

/-- ITS FALSE NEIGHBOUR: 'it returns false'. Refute it at one input. -/
def calendarParsesWrong : ChangeSpec := { name := "calendarParses", fn := fun _ => fun
  | [d] => { results := [.lit (.bool false)], args := [d] }
  | _ => none }
def CalendarParsesWrongFalsely : Prop := calendarParsesRow.holds Try.pinned (OpenSpec.ofChange calendarParsesWrong)

/-- 'flightdecklaw05.CalendarTexts': WHATEVER THE INPUT: true; the input reads as it did. -/
def calendarTextsSpec : ChangeSpec := { name := "calendarTexts", fn := fun _ => fun
  | [d] => { results := [.lit (.bool true)], args := [d] }
  | _ => none }
def calendarTextsRow : OpenClaim := { program := "ytplbjbpdinmjeaa", sum := "bec8095b48a7b41e712b08a68618b106faf8c24d8ac8fb2a73f240e8887f83e4", func := "flightdeck/flightdecklaw05.CalendarTexts", spec := "calendarTexts", apart := false }
def CalendarTextsSaid : Prop := calendarTextsRow.holds Try.pinned (OpenSpec.ofChange calendarTextsSpec)

/-- ITS FALSE NEIGHBOUR: 'it returns false'. Refute it at one input. -/
def calendarTextsWrong : ChangeSpec := { name := "calendarTexts", fn := fun _ => fun
  | [d] => { results := [.lit (.bool false)], args := [d] }
  | _ => none }
def CalendarTextsWrongFalsely : Prop := calendarTextsRow.holds Try.pinned (OpenSpec.ofChange calendarTextsWrong)

/-- 'flightdecklaw05.CalendarClocks': WHATEVER THE INPUT: true; the input reads as it did. -/
def calendarClocksSpec : ChangeSpec := { name := "calendarClocks", fn := fun _ => fun
  | [d] => { results := [.lit (.bool true)], args := [d] }
  | _ => none }
def calendarClocksRow : OpenClaim := { program := "ytplbjbpdinmjeaa", sum := "bec8095b48a7b41e712b08a68618b106faf8c24d8ac8fb2a73f240e8887f83e4", func := "flightdeck/flightdecklaw05.CalendarClocks", spec := "calendarClocks", apart := false }
def CalendarClocksSaid : Prop := calendarClocksRow.holds Try.pinned (OpenSpec.ofChange calendarClocksSpec)

/-- ITS FALSE NEIGHBOUR: 'it returns false'. Refute it at one input. -/
def calendarClocksWrong : ChangeSpec := { name := "calendarClocks", fn := fun _ => fun
  | [d] => { results := [.lit (.bool false)], args := [d] }
  | _ => none }
def CalendarClocksWrongFalsely : Prop := calendarClocksRow.holds Try.pinned (OpenSpec.ofChange calendarClocksWrong)

/-- 'flightdecklaw05.CalendarNumbers': WHATEVER THE INPUT: true; the input reads as it did. -/
def calendarNumbersSpec : ChangeSpec := { name := "calendarNumbers", fn := fun _ => fun
  | [d1, d2] => { results := [.lit (.bool true)], args := [d1, d2] }
  | _ => none }
def calendarNumbersRow : OpenClaim := { program := "ytplbjbpdinmjeaa", sum := "bec8095b48a7b41e712b08a68618b106faf8c24d8ac8fb2a73f240e8887f83e4", func := "flightdeck/flightdecklaw05.CalendarNumbers", spec := "calendarNumbers", apart := false }
def CalendarNumbersSaid : Prop := calendarNumbersRow.holds Try.pinned (OpenSpec.ofChange calendarNumbersSpec)

/-- ITS FALSE NEIGHBOUR: 'it returns false'. Refute it at one input. -/
def calendarNumbersWrong : ChangeSpec := { name := "calendarNumbers", fn := fun _ => fun
  | [d1, d2] => { results := [.lit (.bool false)], args := [d1, d2] }
  | _ => none }
def CalendarNumbersWrongFalsely : Prop := calendarNumbersRow.holds Try.pinned (OpenSpec.ofChange calendarNumbersWrong)

/- THE SECOND FORM. 'bulk': how many values and letters a reading holds, each counted each time it is reached (what is shared counts as often as it is met; a slice's spare places count too). A statement '..UptoSaid' is the law's where the arguments, and the package variables that the reading takes, are together of bulk at most 1048576: NARROWER than '..Said'. Prove '..Said' where nothing that the law and all that it calls make is longer than what came in: it says more and counts as full. Else prove '..UptoSaid'. A law counts once. -/
mutual
def uptoBulk {H : Type} : DataW H → Nat
  | .lit (.string bytes) => bytes.length + 1
  | .lit _ => 1
  | .nil => 1
  | .ptr d => uptoBulk d + 1
  | .slice elems spare => uptoBulkAll elems + uptoBulkAll spare + 1
  | .agg parts => uptoBulkAll parts + 1
  | .iface _ d => uptoBulk d + 1
  | .map entries => uptoBulkEntries entries + 1
  | .held _ => 1
def uptoBulkAll {H : Type} : List (DataW H) → Nat
  | [] => 0
  | d :: r => uptoBulk d + uptoBulkAll r
def uptoBulkEntries {H : Type} : List (Lit × DataW H) → Nat
  | [] => 0
  | x :: r => uptoBulkEntry x + uptoBulkEntries r
def uptoBulkEntry {H : Type} : Lit × DataW H → Nat
  | (.string bytes, d) => bytes.length + uptoBulk d + 1
  | (_, d) => uptoBulk d + 1
 end
def uptoSmall : (H : Type) → List (DataW H) → Bool := fun _ ds => decide (uptoBulkAll ds ≤ 1048576)
def OpenSpec.upto (s : _root_.Go.ChangeSpec) : _root_.Go.OpenSpec := { _root_.Go.OpenSpec.ofChange s with cond := some uptoSmall }

/-- 'flightdecklaw05.CalendarMonths', WHERE WHAT IT READS IS OF BULK AT MOST 1048576: true; the input reads as it did. -/
def calendarMonthsUptoRow : OpenClaim := { program := "ytplbjbpdinmjeaa", sum := "bec8095b48a7b41e712b08a68618b106faf8c24d8ac8fb2a73f240e8887f83e4", func := "flightdeck/flightdecklaw05.CalendarMonths", spec := "calendarMonths", apart := false, narrowed := true }
def CalendarMonthsUptoSaid : Prop := calendarMonthsUptoRow.holds Try.pinned (OpenSpec.upto calendarMonthsSpec)

/-- 'flightdecklaw05.CalendarDays', WHERE WHAT IT READS IS OF BULK AT MOST 1048576: true; the input reads as it did. -/
def calendarDaysUptoRow : OpenClaim := { program := "ytplbjbpdinmjeaa", sum := "bec8095b48a7b41e712b08a68618b106faf8c24d8ac8fb2a73f240e8887f83e4", func := "flightdeck/flightdecklaw05.CalendarDays", spec := "calendarDays", apart := false, narrowed := true }
def CalendarDaysUptoSaid : Prop := calendarDaysUptoRow.holds Try.pinned (OpenSpec.upto calendarDaysSpec)

/-- 'flightdecklaw05.CalendarDates', WHERE WHAT IT READS IS OF BULK AT MOST 1048576: true; the input reads as it did. -/
def calendarDatesUptoRow : OpenClaim := { program := "ytplbjbpdinmjeaa", sum := "bec8095b48a7b41e712b08a68618b106faf8c24d8ac8fb2a73f240e8887f83e4", func := "flightdeck/flightdecklaw05.CalendarDates", spec := "calendarDates", apart := false, narrowed := true }
def CalendarDatesUptoSaid : Prop := calendarDatesUptoRow.holds Try.pinned (OpenSpec.upto calendarDatesSpec)

/-- 'flightdecklaw05.CalendarNext', WHERE WHAT IT READS IS OF BULK AT MOST 1048576: true; the input reads as it did. -/
def calendarNextUptoRow : OpenClaim := { program := "ytplbjbpdinmjeaa", sum := "bec8095b48a7b41e712b08a68618b106faf8c24d8ac8fb2a73f240e8887f83e4", func := "flightdeck/flightdecklaw05.CalendarNext", spec := "calendarNext", apart := false, narrowed := true }
def CalendarNextUptoSaid : Prop := calendarNextUptoRow.holds Try.pinned (OpenSpec.upto calendarNextSpec)

/-- 'flightdecklaw05.CalendarCycles', WHERE WHAT IT READS IS OF BULK AT MOST 1048576: true; the input reads as it did. -/
def calendarCyclesUptoRow : OpenClaim := { program := "ytplbjbpdinmjeaa", sum := "bec8095b48a7b41e712b08a68618b106faf8c24d8ac8fb2a73f240e8887f83e4", func := "flightdeck/flightdecklaw05.CalendarCycles", spec := "calendarCycles", apart := false, narrowed := true }
def CalendarCyclesUptoSaid : Prop := calendarCyclesUptoRow.holds Try.pinned (OpenSpec.upto calendarCyclesSpec)

/-- 'flightdecklaw05.CalendarInstants', WHERE WHAT IT READS IS OF BULK AT MOST 1048576: true; the input reads as it did. -/
def calendarInstantsUptoRow : OpenClaim := { program := "ytplbjbpdinmjeaa", sum := "bec8095b48a7b41e712b08a68618b106faf8c24d8ac8fb2a73f240e8887f83e4", func := "flightdeck/flightdecklaw05.CalendarInstants", spec := "calendarInstants", apart := false, narrowed := true }
def CalendarInstantsUptoSaid : Prop := calendarInstantsUptoRow.holds Try.pinned (OpenSpec.upto calendarInstantsSpec)

/-- 'flightdecklaw05.CalendarLater', WHERE WHAT IT READS IS OF BULK AT MOST 1048576: true; the input reads as it did. -/
def calendarLaterUptoRow : OpenClaim := { program := "ytplbjbpdinmjeaa", sum := "bec8095b48a7b41e712b08a68618b106faf8c24d8ac8fb2a73f240e8887f83e4", func := "flightdeck/flightdecklaw05.CalendarLater", spec := "calendarLater", apart := false, narrowed := true }
def CalendarLaterUptoSaid : Prop := calendarLaterUptoRow.holds Try.pinned (OpenSpec.upto calendarLaterSpec)

/-- 'flightdecklaw05.CalendarParses', WHERE WHAT IT READS IS OF BULK AT MOST 1048576: true; the input reads as it did. -/
def calendarParsesUptoRow : OpenClaim := { program := "ytplbjbpdinmjeaa", sum := "bec8095b48a7b41e712b08a68618b106faf8c24d8ac8fb2a73f240e8887f83e4", func := "flightdeck/flightdecklaw05.CalendarParses", spec := "calendarParses", apart := false, narrowed := true }
def CalendarParsesUptoSaid : Prop := calendarParsesUptoRow.holds Try.pinned (OpenSpec.upto calendarParsesSpec)

/-- 'flightdecklaw05.CalendarTexts', WHERE WHAT IT READS IS OF BULK AT MOST 1048576: true; the input reads as it did. -/
def calendarTextsUptoRow : OpenClaim := { program := "ytplbjbpdinmjeaa", sum := "bec8095b48a7b41e712b08a68618b106faf8c24d8ac8fb2a73f240e8887f83e4", func := "flightdeck/flightdecklaw05.CalendarTexts", spec := "calendarTexts", apart := false, narrowed := true }
def CalendarTextsUptoSaid : Prop := calendarTextsUptoRow.holds Try.pinned (OpenSpec.upto calendarTextsSpec)

/-- 'flightdecklaw05.CalendarClocks', WHERE WHAT IT READS IS OF BULK AT MOST 1048576: true; the input reads as it did. -/
def calendarClocksUptoRow : OpenClaim := { program := "ytplbjbpdinmjeaa", sum := "bec8095b48a7b41e712b08a68618b106faf8c24d8ac8fb2a73f240e8887f83e4", func := "flightdeck/flightdecklaw05.CalendarClocks", spec := "calendarClocks", apart := false, narrowed := true }
def CalendarClocksUptoSaid : Prop := calendarClocksUptoRow.holds Try.pinned (OpenSpec.upto calendarClocksSpec)

/-- 'flightdecklaw05.CalendarNumbers', WHERE WHAT IT READS IS OF BULK AT MOST 1048576: true; the input reads as it did. -/
def calendarNumbersUptoRow : OpenClaim := { program := "ytplbjbpdinmjeaa", sum := "bec8095b48a7b41e712b08a68618b106faf8c24d8ac8fb2a73f240e8887f83e4", func := "flightdeck/flightdecklaw05.CalendarNumbers", spec := "calendarNumbers", apart := false, narrowed := true }
def CalendarNumbersUptoSaid : Prop := calendarNumbersUptoRow.holds Try.pinned (OpenSpec.upto calendarNumbersSpec)

end Rows
end Go.Proofs.Ytplbjbpdinmjeaa
