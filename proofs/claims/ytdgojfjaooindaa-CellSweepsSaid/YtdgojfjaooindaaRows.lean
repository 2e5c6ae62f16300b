/-
  No cell of these rows narrows 'for every input' (looked for: loops, veiled, ifaces, maps, wideKeys, modest, calm, conditions, laid).
  DERIVED. THE GIVEN ROWS OF THIS SEAT. 14 by the template 'for every input the law returns true; each argument reads behind the call as it read before'; 0 by the template 'total and deterministic' (their statements: YtdgojfjaooindaaTotals.lean).
  GIVEN WITH THE SEED: the statements are not yours to turn. If you find one false, say at which input.
  Laid BY PROGRAM, IN A SANDBOX (cutbox-rows.mjs): the forced cells as the released guide's own fill.sh prints them over the translation a6c283ac6444cde3… (all of the seat's roots in one cut). By AI agents, Wed Nov 11 2026. No macro, syntax, notation, axiom, sorry.
-/
import Derived.Test.YtdgojfjaooindaaChecked
import GoSem.Claim
import GoSem.ClaimJoined
import GoSem.ClaimMapViews
import Derived.JoinedTies
import Derived.KernelRfl
namespace Go.Proofs.Ytdgojfjaooindaa
/- THE CELL 'sum', in the pinned program and in every row, IS THE sha256 OF THE DUMP (.gsa) THAT YtdgojfjaooindaaProg.lean LOADS. Nothing in Lean hashes anything: it is a label: what it is worth is what the hold of that sum in a sandbox is worth. -/
noncomputable def Try.pinned : Pinned := { name := "ytdgojfjaooindaa", sum := "a6c283ac6444cde30aa596267dbb0ff6c1af5f63e02bec100e230ffc883bce98", checked := Try.checked }
namespace Rows
def none {H : Type} : Left H := { results := [], args := [] }

/-- 'ligaturelaw6.ClockOrder': WHATEVER THE INPUT: true; the input reads as it did. -/
def clockOrderSpec : ChangeSpec := { name := "clockOrder", fn := fun _ => fun
  | [d1, d2] => { results := [.lit (.bool true)], args := [d1, d2] }
  | _ => none }
def clockOrderRow : OpenClaim := { program := "ytdgojfjaooindaa", sum := "a6c283ac6444cde30aa596267dbb0ff6c1af5f63e02bec100e230ffc883bce98", func := "ligature/ligaturelaw6.ClockOrder", spec := "clockOrder", apart := false }
def ClockOrderSaid : Prop := clockOrderRow.holds Try.pinned (OpenSpec.ofChange clockOrderSpec)

/-- ITS FALSE NEIGHBOUR: 'it returns false'. Refute it at one input. -/
def clockOrderWrong : ChangeSpec := { name := "clockOrder", fn := fun _ => fun
  | [d1, d2] => { results := [.lit (.bool false)], args := [d1, d2] }
  | _ => none }
def ClockOrderWrongFalsely : Prop := clockOrderRow.holds Try.pinned (OpenSpec.ofChange clockOrderWrong)

/-- 'ligaturelaw6.ClockStays': WHATEVER THE INPUT: true; the input reads as it did. -/
def clockStaysSpec : ChangeSpec := { name := "clockStays", fn := fun _ => fun
  | [d1, d2] => { results := [.lit (.bool true)], args := [d1, d2] }
  | _ => none }
def clockStaysRow : OpenClaim := { program := "ytdgojfjaooindaa", sum := "a6c283ac6444cde30aa596267dbb0ff6c1af5f63e02bec100e230ffc883bce98", func := "ligature/ligaturelaw6.ClockStays", spec := "clockStays", apart := false }
def ClockStaysSaid : Prop := clockStaysRow.holds Try.pinned (OpenSpec.ofChange clockStaysSpec)

/-- ITS FALSE NEIGHBOUR: 'it returns false'. Refute it at one input. -/
def clockStaysWrong : ChangeSpec := { name := "clockStays", fn := fun _ => fun
  | [d1, d2] => { results := [.lit (.bool false)], args := [d1, d2] }
  | _ => none }
def ClockStaysWrongFalsely : Prop := clockStaysRow.holds Try.pinned (OpenSpec.ofChange clockStaysWrong)

/-- 'ligaturelaw6.ClockFull': WHATEVER THE INPUT: true; the input reads as it did. -/
def clockFullSpec : ChangeSpec := { name := "clockFull", fn := fun _ => fun
  | [d1, d2] => { results := [.lit (.bool true)], args := [d1, d2] }
  | _ => none }
def clockFullRow : OpenClaim := { program := "ytdgojfjaooindaa", sum := "a6c283ac6444cde30aa596267dbb0ff6c1af5f63e02bec100e230ffc883bce98", func := "ligature/ligaturelaw6.ClockFull", spec := "clockFull", apart := false }
def ClockFullSaid : Prop := clockFullRow.holds Try.pinned (OpenSpec.ofChange clockFullSpec)

/-- ITS FALSE NEIGHBOUR: 'it returns false'. Refute it at one input. -/
def clockFullWrong : ChangeSpec := { name := "clockFull", fn := fun _ => fun
  | [d1, d2] => { results := [.lit (.bool false)], args := [d1, d2] }
  | _ => none }
def ClockFullWrongFalsely : Prop := clockFullRow.holds Try.pinned (OpenSpec.ofChange clockFullWrong)

/-- 'ligaturelaw6.ClockPlays': WHATEVER THE INPUT: true; the input reads as it did. -/
def clockPlaysSpec : ChangeSpec := { name := "clockPlays", fn := fun _ => fun
  | [d] => { results := [.lit (.bool true)], args := [d] }
  | _ => none }
def clockPlaysRow : OpenClaim := { program := "ytdgojfjaooindaa", sum := "a6c283ac6444cde30aa596267dbb0ff6c1af5f63e02bec100e230ffc883bce98", func := "ligature/ligaturelaw6.ClockPlays", spec := "clockPlays", apart := false }
def ClockPlaysSaid : Prop := clockPlaysRow.holds Try.pinned (OpenSpec.ofChange clockPlaysSpec)

/-- ITS FALSE NEIGHBOUR: 'it returns false'. Refute it at one input. -/
def clockPlaysWrong : ChangeSpec := { name := "clockPlays", fn := fun _ => fun
  | [d] => { results := [.lit (.bool false)], args := [d] }
  | _ => none }
def ClockPlaysWrongFalsely : Prop := clockPlaysRow.holds Try.pinned (OpenSpec.ofChange clockPlaysWrong)

/-- 'ligaturelaw6.ClockOfNothing': WHATEVER THE INPUT: true; the input reads as it did. -/
def clockOfNothingSpec : ChangeSpec := { name := "clockOfNothing", fn := fun _ => fun
  | [d1, d2] => { results := [.lit (.bool true)], args := [d1, d2] }
  | _ => none }
def clockOfNothingRow : OpenClaim := { program := "ytdgojfjaooindaa", sum := "a6c283ac6444cde30aa596267dbb0ff6c1af5f63e02bec100e230ffc883bce98", func := "ligature/ligaturelaw6.ClockOfNothing", spec := "clockOfNothing", apart := false }
def ClockOfNothingSaid : Prop := clockOfNothingRow.holds Try.pinned (OpenSpec.ofChange clockOfNothingSpec)

/-- ITS FALSE NEIGHBOUR: 'it returns false'. Refute it at one input. -/
def clockOfNothingWrong : ChangeSpec := { name := "clockOfNothing", fn := fun _ => fun
  | [d1, d2] => { results := [.lit (.bool false)], args := [d1, d2] }
  | _ => none }
def ClockOfNothingWrongFalsely : Prop := clockOfNothingRow.holds Try.pinned (OpenSpec.ofChange clockOfNothingWrong)

/-- 'ligaturelaw6.ClockAborts': WHATEVER THE INPUT: true; the input reads as it did. -/
def clockAbortsSpec : ChangeSpec := { name := "clockAborts", fn := fun _ => fun
  | [d1, d2] => { results := [.lit (.bool true)], args := [d1, d2] }
  | _ => none }
def clockAbortsRow : OpenClaim := { program := "ytdgojfjaooindaa", sum := "a6c283ac6444cde30aa596267dbb0ff6c1af5f63e02bec100e230ffc883bce98", func := "ligature/ligaturelaw6.ClockAborts", spec := "clockAborts", apart := false }
def ClockAbortsSaid : Prop := clockAbortsRow.holds Try.pinned (OpenSpec.ofChange clockAbortsSpec)

/-- ITS FALSE NEIGHBOUR: 'it returns false'. Refute it at one input. -/
def clockAbortsWrong : ChangeSpec := { name := "clockAborts", fn := fun _ => fun
  | [d1, d2] => { results := [.lit (.bool false)], args := [d1, d2] }
  | _ => none }
def ClockAbortsWrongFalsely : Prop := clockAbortsRow.holds Try.pinned (OpenSpec.ofChange clockAbortsWrong)

/-- 'ligaturelaw7.CellTexts': WHATEVER THE INPUT: true; the input reads as it did. -/
def cellTextsSpec : ChangeSpec := { name := "cellTexts", fn := fun _ => fun
  | [d] => { results := [.lit (.bool true)], args := [d] }
  | _ => none }
def cellTextsRow : OpenClaim := { program := "ytdgojfjaooindaa", sum := "a6c283ac6444cde30aa596267dbb0ff6c1af5f63e02bec100e230ffc883bce98", func := "ligature/ligaturelaw7.CellTexts", spec := "cellTexts", unfollowed := true, recurses := true, apart := false }
def CellTextsSaid : Prop := cellTextsRow.holds Try.pinned (OpenSpec.ofChange cellTextsSpec)

/-- ITS FALSE NEIGHBOUR: 'it returns false'. Refute it at one input. -/
def cellTextsWrong : ChangeSpec := { name := "cellTexts", fn := fun _ => fun
  | [d] => { results := [.lit (.bool false)], args := [d] }
  | _ => none }
def CellTextsWrongFalsely : Prop := cellTextsRow.holds Try.pinned (OpenSpec.ofChange cellTextsWrong)

/-- 'ligaturelaw7.CellMarks': WHATEVER THE INPUT: true; the input reads as it did. -/
def cellMarksSpec : ChangeSpec := { name := "cellMarks", fn := fun _ => fun
  | [d1, d2] => { results := [.lit (.bool true)], args := [d1, d2] }
  | _ => none }
def cellMarksRow : OpenClaim := { program := "ytdgojfjaooindaa", sum := "a6c283ac6444cde30aa596267dbb0ff6c1af5f63e02bec100e230ffc883bce98", func := "ligature/ligaturelaw7.CellMarks", spec := "cellMarks", unfollowed := true, recurses := true, apart := false }
def CellMarksSaid : Prop := cellMarksRow.holds Try.pinned (OpenSpec.ofChange cellMarksSpec)

/-- ITS FALSE NEIGHBOUR: 'it returns false'. Refute it at one input. -/
def cellMarksWrong : ChangeSpec := { name := "cellMarks", fn := fun _ => fun
  | [d1, d2] => { results := [.lit (.bool false)], args := [d1, d2] }
  | _ => none }
def CellMarksWrongFalsely : Prop := cellMarksRow.holds Try.pinned (OpenSpec.ofChange cellMarksWrong)

/-- 'ligaturelaw7.CellGone': WHATEVER THE INPUT: true; the input reads as it did. -/
def cellGoneSpec : ChangeSpec := { name := "cellGone", fn := fun _ => fun
  | [d1, d2] => { results := [.lit (.bool true)], args := [d1, d2] }
  | _ => none }
def cellGoneRow : OpenClaim := { program := "ytdgojfjaooindaa", sum := "a6c283ac6444cde30aa596267dbb0ff6c1af5f63e02bec100e230ffc883bce98", func := "ligature/ligaturelaw7.CellGone", spec := "cellGone", unfollowed := true, recurses := true, apart := false }
def CellGoneSaid : Prop := cellGoneRow.holds Try.pinned (OpenSpec.ofChange cellGoneSpec)

/-- ITS FALSE NEIGHBOUR: 'it returns false'. Refute it at one input. -/
def cellGoneWrong : ChangeSpec := { name := "cellGone", fn := fun _ => fun
  | [d1, d2] => { results := [.lit (.bool false)], args := [d1, d2] }
  | _ => none }
def CellGoneWrongFalsely : Prop := cellGoneRow.holds Try.pinned (OpenSpec.ofChange cellGoneWrong)

/-- 'ligaturelaw7.CellSweeps': WHATEVER THE INPUT: true; the input reads as it did. -/
def cellSweepsSpec : ChangeSpec := { name := "cellSweeps", fn := fun _ => fun
  | [d] => { results := [.lit (.bool true)], args := [d] }
  | _ => none }
def cellSweepsRow : OpenClaim := { program := "ytdgojfjaooindaa", sum := "a6c283ac6444cde30aa596267dbb0ff6c1af5f63e02bec100e230ffc883bce98", func := "ligature/ligaturelaw7.CellSweeps", spec := "cellSweeps", unfollowed := true, recurses := true, apart := false }
def CellSweepsSaid : Prop := cellSweepsRow.holds Try.pinned (OpenSpec.ofChange cellSweepsSpec)

/-- ITS FALSE NEIGHBOUR: 'it returns false'. Refute it at one input. -/
def cellSweepsWrong : ChangeSpec := { name := "cellSweeps", fn := fun _ => fun
  | [d] => { results := [.lit (.bool false)], args := [d] }
  | _ => none }
def CellSweepsWrongFalsely : Prop := cellSweepsRow.holds Try.pinned (OpenSpec.ofChange cellSweepsWrong)

/-- 'ligaturelaw7.CellFirst': WHATEVER THE INPUT: true; the input reads as it did. -/
def cellFirstSpec : ChangeSpec := { name := "cellFirst", fn := fun _ => fun
  | [d1, d2, d3] => { results := [.lit (.bool true)], args := [d1, d2, d3] }
  | _ => none }
def cellFirstRow : OpenClaim := { program := "ytdgojfjaooindaa", sum := "a6c283ac6444cde30aa596267dbb0ff6c1af5f63e02bec100e230ffc883bce98", func := "ligature/ligaturelaw7.CellFirst", spec := "cellFirst", unfollowed := true, recurses := true, apart := false }
def CellFirstSaid : Prop := cellFirstRow.holds Try.pinned (OpenSpec.ofChange cellFirstSpec)

/-- ITS FALSE NEIGHBOUR: 'it returns false'. Refute it at one input. -/
def cellFirstWrong : ChangeSpec := { name := "cellFirst", fn := fun _ => fun
  | [d1, d2, d3] => { results := [.lit (.bool false)], args := [d1, d2, d3] }
  | _ => none }
def CellFirstWrongFalsely : Prop := cellFirstRow.holds Try.pinned (OpenSpec.ofChange cellFirstWrong)

/-- 'ligaturelaw7.CellUndoes': WHATEVER THE INPUT: true; the input reads as it did. -/
def cellUndoesSpec : ChangeSpec := { name := "cellUndoes", fn := fun _ => fun
  | [d1, d2, d3] => { results := [.lit (.bool true)], args := [d1, d2, d3] }
  | _ => none }
def cellUndoesRow : OpenClaim := { program := "ytdgojfjaooindaa", sum := "a6c283ac6444cde30aa596267dbb0ff6c1af5f63e02bec100e230ffc883bce98", func := "ligature/ligaturelaw7.CellUndoes", spec := "cellUndoes", unfollowed := true, recurses := true, apart := false }
def CellUndoesSaid : Prop := cellUndoesRow.holds Try.pinned (OpenSpec.ofChange cellUndoesSpec)

/-- ITS FALSE NEIGHBOUR: 'it returns false'. Refute it at one input. -/
def cellUndoesWrong : ChangeSpec := { name := "cellUndoes", fn := fun _ => fun
  | [d1, d2, d3] => { results := [.lit (.bool false)], args := [d1, d2, d3] }
  | _ => none }
def CellUndoesWrongFalsely : Prop := cellUndoesRow.holds Try.pinned (OpenSpec.ofChange cellUndoesWrong)

/-- 'ligaturelaw7.CellOfNothing': WHATEVER THE INPUT: true; the input reads as it did. -/
def cellOfNothingSpec : ChangeSpec := { name := "cellOfNothing", fn := fun _ => fun
  | [d1, d2] => { results := [.lit (.bool true)], args := [d1, d2] }
  | _ => none }
def cellOfNothingRow : OpenClaim := { program := "ytdgojfjaooindaa", sum := "a6c283ac6444cde30aa596267dbb0ff6c1af5f63e02bec100e230ffc883bce98", func := "ligature/ligaturelaw7.CellOfNothing", spec := "cellOfNothing", unfollowed := true, recurses := true, apart := false }
def CellOfNothingSaid : Prop := cellOfNothingRow.holds Try.pinned (OpenSpec.ofChange cellOfNothingSpec)

/-- ITS FALSE NEIGHBOUR: 'it returns false'. Refute it at one input. -/
def cellOfNothingWrong : ChangeSpec := { name := "cellOfNothing", fn := fun _ => fun
  | [d1, d2] => { results := [.lit (.bool false)], args := [d1, d2] }
  | _ => none }
def CellOfNothingWrongFalsely : Prop := cellOfNothingRow.holds Try.pinned (OpenSpec.ofChange cellOfNothingWrong)

/-- 'ligaturelaw7.CellPlays': WHATEVER THE INPUT: true; the input reads as it did. -/
def cellPlaysSpec : ChangeSpec := { name := "cellPlays", fn := fun _ => fun
  | [d] => { results := [.lit (.bool true)], args := [d] }
  | _ => none }
def cellPlaysRow : OpenClaim := { program := "ytdgojfjaooindaa", sum := "a6c283ac6444cde30aa596267dbb0ff6c1af5f63e02bec100e230ffc883bce98", func := "ligature/ligaturelaw7.CellPlays", spec := "cellPlays", unfollowed := true, recurses := true, apart := false }
def CellPlaysSaid : Prop := cellPlaysRow.holds Try.pinned (OpenSpec.ofChange cellPlaysSpec)

/-- ITS FALSE NEIGHBOUR: 'it returns false'. Refute it at one input. -/
def cellPlaysWrong : ChangeSpec := { name := "cellPlays", fn := fun _ => fun
  | [d] => { results := [.lit (.bool false)], args := [d] }
  | _ => none }
def CellPlaysWrongFalsely : Prop := cellPlaysRow.holds Try.pinned (OpenSpec.ofChange cellPlaysWrong)

/- THE SECOND FORM. 'bulk': how many values and letters a reading holds, each counted each time it is reached (what is shared counts as often as it is met; a slice's spare places count too). A statement '..UptoSaid' is the law's where the arguments, and the package variables that the reading takes, are together of bulk at most 1048576: NARROWER than '..Said'. Prove '..Said' where nothing that the law and all that it calls make is longer than what came in: it says more and counts as full. Else prove '..UptoSaid'. A law counts once. -/
mutual
def uptoBulk {H : Type} : DataW H → Nat
  | .lit (.string bytes) => bytes.length + 1
  | .lit _ => 1
  | .nil => 1
  | .ptr d => uptoBulk d + 1
  | .slice elems spare => uptoBulkAll elems + uptoBulkAll spare + 1
  | .agg parts => uptoBulkAll parts + 1
  | .iface _ d => uptoBulk d + 1
  | .map entries => uptoBulkEntries entries + 1
  | .held _ => 1
def uptoBulkAll {H : Type} : List (DataW H) → Nat
  | [] => 0
  | d :: r => uptoBulk d + uptoBulkAll r
def uptoBulkEntries {H : Type} : List (Lit × DataW H) → Nat
  | [] => 0
  | x :: r => uptoBulkEntry x + uptoBulkEntries r
def uptoBulkEntry {H : Type} : Lit × DataW H → Nat
  | (.string bytes, d) => bytes.length + uptoBulk d + 1
  | (_, d) => uptoBulk d + 1
 end
def uptoSmall : (H : Type) → List (DataW H) → Bool := fun _ ds => decide (uptoBulkAll ds ≤ 1048576)
def OpenSpec.upto (s : _root_.Go.ChangeSpec) : _root_.Go.OpenSpec := { _root_.Go.OpenSpec.ofChange s with cond := some uptoSmall }

/-- 'ligaturelaw6.ClockOrder', WHERE WHAT IT READS IS OF BULK AT MOST 1048576: true; the input reads as it did. -/
def clockOrderUptoRow : OpenClaim := { program := "ytdgojfjaooindaa", sum := "a6c283ac6444cde30aa596267dbb0ff6c1af5f63e02bec100e230ffc883bce98", func := "ligature/ligaturelaw6.ClockOrder", spec := "clockOrder", apart := false, narrowed := true }
def ClockOrderUptoSaid : Prop := clockOrderUptoRow.holds Try.pinned (OpenSpec.upto clockOrderSpec)

/-- 'ligaturelaw6.ClockStays', WHERE WHAT IT READS IS OF BULK AT MOST 1048576: true; the input reads as it did. -/
def clockStaysUptoRow : OpenClaim := { program := "ytdgojfjaooindaa", sum := "a6c283ac6444cde30aa596267dbb0ff6c1af5f63e02bec100e230ffc883bce98", func := "ligature/ligaturelaw6.ClockStays", spec := "clockStays", apart := false, narrowed := true }
def ClockStaysUptoSaid : Prop := clockStaysUptoRow.holds Try.pinned (OpenSpec.upto clockStaysSpec)

/-- 'ligaturelaw6.ClockFull', WHERE WHAT IT READS IS OF BULK AT MOST 1048576: true; the input reads as it did. -/
def clockFullUptoRow : OpenClaim := { program := "ytdgojfjaooindaa", sum := "a6c283ac6444cde30aa596267dbb0ff6c1af5f63e02bec100e230ffc883bce98", func := "ligature/ligaturelaw6.ClockFull", spec := "clockFull", apart := false, narrowed := true }
def ClockFullUptoSaid : Prop := clockFullUptoRow.holds Try.pinned (OpenSpec.upto clockFullSpec)

/-- 'ligaturelaw6.ClockPlays', WHERE WHAT IT READS IS OF BULK AT MOST 1048576: true; the input reads as it did. -/
def clockPlaysUptoRow : OpenClaim := { program := "ytdgojfjaooindaa", sum := "a6c283ac6444cde30aa596267dbb0ff6c1af5f63e02bec100e230ffc883bce98", func := "ligature/ligaturelaw6.ClockPlays", spec := "clockPlays", apart := false, narrowed := true }
def ClockPlaysUptoSaid : Prop := clockPlaysUptoRow.holds Try.pinned (OpenSpec.upto clockPlaysSpec)

/-- 'ligaturelaw6.ClockOfNothing', WHERE WHAT IT READS IS OF BULK AT MOST 1048576: true; the input reads as it did. -/
def clockOfNothingUptoRow : OpenClaim := { program := "ytdgojfjaooindaa", sum := "a6c283ac6444cde30aa596267dbb0ff6c1af5f63e02bec100e230ffc883bce98", func := "ligature/ligaturelaw6.ClockOfNothing", spec := "clockOfNothing", apart := false, narrowed := true }
def ClockOfNothingUptoSaid : Prop := clockOfNothingUptoRow.holds Try.pinned (OpenSpec.upto clockOfNothingSpec)

/-- 'ligaturelaw6.ClockAborts', WHERE WHAT IT READS IS OF BULK AT MOST 1048576: true; the input reads as it did. -/
def clockAbortsUptoRow : OpenClaim := { program := "ytdgojfjaooindaa", sum := "a6c283ac6444cde30aa596267dbb0ff6c1af5f63e02bec100e230ffc883bce98", func := "ligature/ligaturelaw6.ClockAborts", spec := "clockAborts", apart := false, narrowed := true }
def ClockAbortsUptoSaid : Prop := clockAbortsUptoRow.holds Try.pinned (OpenSpec.upto clockAbortsSpec)

/-- 'ligaturelaw7.CellTexts', WHERE WHAT IT READS IS OF BULK AT MOST 1048576: true; the input reads as it did. -/
def cellTextsUptoRow : OpenClaim := { program := "ytdgojfjaooindaa", sum := "a6c283ac6444cde30aa596267dbb0ff6c1af5f63e02bec100e230ffc883bce98", func := "ligature/ligaturelaw7.CellTexts", spec := "cellTexts", unfollowed := true, recurses := true, apart := false, narrowed := true }
def CellTextsUptoSaid : Prop := cellTextsUptoRow.holds Try.pinned (OpenSpec.upto cellTextsSpec)

/-- 'ligaturelaw7.CellMarks', WHERE WHAT IT READS IS OF BULK AT MOST 1048576: true; the input reads as it did. -/
def cellMarksUptoRow : OpenClaim := { program := "ytdgojfjaooindaa", sum := "a6c283ac6444cde30aa596267dbb0ff6c1af5f63e02bec100e230ffc883bce98", func := "ligature/ligaturelaw7.CellMarks", spec := "cellMarks", unfollowed := true, recurses := true, apart := false, narrowed := true }
def CellMarksUptoSaid : Prop := cellMarksUptoRow.holds Try.pinned (OpenSpec.upto cellMarksSpec)

/-- 'ligaturelaw7.CellGone', WHERE WHAT IT READS IS OF BULK AT MOST 1048576: true; the input reads as it did. -/
def cellGoneUptoRow : OpenClaim := { program := "ytdgojfjaooindaa", sum := "a6c283ac6444cde30aa596267dbb0ff6c1af5f63e02bec100e230ffc883bce98", func := "ligature/ligaturelaw7.CellGone", spec := "cellGone", unfollowed := true, recurses := true, apart := false, narrowed := true }
def CellGoneUptoSaid : Prop := cellGoneUptoRow.holds Try.pinned (OpenSpec.upto cellGoneSpec)

/-- 'ligaturelaw7.CellSweeps', WHERE WHAT IT READS IS OF BULK AT MOST 1048576: true; the input reads as it did. -/
def cellSweepsUptoRow : OpenClaim := { program := "ytdgojfjaooindaa", sum := "a6c283ac6444cde30aa596267dbb0ff6c1af5f63e02bec100e230ffc883bce98", func := "ligature/ligaturelaw7.CellSweeps", spec := "cellSweeps", unfollowed := true, recurses := true, apart := false, narrowed := true }
def CellSweepsUptoSaid : Prop := cellSweepsUptoRow.holds Try.pinned (OpenSpec.upto cellSweepsSpec)

/-- 'ligaturelaw7.CellFirst', WHERE WHAT IT READS IS OF BULK AT MOST 1048576: true; the input reads as it did. -/
def cellFirstUptoRow : OpenClaim := { program := "ytdgojfjaooindaa", sum := "a6c283ac6444cde30aa596267dbb0ff6c1af5f63e02bec100e230ffc883bce98", func := "ligature/ligaturelaw7.CellFirst", spec := "cellFirst", unfollowed := true, recurses := true, apart := false, narrowed := true }
def CellFirstUptoSaid : Prop := cellFirstUptoRow.holds Try.pinned (OpenSpec.upto cellFirstSpec)

/-- 'ligaturelaw7.CellUndoes', WHERE WHAT IT READS IS OF BULK AT MOST 1048576: true; the input reads as it did. -/
def cellUndoesUptoRow : OpenClaim := { program := "ytdgojfjaooindaa", sum := "a6c283ac6444cde30aa596267dbb0ff6c1af5f63e02bec100e230ffc883bce98", func := "ligature/ligaturelaw7.CellUndoes", spec := "cellUndoes", unfollowed := true, recurses := true, apart := false, narrowed := true }
def CellUndoesUptoSaid : Prop := cellUndoesUptoRow.holds Try.pinned (OpenSpec.upto cellUndoesSpec)

/-- 'ligaturelaw7.CellOfNothing', WHERE WHAT IT READS IS OF BULK AT MOST 1048576: true; the input reads as it did. -/
def cellOfNothingUptoRow : OpenClaim := { program := "ytdgojfjaooindaa", sum := "a6c283ac6444cde30aa596267dbb0ff6c1af5f63e02bec100e230ffc883bce98", func := "ligature/ligaturelaw7.CellOfNothing", spec := "cellOfNothing", unfollowed := true, recurses := true, apart := false, narrowed := true }
def CellOfNothingUptoSaid : Prop := cellOfNothingUptoRow.holds Try.pinned (OpenSpec.upto cellOfNothingSpec)

/-- 'ligaturelaw7.CellPlays', WHERE WHAT IT READS IS OF BULK AT MOST 1048576: true; the input reads as it did. -/
def cellPlaysUptoRow : OpenClaim := { program := "ytdgojfjaooindaa", sum := "a6c283ac6444cde30aa596267dbb0ff6c1af5f63e02bec100e230ffc883bce98", func := "ligature/ligaturelaw7.CellPlays", spec := "cellPlays", unfollowed := true, recurses := true, apart := false, narrowed := true }
def CellPlaysUptoSaid : Prop := cellPlaysUptoRow.holds Try.pinned (OpenSpec.upto cellPlaysSpec)

end Rows
end Go.Proofs.Ytdgojfjaooindaa
