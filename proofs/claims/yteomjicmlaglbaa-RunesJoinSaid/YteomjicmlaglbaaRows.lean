/-
  No cell of these rows narrows 'for every input' (looked for: loops, veiled, ifaces, maps, wideKeys, modest, calm, conditions, laid).
  DERIVED. THE GIVEN ROWS OF THIS SEAT. 11 by the template 'for every input the law returns true; each argument reads behind the call as it read before'; 0 by the template 'total and deterministic' (their statements: YteomjicmlaglbaaTotals.lean).
  GIVEN WITH THE SEED: the statements are not yours to turn. If you find one false, say at which input.
  Laid BY PROGRAM, IN A SANDBOX (cutbox-rows.mjs): the forced cells as the released guide's own fill.sh prints them over the translation 8ea5b936802f9d52… (all of the seat's roots in one cut). By AI agents, Wed Nov 11 2026. No macro, syntax, notation, axiom, sorry.
-/
import Derived.Test.YteomjicmlaglbaaChecked
import GoSem.Claim
import GoSem.ClaimJoined
import GoSem.ClaimMapViews
import Derived.JoinedTies
import Derived.KernelRfl
namespace Go.Proofs.Yteomjicmlaglbaa
/- THE CELL 'sum', in the pinned program and in every row, IS THE sha256 OF THE DUMP (.gsa) THAT YteomjicmlaglbaaProg.lean LOADS. Nothing in Lean hashes anything: it is a label: what it is worth is what the hold of that sum in a sandbox is worth. -/
noncomputable def Try.pinned : Pinned := { name := "yteomjicmlaglbaa", sum := "8ea5b936802f9d52e6b6a11ff75dac9931ded204d693d5c0ea16d3ef95f45c9c", checked := Try.checked }
namespace Rows
def none {H : Type} : Left H := { results := [], args := [] }

/-- 'correctorlaw1.RunesNext': WHATEVER THE INPUT: true; the input reads as it did. -/
def runesNextSpec : ChangeSpec := { name := "runesNext", fn := fun _ => fun
  | [d1, d2, d3] => { results := [.lit (.bool true)], args := [d1, d2, d3] }
  | _ => none }
def runesNextRow : OpenClaim := { program := "yteomjicmlaglbaa", sum := "8ea5b936802f9d52e6b6a11ff75dac9931ded204d693d5c0ea16d3ef95f45c9c", func := "corrector/correctorlaw1.RunesNext", spec := "runesNext", apart := false }
def RunesNextSaid : Prop := runesNextRow.holds Try.pinned (OpenSpec.ofChange runesNextSpec)

/-- ITS FALSE NEIGHBOUR: 'it returns false'. Refute it at one input. -/
def runesNextWrong : ChangeSpec := { name := "runesNext", fn := fun _ => fun
  | [d1, d2, d3] => { results := [.lit (.bool false)], args := [d1, d2, d3] }
  | _ => none }
def RunesNextWrongFalsely : Prop := runesNextRow.holds Try.pinned (OpenSpec.ofChange runesNextWrong)

/-- 'correctorlaw1.RunesShort': WHATEVER THE INPUT: true; the input reads as it did. -/
def runesShortSpec : ChangeSpec := { name := "runesShort", fn := fun _ => fun
  | [d1, d2, d3] => { results := [.lit (.bool true)], args := [d1, d2, d3] }
  | _ => none }
def runesShortRow : OpenClaim := { program := "yteomjicmlaglbaa", sum := "8ea5b936802f9d52e6b6a11ff75dac9931ded204d693d5c0ea16d3ef95f45c9c", func := "corrector/correctorlaw1.RunesShort", spec := "runesShort", apart := false }
def RunesShortSaid : Prop := runesShortRow.holds Try.pinned (OpenSpec.ofChange runesShortSpec)

/-- ITS FALSE NEIGHBOUR: 'it returns false'. Refute it at one input. -/
def runesShortWrong : ChangeSpec := { name := "runesShort", fn := fun _ => fun
  | [d1, d2, d3] => { results := [.lit (.bool false)], args := [d1, d2, d3] }
  | _ => none }
def RunesShortWrongFalsely : Prop := runesShortRow.holds Try.pinned (OpenSpec.ofChange runesShortWrong)

/-- 'correctorlaw1.RunesBad': WHATEVER THE INPUT: true; the input reads as it did. -/
def runesBadSpec : ChangeSpec := { name := "runesBad", fn := fun _ => fun
  | [d] => { results := [.lit (.bool true)], args := [d] }
  | _ => none }
def runesBadRow : OpenClaim := { program := "yteomjicmlaglbaa", sum := "8ea5b936802f9d52e6b6a11ff75dac9931ded204d693d5c0ea16d3ef95f45c9c", func := "corrector/correctorlaw1.RunesBad", spec := "runesBad", apart := false }
def RunesBadSaid : Prop := runesBadRow.holds Try.pinned (OpenSpec.ofChange runesBadSpec)

/-- ITS FALSE NEIGHBOUR: 'it returns false'. Refute it at one input. -/
def runesBadWrong : ChangeSpec := { name := "runesBad", fn := fun _ => fun
  | [d] => { results := [.lit (.bool false)], args := [d] }
  | _ => none }
def RunesBadWrongFalsely : Prop := runesBadRow.holds Try.pinned (OpenSpec.ofChange runesBadWrong)

/-- 'correctorlaw1.RunesAll': WHATEVER THE INPUT: true; the input reads as it did. -/
def runesAllSpec : ChangeSpec := { name := "runesAll", fn := fun _ => fun
  | [d] => { results := [.lit (.bool true)], args := [d] }
  | _ => none }
def runesAllRow : OpenClaim := { program := "yteomjicmlaglbaa", sum := "8ea5b936802f9d52e6b6a11ff75dac9931ded204d693d5c0ea16d3ef95f45c9c", func := "corrector/correctorlaw1.RunesAll", spec := "runesAll", apart := false }
def RunesAllSaid : Prop := runesAllRow.holds Try.pinned (OpenSpec.ofChange runesAllSpec)

/-- ITS FALSE NEIGHBOUR: 'it returns false'. Refute it at one input. -/
def runesAllWrong : ChangeSpec := { name := "runesAll", fn := fun _ => fun
  | [d] => { results := [.lit (.bool false)], args := [d] }
  | _ => none }
def RunesAllWrongFalsely : Prop := runesAllRow.holds Try.pinned (OpenSpec.ofChange runesAllWrong)

/-- 'correctorlaw1.RunesText': WHATEVER THE INPUT: true; the input reads as it did. -/
def runesTextSpec : ChangeSpec := { name := "runesText", fn := fun _ => fun
  | [d] => { results := [.lit (.bool true)], args := [d] }
  | _ => none }
def runesTextRow : OpenClaim := { program := "yteomjicmlaglbaa", sum := "8ea5b936802f9d52e6b6a11ff75dac9931ded204d693d5c0ea16d3ef95f45c9c", func := "corrector/correctorlaw1.RunesText", spec := "runesText", apart := false }
def RunesTextSaid : Prop := runesTextRow.holds Try.pinned (OpenSpec.ofChange runesTextSpec)

/-- ITS FALSE NEIGHBOUR: 'it returns false'. Refute it at one input. -/
def runesTextWrong : ChangeSpec := { name := "runesText", fn := fun _ => fun
  | [d] => { results := [.lit (.bool false)], args := [d] }
  | _ => none }
def RunesTextWrongFalsely : Prop := runesTextRow.holds Try.pinned (OpenSpec.ofChange runesTextWrong)

/-- 'correctorlaw1.RunesJoin': WHATEVER THE INPUT: true; the input reads as it did. -/
def runesJoinSpec : ChangeSpec := { name := "runesJoin", fn := fun _ => fun
  | [d1, d2] => { results := [.lit (.bool true)], args := [d1, d2] }
  | _ => none }
def runesJoinRow : OpenClaim := { program := "yteomjicmlaglbaa", sum := "8ea5b936802f9d52e6b6a11ff75dac9931ded204d693d5c0ea16d3ef95f45c9c", func := "corrector/correctorlaw1.RunesJoin", spec := "runesJoin", apart := false }
def RunesJoinSaid : Prop := runesJoinRow.holds Try.pinned (OpenSpec.ofChange runesJoinSpec)

/-- ITS FALSE NEIGHBOUR: 'it returns false'. Refute it at one input. -/
def runesJoinWrong : ChangeSpec := { name := "runesJoin", fn := fun _ => fun
  | [d1, d2] => { results := [.lit (.bool false)], args := [d1, d2] }
  | _ => none }
def RunesJoinWrongFalsely : Prop := runesJoinRow.holds Try.pinned (OpenSpec.ofChange runesJoinWrong)

/-- 'correctorlaw2.LinesStarts': WHATEVER THE INPUT: true; the input reads as it did. -/
def linesStartsSpec : ChangeSpec := { name := "linesStarts", fn := fun _ => fun
  | [d1, d2] => { results := [.lit (.bool true)], args := [d1, d2] }
  | _ => none }
def linesStartsRow : OpenClaim := { program := "yteomjicmlaglbaa", sum := "8ea5b936802f9d52e6b6a11ff75dac9931ded204d693d5c0ea16d3ef95f45c9c", func := "corrector/correctorlaw2.LinesStarts", spec := "linesStarts", apart := false }
def LinesStartsSaid : Prop := linesStartsRow.holds Try.pinned (OpenSpec.ofChange linesStartsSpec)

/-- ITS FALSE NEIGHBOUR: 'it returns false'. Refute it at one input. -/
def linesStartsWrong : ChangeSpec := { name := "linesStarts", fn := fun _ => fun
  | [d1, d2] => { results := [.lit (.bool false)], args := [d1, d2] }
  | _ => none }
def LinesStartsWrongFalsely : Prop := linesStartsRow.holds Try.pinned (OpenSpec.ofChange linesStartsWrong)

/-- 'correctorlaw2.LinesPlaces': WHATEVER THE INPUT: true; the input reads as it did. -/
def linesPlacesSpec : ChangeSpec := { name := "linesPlaces", fn := fun _ => fun
  | [d1, d2, d3] => { results := [.lit (.bool true)], args := [d1, d2, d3] }
  | _ => none }
def linesPlacesRow : OpenClaim := { program := "yteomjicmlaglbaa", sum := "8ea5b936802f9d52e6b6a11ff75dac9931ded204d693d5c0ea16d3ef95f45c9c", func := "corrector/correctorlaw2.LinesPlaces", spec := "linesPlaces", apart := false }
def LinesPlacesSaid : Prop := linesPlacesRow.holds Try.pinned (OpenSpec.ofChange linesPlacesSpec)

/-- ITS FALSE NEIGHBOUR: 'it returns false'. Refute it at one input. -/
def linesPlacesWrong : ChangeSpec := { name := "linesPlaces", fn := fun _ => fun
  | [d1, d2, d3] => { results := [.lit (.bool false)], args := [d1, d2, d3] }
  | _ => none }
def LinesPlacesWrongFalsely : Prop := linesPlacesRow.holds Try.pinned (OpenSpec.ofChange linesPlacesWrong)

/-- 'correctorlaw2.LinesOrder': WHATEVER THE INPUT: true; the input reads as it did. -/
def linesOrderSpec : ChangeSpec := { name := "linesOrder", fn := fun _ => fun
  | [d1, d2] => { results := [.lit (.bool true)], args := [d1, d2] }
  | _ => none }
def linesOrderRow : OpenClaim := { program := "yteomjicmlaglbaa", sum := "8ea5b936802f9d52e6b6a11ff75dac9931ded204d693d5c0ea16d3ef95f45c9c", func := "corrector/correctorlaw2.LinesOrder", spec := "linesOrder", apart := false }
def LinesOrderSaid : Prop := linesOrderRow.holds Try.pinned (OpenSpec.ofChange linesOrderSpec)

/-- ITS FALSE NEIGHBOUR: 'it returns false'. Refute it at one input. -/
def linesOrderWrong : ChangeSpec := { name := "linesOrder", fn := fun _ => fun
  | [d1, d2] => { results := [.lit (.bool false)], args := [d1, d2] }
  | _ => none }
def LinesOrderWrongFalsely : Prop := linesOrderRow.holds Try.pinned (OpenSpec.ofChange linesOrderWrong)

/-- 'correctorlaw2.LinesBreaks': WHATEVER THE INPUT: true; the input reads as it did. -/
def linesBreaksSpec : ChangeSpec := { name := "linesBreaks", fn := fun _ => fun
  | [d] => { results := [.lit (.bool true)], args := [d] }
  | _ => none }
def linesBreaksRow : OpenClaim := { program := "yteomjicmlaglbaa", sum := "8ea5b936802f9d52e6b6a11ff75dac9931ded204d693d5c0ea16d3ef95f45c9c", func := "corrector/correctorlaw2.LinesBreaks", spec := "linesBreaks", apart := false }
def LinesBreaksSaid : Prop := linesBreaksRow.holds Try.pinned (OpenSpec.ofChange linesBreaksSpec)

/-- ITS FALSE NEIGHBOUR: 'it returns false'. Refute it at one input. -/
def linesBreaksWrong : ChangeSpec := { name := "linesBreaks", fn := fun _ => fun
  | [d] => { results := [.lit (.bool false)], args := [d] }
  | _ => none }
def LinesBreaksWrongFalsely : Prop := linesBreaksRow.holds Try.pinned (OpenSpec.ofChange linesBreaksWrong)

/-- 'correctorlaw2.LinesNone': WHATEVER THE INPUT: true; the input reads as it did. -/
def linesNoneSpec : ChangeSpec := { name := "linesNone", fn := fun _ => fun
  | [d1, d2, d3] => { results := [.lit (.bool true)], args := [d1, d2, d3] }
  | _ => none }
def linesNoneRow : OpenClaim := { program := "yteomjicmlaglbaa", sum := "8ea5b936802f9d52e6b6a11ff75dac9931ded204d693d5c0ea16d3ef95f45c9c", func := "corrector/correctorlaw2.LinesNone", spec := "linesNone", apart := false }
def LinesNoneSaid : Prop := linesNoneRow.holds Try.pinned (OpenSpec.ofChange linesNoneSpec)

/-- ITS FALSE NEIGHBOUR: 'it returns false'. Refute it at one input. -/
def linesNoneWrong : ChangeSpec := { name := "linesNone", fn := fun _ => fun
  | [d1, d2, d3] => { results := [.lit (.bool false)], args := [d1, d2, d3] }
  | _ => none }
def LinesNoneWrongFalsely : Prop := linesNoneRow.holds Try.pinned (OpenSpec.ofChange linesNoneWrong)

/- THE SECOND FORM. 'bulk': how many values and letters a reading holds, each counted each time it is reached (what is shared counts as often as it is met; a slice's spare places count too). A statement '..UptoSaid' is the law's where the arguments, and the package variables that the reading takes, are together of bulk at most 1048576: NARROWER than '..Said'. Prove '..Said' where nothing that the law and all that it calls make is longer than what came in: it says more and counts as full. Else prove '..UptoSaid'. A law counts once. -/
mutual
def uptoBulk {H : Type} : DataW H → Nat
  | .lit (.string bytes) => bytes.length + 1
  | .lit _ => 1
  | .nil => 1
  | .ptr d => uptoBulk d + 1
  | .slice elems spare => uptoBulkAll elems + uptoBulkAll spare + 1
  | .agg parts => uptoBulkAll parts + 1
  | .iface _ d => uptoBulk d + 1
  | .map entries => uptoBulkEntries entries + 1
  | .held _ => 1
def uptoBulkAll {H : Type} : List (DataW H) → Nat
  | [] => 0
  | d :: r => uptoBulk d + uptoBulkAll r
def uptoBulkEntries {H : Type} : List (Lit × DataW H) → Nat
  | [] => 0
  | x :: r => uptoBulkEntry x + uptoBulkEntries r
def uptoBulkEntry {H : Type} : Lit × DataW H → Nat
  | (.string bytes, d) => bytes.length + uptoBulk d + 1
  | (_, d) => uptoBulk d + 1
 end
def uptoSmall : (H : Type) → List (DataW H) → Bool := fun _ ds => decide (uptoBulkAll ds ≤ 1048576)
def OpenSpec.upto (s : _root_.Go.ChangeSpec) : _root_.Go.OpenSpec := { _root_.Go.OpenSpec.ofChange s with cond := some uptoSmall }

/-- 'correctorlaw1.RunesNext', WHERE WHAT IT READS IS OF BULK AT MOST 1048576: true; the input reads as it did. -/
def runesNextUptoRow : OpenClaim := { program := "yteomjicmlaglbaa", sum := "8ea5b936802f9d52e6b6a11ff75dac9931ded204d693d5c0ea16d3ef95f45c9c", func := "corrector/correctorlaw1.RunesNext", spec := "runesNext", apart := false, narrowed := true }
def RunesNextUptoSaid : Prop := runesNextUptoRow.holds Try.pinned (OpenSpec.upto runesNextSpec)

/-- 'correctorlaw1.RunesShort', WHERE WHAT IT READS IS OF BULK AT MOST 1048576: true; the input reads as it did. -/
def runesShortUptoRow : OpenClaim := { program := "yteomjicmlaglbaa", sum := "8ea5b936802f9d52e6b6a11ff75dac9931ded204d693d5c0ea16d3ef95f45c9c", func := "corrector/correctorlaw1.RunesShort", spec := "runesShort", apart := false, narrowed := true }
def RunesShortUptoSaid : Prop := runesShortUptoRow.holds Try.pinned (OpenSpec.upto runesShortSpec)

/-- 'correctorlaw1.RunesBad', WHERE WHAT IT READS IS OF BULK AT MOST 1048576: true; the input reads as it did. -/
def runesBadUptoRow : OpenClaim := { program := "yteomjicmlaglbaa", sum := "8ea5b936802f9d52e6b6a11ff75dac9931ded204d693d5c0ea16d3ef95f45c9c", func := "corrector/correctorlaw1.RunesBad", spec := "runesBad", apart := false, narrowed := true }
def RunesBadUptoSaid : Prop := runesBadUptoRow.holds Try.pinned (OpenSpec.upto runesBadSpec)

/-- 'correctorlaw1.RunesAll', WHERE WHAT IT READS IS OF BULK AT MOST 1048576: true; the input reads as it did. -/
def runesAllUptoRow : OpenClaim := { program := "yteomjicmlaglbaa", sum := "8ea5b936802f9d52e6b6a11ff75dac9931ded204d693d5c0ea16d3ef95f45c9c", func := "corrector/correctorlaw1.RunesAll", spec := "runesAll", apart := false, narrowed := true }
def RunesAllUptoSaid : Prop := runesAllUptoRow.holds Try.pinned (OpenSpec.upto runesAllSpec)

/-- 'correctorlaw1.RunesText', WHERE WHAT IT READS IS OF BULK AT MOST 1048576: true; the input reads as it did. -/
def runesTextUptoRow : OpenClaim := { program := "yteomjicmlaglbaa", sum := "8ea5b936802f9d52e6b6a11ff75dac9931ded204d693d5c0ea16d3ef95f45c9c", func := "corrector/correctorlaw1.RunesText", spec := "runesText", apart := false, narrowed := true }
def RunesTextUptoSaid : Prop := runesTextUptoRow.holds Try.pinned (OpenSpec.upto runesTextSpec)

/-- 'correctorlaw1.RunesJoin', WHERE WHAT IT READS IS OF BULK AT MOST 1048576: true; the input reads as it did. -/
def runesJoinUptoRow : OpenClaim := { program := "yteomjicmlaglbaa", sum := "8ea5b936802f9d52e6b6a11ff75dac9931ded204d693d5c0ea16d3ef95f45c9c", func := "corrector/correctorlaw1.RunesJoin", spec := "runesJoin", apart := false, narrowed := true }
def RunesJoinUptoSaid : Prop := runesJoinUptoRow.holds Try.pinned (OpenSpec.upto runesJoinSpec)

/-- 'correctorlaw2.LinesStarts', WHERE WHAT IT READS IS OF BULK AT MOST 1048576: true; the input reads as it did. -/
def linesStartsUptoRow : OpenClaim := { program := "yteomjicmlaglbaa", sum := "8ea5b936802f9d52e6b6a11ff75dac9931ded204d693d5c0ea16d3ef95f45c9c", func := "corrector/correctorlaw2.LinesStarts", spec := "linesStarts", apart := false, narrowed := true }
def LinesStartsUptoSaid : Prop := linesStartsUptoRow.holds Try.pinned (OpenSpec.upto linesStartsSpec)

/-- 'correctorlaw2.LinesPlaces', WHERE WHAT IT READS IS OF BULK AT MOST 1048576: true; the input reads as it did. -/
def linesPlacesUptoRow : OpenClaim := { program := "yteomjicmlaglbaa", sum := "8ea5b936802f9d52e6b6a11ff75dac9931ded204d693d5c0ea16d3ef95f45c9c", func := "corrector/correctorlaw2.LinesPlaces", spec := "linesPlaces", apart := false, narrowed := true }
def LinesPlacesUptoSaid : Prop := linesPlacesUptoRow.holds Try.pinned (OpenSpec.upto linesPlacesSpec)

/-- 'correctorlaw2.LinesOrder', WHERE WHAT IT READS IS OF BULK AT MOST 1048576: true; the input reads as it did. -/
def linesOrderUptoRow : OpenClaim := { program := "yteomjicmlaglbaa", sum := "8ea5b936802f9d52e6b6a11ff75dac9931ded204d693d5c0ea16d3ef95f45c9c", func := "corrector/correctorlaw2.LinesOrder", spec := "linesOrder", apart := false, narrowed := true }
def LinesOrderUptoSaid : Prop := linesOrderUptoRow.holds Try.pinned (OpenSpec.upto linesOrderSpec)

/-- 'correctorlaw2.LinesBreaks', WHERE WHAT IT READS IS OF BULK AT MOST 1048576: true; the input reads as it did. -/
def linesBreaksUptoRow : OpenClaim := { program := "yteomjicmlaglbaa", sum := "8ea5b936802f9d52e6b6a11ff75dac9931ded204d693d5c0ea16d3ef95f45c9c", func := "corrector/correctorlaw2.LinesBreaks", spec := "linesBreaks", apart := false, narrowed := true }
def LinesBreaksUptoSaid : Prop := linesBreaksUptoRow.holds Try.pinned (OpenSpec.upto linesBreaksSpec)

/-- 'correctorlaw2.LinesNone', WHERE WHAT IT READS IS OF BULK AT MOST 1048576: true; the input reads as it did. -/
def linesNoneUptoRow : OpenClaim := { program := "yteomjicmlaglbaa", sum := "8ea5b936802f9d52e6b6a11ff75dac9931ded204d693d5c0ea16d3ef95f45c9c", func := "corrector/correctorlaw2.LinesNone", spec := "linesNone", apart := false, narrowed := true }
def LinesNoneUptoSaid : Prop := linesNoneUptoRow.holds Try.pinned (OpenSpec.upto linesNoneSpec)

end Rows
end Go.Proofs.Yteomjicmlaglbaa
