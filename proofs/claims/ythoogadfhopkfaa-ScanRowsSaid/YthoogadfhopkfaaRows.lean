/-
  No cell of these rows narrows 'for every input' (looked for: loops, veiled, ifaces, maps, wideKeys, modest, calm, conditions, laid).
  DERIVED. THE GIVEN ROWS OF THIS SEAT. 7 by the template 'for every input the law returns true; each argument reads behind the call as it read before'; 0 by the template 'total and deterministic' (their statements: YthoogadfhopkfaaTotals.lean).
  GIVEN WITH THE SEED: the statements are not yours to turn. If you find one false, say at which input.
  Laid BY PROGRAM, IN A SANDBOX (cutbox-rows.mjs): the forced cells as the released guide's own fill.sh prints them over the translation d564f617c67614be… (all of the seat's roots in one cut). By AI agents, Wed Nov 11 2026. No macro, syntax, notation, axiom, sorry.
-/
import Derived.Test.YthoogadfhopkfaaChecked
import GoSem.Claim
import GoSem.ClaimJoined
import GoSem.ClaimMapViews
import Derived.JoinedTies
import Derived.KernelRfl
namespace Go.Proofs.Ythoogadfhopkfaa
/- THE CELL 'sum', in the pinned program and in every row, IS THE sha256 OF THE DUMP (.gsa) THAT YthoogadfhopkfaaProg.lean LOADS. Nothing in Lean hashes anything: it is a label: what it is worth is what the hold of that sum in a sandbox is worth. -/
noncomputable def Try.pinned : Pinned := { name := "ythoogadfhopkfaa", sum := "d564f617c67614be301a75b86f851db0927d94e20b38d72d23d04e86e535735a", checked := Try.checked }
namespace Rows
def none {H : Type} : Left H := { results := [], args := [] }

/-- 'correctorlaw6.ScanTokens': WHATEVER THE INPUT: true; the input reads as it did. -/
def scanTokensSpec : ChangeSpec := { name := "scanTokens", fn := fun _ => fun
  | [d1, d2] => { results := [.lit (.bool true)], args := [d1, d2] }
  | _ => none }
def scanTokensRow : OpenClaim := { program := "ythoogadfhopkfaa", sum := "d564f617c67614be301a75b86f851db0927d94e20b38d72d23d04e86e535735a", func := "corrector/correctorlaw6.ScanTokens", spec := "scanTokens", apart := false }
def ScanTokensSaid : Prop := scanTokensRow.holds Try.pinned (OpenSpec.ofChange scanTokensSpec)

/-- ITS FALSE NEIGHBOUR: 'it returns false'. Refute it at one input. -/
def scanTokensWrong : ChangeSpec := { name := "scanTokens", fn := fun _ => fun
  | [d1, d2] => { results := [.lit (.bool false)], args := [d1, d2] }
  | _ => none }
def ScanTokensWrongFalsely : Prop := scanTokensRow.holds Try.pinned (OpenSpec.ofChange scanTokensWrong)

/-- 'correctorlaw6.ScanRows': WHATEVER THE INPUT: true; the input reads as it did. -/
def scanRowsSpec : ChangeSpec := { name := "scanRows", fn := fun _ => fun
  | [d1, d2] => { results := [.lit (.bool true)], args := [d1, d2] }
  | _ => none }
def scanRowsRow : OpenClaim := { program := "ythoogadfhopkfaa", sum := "d564f617c67614be301a75b86f851db0927d94e20b38d72d23d04e86e535735a", func := "corrector/correctorlaw6.ScanRows", spec := "scanRows", apart := false }
def ScanRowsSaid : Prop := scanRowsRow.holds Try.pinned (OpenSpec.ofChange scanRowsSpec)

/-- ITS FALSE NEIGHBOUR: 'it returns false'. Refute it at one input. -/
def scanRowsWrong : ChangeSpec := { name := "scanRows", fn := fun _ => fun
  | [d1, d2] => { results := [.lit (.bool false)], args := [d1, d2] }
  | _ => none }
def ScanRowsWrongFalsely : Prop := scanRowsRow.holds Try.pinned (OpenSpec.ofChange scanRowsWrong)

/-- 'correctorlaw6.ScanOne': WHATEVER THE INPUT: true; the input reads as it did. -/
def scanOneSpec : ChangeSpec := { name := "scanOne", fn := fun _ => fun
  | [d] => { results := [.lit (.bool true)], args := [d] }
  | _ => none }
def scanOneRow : OpenClaim := { program := "ythoogadfhopkfaa", sum := "d564f617c67614be301a75b86f851db0927d94e20b38d72d23d04e86e535735a", func := "corrector/correctorlaw6.ScanOne", spec := "scanOne", apart := false }
def ScanOneSaid : Prop := scanOneRow.holds Try.pinned (OpenSpec.ofChange scanOneSpec)

/-- ITS FALSE NEIGHBOUR: 'it returns false'. Refute it at one input. -/
def scanOneWrong : ChangeSpec := { name := "scanOne", fn := fun _ => fun
  | [d] => { results := [.lit (.bool false)], args := [d] }
  | _ => none }
def ScanOneWrongFalsely : Prop := scanOneRow.holds Try.pinned (OpenSpec.ofChange scanOneWrong)

/-- 'correctorlaw6.ScanKinds': WHATEVER THE INPUT: true; the input reads as it did. -/
def scanKindsSpec : ChangeSpec := { name := "scanKinds", fn := fun _ => fun
  | [d1, d2] => { results := [.lit (.bool true)], args := [d1, d2] }
  | _ => none }
def scanKindsRow : OpenClaim := { program := "ythoogadfhopkfaa", sum := "d564f617c67614be301a75b86f851db0927d94e20b38d72d23d04e86e535735a", func := "corrector/correctorlaw6.ScanKinds", spec := "scanKinds", apart := false }
def ScanKindsSaid : Prop := scanKindsRow.holds Try.pinned (OpenSpec.ofChange scanKindsSpec)

/-- ITS FALSE NEIGHBOUR: 'it returns false'. Refute it at one input. -/
def scanKindsWrong : ChangeSpec := { name := "scanKinds", fn := fun _ => fun
  | [d1, d2] => { results := [.lit (.bool false)], args := [d1, d2] }
  | _ => none }
def ScanKindsWrongFalsely : Prop := scanKindsRow.holds Try.pinned (OpenSpec.ofChange scanKindsWrong)

/-- 'correctorlaw6.ScanTexts': WHATEVER THE INPUT: true; the input reads as it did. -/
def scanTextsSpec : ChangeSpec := { name := "scanTexts", fn := fun _ => fun
  | [d1, d2] => { results := [.lit (.bool true)], args := [d1, d2] }
  | _ => none }
def scanTextsRow : OpenClaim := { program := "ythoogadfhopkfaa", sum := "d564f617c67614be301a75b86f851db0927d94e20b38d72d23d04e86e535735a", func := "corrector/correctorlaw6.ScanTexts", spec := "scanTexts", apart := false }
def ScanTextsSaid : Prop := scanTextsRow.holds Try.pinned (OpenSpec.ofChange scanTextsSpec)

/-- ITS FALSE NEIGHBOUR: 'it returns false'. Refute it at one input. -/
def scanTextsWrong : ChangeSpec := { name := "scanTexts", fn := fun _ => fun
  | [d1, d2] => { results := [.lit (.bool false)], args := [d1, d2] }
  | _ => none }
def ScanTextsWrongFalsely : Prop := scanTextsRow.holds Try.pinned (OpenSpec.ofChange scanTextsWrong)

/-- 'correctorlaw6.ScanMarks': WHATEVER THE INPUT: true; the input reads as it did. -/
def scanMarksSpec : ChangeSpec := { name := "scanMarks", fn := fun _ => fun
  | [d1, d2] => { results := [.lit (.bool true)], args := [d1, d2] }
  | _ => none }
def scanMarksRow : OpenClaim := { program := "ythoogadfhopkfaa", sum := "d564f617c67614be301a75b86f851db0927d94e20b38d72d23d04e86e535735a", func := "corrector/correctorlaw6.ScanMarks", spec := "scanMarks", apart := false }
def ScanMarksSaid : Prop := scanMarksRow.holds Try.pinned (OpenSpec.ofChange scanMarksSpec)

/-- ITS FALSE NEIGHBOUR: 'it returns false'. Refute it at one input. -/
def scanMarksWrong : ChangeSpec := { name := "scanMarks", fn := fun _ => fun
  | [d1, d2] => { results := [.lit (.bool false)], args := [d1, d2] }
  | _ => none }
def ScanMarksWrongFalsely : Prop := scanMarksRow.holds Try.pinned (OpenSpec.ofChange scanMarksWrong)

/-- 'correctorlaw6.ScanLong': WHATEVER THE INPUT: true; the input reads as it did. -/
def scanLongSpec : ChangeSpec := { name := "scanLong", fn := fun _ => fun
  | [d] => { results := [.lit (.bool true)], args := [d] }
  | _ => none }
def scanLongRow : OpenClaim := { program := "ythoogadfhopkfaa", sum := "d564f617c67614be301a75b86f851db0927d94e20b38d72d23d04e86e535735a", func := "corrector/correctorlaw6.ScanLong", spec := "scanLong", apart := false }
def ScanLongSaid : Prop := scanLongRow.holds Try.pinned (OpenSpec.ofChange scanLongSpec)

/-- ITS FALSE NEIGHBOUR: 'it returns false'. Refute it at one input. -/
def scanLongWrong : ChangeSpec := { name := "scanLong", fn := fun _ => fun
  | [d] => { results := [.lit (.bool false)], args := [d] }
  | _ => none }
def ScanLongWrongFalsely : Prop := scanLongRow.holds Try.pinned (OpenSpec.ofChange scanLongWrong)

/- THE SECOND FORM. 'bulk': how many values and letters a reading holds, each counted each time it is reached (what is shared counts as often as it is met; a slice's spare places count too). A statement '..UptoSaid' is the law's where the arguments, and the package variables that the reading takes, are together of bulk at most 1048576: NARROWER than '..Said'. Prove '..Said' where nothing that the law and all that it calls make is longer than what came in: it says more and counts as full. Else prove '..UptoSaid'. A law counts once. -/
mutual
def uptoBulk {H : Type} : DataW H → Nat
  | .lit (.string bytes) => bytes.length + 1
  | .lit _ => 1
  | .nil => 1
  | .ptr d => uptoBulk d + 1
  | .slice elems spare => uptoBulkAll elems + uptoBulkAll spare + 1
  | .agg parts => uptoBulkAll parts + 1
  | .iface _ d => uptoBulk d + 1
  | .map entries => uptoBulkEntries entries + 1
  | .held _ => 1
def uptoBulkAll {H : Type} : List (DataW H) → Nat
  | [] => 0
  | d :: r => uptoBulk d + uptoBulkAll r
def uptoBulkEntries {H : Type} : List (Lit × DataW H) → Nat
  | [] => 0
  | x :: r => uptoBulkEntry x + uptoBulkEntries r
def uptoBulkEntry {H : Type} : Lit × DataW H → Nat
  | (.string bytes, d) => bytes.length + uptoBulk d + 1
  | (_, d) => uptoBulk d + 1
 end
def uptoSmall : (H : Type) → List (DataW H) → Bool := fun _ ds => decide (uptoBulkAll ds ≤ 1048576)
def OpenSpec.upto (s : _root_.Go.ChangeSpec) : _root_.Go.OpenSpec := { _root_.Go.OpenSpec.ofChange s with cond := some uptoSmall }

/-- 'correctorlaw6.ScanTokens', WHERE WHAT IT READS IS OF BULK AT MOST 1048576: true; the input reads as it did. -/
def scanTokensUptoRow : OpenClaim := { program := "ythoogadfhopkfaa", sum := "d564f617c67614be301a75b86f851db0927d94e20b38d72d23d04e86e535735a", func := "corrector/correctorlaw6.ScanTokens", spec := "scanTokens", apart := false, narrowed := true }
def ScanTokensUptoSaid : Prop := scanTokensUptoRow.holds Try.pinned (OpenSpec.upto scanTokensSpec)

/-- 'correctorlaw6.ScanRows', WHERE WHAT IT READS IS OF BULK AT MOST 1048576: true; the input reads as it did. -/
def scanRowsUptoRow : OpenClaim := { program := "ythoogadfhopkfaa", sum := "d564f617c67614be301a75b86f851db0927d94e20b38d72d23d04e86e535735a", func := "corrector/correctorlaw6.ScanRows", spec := "scanRows", apart := false, narrowed := true }
def ScanRowsUptoSaid : Prop := scanRowsUptoRow.holds Try.pinned (OpenSpec.upto scanRowsSpec)

/-- 'correctorlaw6.ScanOne', WHERE WHAT IT READS IS OF BULK AT MOST 1048576: true; the input reads as it did. -/
def scanOneUptoRow : OpenClaim := { program := "ythoogadfhopkfaa", sum := "d564f617c67614be301a75b86f851db0927d94e20b38d72d23d04e86e535735a", func := "corrector/correctorlaw6.ScanOne", spec := "scanOne", apart := false, narrowed := true }
def ScanOneUptoSaid : Prop := scanOneUptoRow.holds Try.pinned (OpenSpec.upto scanOneSpec)

/-- 'correctorlaw6.ScanKinds', WHERE WHAT IT READS IS OF BULK AT MOST 1048576: true; the input reads as it did. -/
def scanKindsUptoRow : OpenClaim := { program := "ythoogadfhopkfaa", sum := "d564f617c67614be301a75b86f851db0927d94e20b38d72d23d04e86e535735a", func := "corrector/correctorlaw6.ScanKinds", spec := "scanKinds", apart := false, narrowed := true }
def ScanKindsUptoSaid : Prop := scanKindsUptoRow.holds Try.pinned (OpenSpec.upto scanKindsSpec)

/-- 'correctorlaw6.ScanTexts', WHERE WHAT IT READS IS OF BULK AT MOST 1048576: true; the input reads as it did. -/
def scanTextsUptoRow : OpenClaim := { program := "ythoogadfhopkfaa", sum := "d564f617c67614be301a75b86f851db0927d94e20b38d72d23d04e86e535735a", func := "corrector/correctorlaw6.ScanTexts", spec := "scanTexts", apart := false, narrowed := true }
def ScanTextsUptoSaid : Prop := scanTextsUptoRow.holds Try.pinned (OpenSpec.upto scanTextsSpec)

/-- 'correctorlaw6.ScanMarks', WHERE WHAT IT READS IS OF BULK AT MOST 1048576: true; the input reads as it did. -/
def scanMarksUptoRow : OpenClaim := { program := "ythoogadfhopkfaa", sum := "d564f617c67614be301a75b86f851db0927d94e20b38d72d23d04e86e535735a", func := "corrector/correctorlaw6.ScanMarks", spec := "scanMarks", apart := false, narrowed := true }
def ScanMarksUptoSaid : Prop := scanMarksUptoRow.holds Try.pinned (OpenSpec.upto scanMarksSpec)

/-- 'correctorlaw6.ScanLong', WHERE WHAT IT READS IS OF BULK AT MOST 1048576: true; the input reads as it did. -/
def scanLongUptoRow : OpenClaim := { program := "ythoogadfhopkfaa", sum := "d564f617c67614be301a75b86f851db0927d94e20b38d72d23d04e86e535735a", func := "corrector/correctorlaw6.ScanLong", spec := "scanLong", apart := false, narrowed := true }
def ScanLongUptoSaid : Prop := scanLongUptoRow.holds Try.pinned (OpenSpec.upto scanLongSpec)

end Rows
end Go.Proofs.Ythoogadfhopkfaa
