/-
  No cell of these rows narrows 'for every input' (looked for: loops, veiled, ifaces, maps, wideKeys, modest, calm, conditions, laid).
  DERIVED. THE GIVEN ROWS OF THIS SEAT. 5 by the template 'for every input the law returns true; each argument reads behind the call as it read before'; 0 by the template 'total and deterministic' (their statements: YtpinegfbcbfnoaaTotals.lean).
  GIVEN WITH THE SEED: the statements are not yours to turn. If you find one false, say at which input.
  Laid BY PROGRAM, IN A SANDBOX (cutbox-rows.mjs): the forced cells as the released guide's own fill.sh prints them over the translation bd90407b407a452a… (all of the seat's roots in one cut). By AI agents, Wed Nov 11 2026. No macro, syntax, notation, axiom, sorry.
-/
import Derived.Test.YtpinegfbcbfnoaaChecked
import GoSem.Claim
import GoSem.ClaimJoined
import GoSem.ClaimMapViews
import Derived.JoinedTies
import Derived.KernelRfl
namespace Go.Proofs.Ytpinegfbcbfnoaa
/- THE CELL 'sum', in the pinned program and in every row, IS THE sha256 OF THE DUMP (.gsa) THAT YtpinegfbcbfnoaaProg.lean LOADS. Nothing in Lean hashes anything: it is a label: what it is worth is what the hold of that sum in a sandbox is worth. -/
noncomputable def Try.pinned : Pinned := { name := "ytpinegfbcbfnoaa", sum := "bd90407b407a452a2b6c5feb9a51f1757ab8399cfc06a7d2d8dc219f4b718659", checked := Try.checked }
namespace Rows
def none {H : Type} : Left H := { results := [], args := [] }

/-- 'correctorlaw8.BlockLiteral': WHATEVER THE INPUT: true; the input reads as it did. -/
def blockLiteralSpec : ChangeSpec := { name := "blockLiteral", fn := fun _ => fun
  | [d1, d2] => { results := [.lit (.bool true)], args := [d1, d2] }
  | _ => none }
def blockLiteralRow : OpenClaim := { program := "ytpinegfbcbfnoaa", sum := "bd90407b407a452a2b6c5feb9a51f1757ab8399cfc06a7d2d8dc219f4b718659", func := "corrector/correctorlaw8.BlockLiteral", spec := "blockLiteral", inPlace := ["internal/bytealg.IndexByteString", "internal/bytealg.IndexString", "internal/abi.NoEscape", "internal/bytealg.MakeNoZero"], named := ["internal/bytealg.MaxLen"], apart := false }
def BlockLiteralSaid : Prop := blockLiteralRow.holds Try.pinned (OpenSpec.ofChange blockLiteralSpec)

/-- ITS FALSE NEIGHBOUR: 'it returns false'. Refute it at one input. -/
def blockLiteralWrong : ChangeSpec := { name := "blockLiteral", fn := fun _ => fun
  | [d1, d2] => { results := [.lit (.bool false)], args := [d1, d2] }
  | _ => none }
def BlockLiteralWrongFalsely : Prop := blockLiteralRow.holds Try.pinned (OpenSpec.ofChange blockLiteralWrong)

/-- 'correctorlaw8.BlockFolds': WHATEVER THE INPUT: true; the input reads as it did. -/
def blockFoldsSpec : ChangeSpec := { name := "blockFolds", fn := fun _ => fun
  | [d1, d2] => { results := [.lit (.bool true)], args := [d1, d2] }
  | _ => none }
def blockFoldsRow : OpenClaim := { program := "ytpinegfbcbfnoaa", sum := "bd90407b407a452a2b6c5feb9a51f1757ab8399cfc06a7d2d8dc219f4b718659", func := "corrector/correctorlaw8.BlockFolds", spec := "blockFolds", inPlace := ["internal/bytealg.IndexByteString", "internal/bytealg.IndexString", "internal/abi.NoEscape", "internal/bytealg.MakeNoZero"], named := ["internal/bytealg.MaxLen"], apart := false }
def BlockFoldsSaid : Prop := blockFoldsRow.holds Try.pinned (OpenSpec.ofChange blockFoldsSpec)

/-- ITS FALSE NEIGHBOUR: 'it returns false'. Refute it at one input. -/
def blockFoldsWrong : ChangeSpec := { name := "blockFolds", fn := fun _ => fun
  | [d1, d2] => { results := [.lit (.bool false)], args := [d1, d2] }
  | _ => none }
def BlockFoldsWrongFalsely : Prop := blockFoldsRow.holds Try.pinned (OpenSpec.ofChange blockFoldsWrong)

/-- 'correctorlaw8.BlockEmpty': WHATEVER THE INPUT: true; the input reads as it did. -/
def blockEmptySpec : ChangeSpec := { name := "blockEmpty", fn := fun _ => fun
  | [d1, d2] => { results := [.lit (.bool true)], args := [d1, d2] }
  | _ => none }
def blockEmptyRow : OpenClaim := { program := "ytpinegfbcbfnoaa", sum := "bd90407b407a452a2b6c5feb9a51f1757ab8399cfc06a7d2d8dc219f4b718659", func := "corrector/correctorlaw8.BlockEmpty", spec := "blockEmpty", inPlace := ["internal/bytealg.IndexByteString", "internal/bytealg.IndexString", "internal/abi.NoEscape", "internal/bytealg.MakeNoZero"], named := ["internal/bytealg.MaxLen"], apart := false }
def BlockEmptySaid : Prop := blockEmptyRow.holds Try.pinned (OpenSpec.ofChange blockEmptySpec)

/-- ITS FALSE NEIGHBOUR: 'it returns false'. Refute it at one input. -/
def blockEmptyWrong : ChangeSpec := { name := "blockEmpty", fn := fun _ => fun
  | [d1, d2] => { results := [.lit (.bool false)], args := [d1, d2] }
  | _ => none }
def BlockEmptyWrongFalsely : Prop := blockEmptyRow.holds Try.pinned (OpenSpec.ofChange blockEmptyWrong)

/-- 'correctorlaw8.BlockChomps': WHATEVER THE INPUT: true; the input reads as it did. -/
def blockChompsSpec : ChangeSpec := { name := "blockChomps", fn := fun _ => fun
  | [d1, d2] => { results := [.lit (.bool true)], args := [d1, d2] }
  | _ => none }
def blockChompsRow : OpenClaim := { program := "ytpinegfbcbfnoaa", sum := "bd90407b407a452a2b6c5feb9a51f1757ab8399cfc06a7d2d8dc219f4b718659", func := "corrector/correctorlaw8.BlockChomps", spec := "blockChomps", inPlace := ["internal/bytealg.IndexByteString", "internal/bytealg.IndexString", "internal/abi.NoEscape", "internal/bytealg.MakeNoZero"], named := ["internal/bytealg.MaxLen"], apart := false }
def BlockChompsSaid : Prop := blockChompsRow.holds Try.pinned (OpenSpec.ofChange blockChompsSpec)

/-- ITS FALSE NEIGHBOUR: 'it returns false'. Refute it at one input. -/
def blockChompsWrong : ChangeSpec := { name := "blockChomps", fn := fun _ => fun
  | [d1, d2] => { results := [.lit (.bool false)], args := [d1, d2] }
  | _ => none }
def BlockChompsWrongFalsely : Prop := blockChompsRow.holds Try.pinned (OpenSpec.ofChange blockChompsWrong)

/-- 'correctorlaw8.BlockIndent': WHATEVER THE INPUT: true; the input reads as it did. -/
def blockIndentSpec : ChangeSpec := { name := "blockIndent", fn := fun _ => fun
  | [d1, d2, d3] => { results := [.lit (.bool true)], args := [d1, d2, d3] }
  | _ => none }
def blockIndentRow : OpenClaim := { program := "ytpinegfbcbfnoaa", sum := "bd90407b407a452a2b6c5feb9a51f1757ab8399cfc06a7d2d8dc219f4b718659", func := "corrector/correctorlaw8.BlockIndent", spec := "blockIndent", inPlace := ["internal/bytealg.IndexByteString", "internal/bytealg.IndexString", "internal/abi.NoEscape", "internal/bytealg.MakeNoZero"], named := ["internal/bytealg.MaxLen"], apart := false }
def BlockIndentSaid : Prop := blockIndentRow.holds Try.pinned (OpenSpec.ofChange blockIndentSpec)

/-- ITS FALSE NEIGHBOUR: 'it returns false'. Refute it at one input. -/
def blockIndentWrong : ChangeSpec := { name := "blockIndent", fn := fun _ => fun
  | [d1, d2, d3] => { results := [.lit (.bool false)], args := [d1, d2, d3] }
  | _ => none }
def BlockIndentWrongFalsely : Prop := blockIndentRow.holds Try.pinned (OpenSpec.ofChange blockIndentWrong)

/- THE SECOND FORM. 'bulk': how many values and letters a reading holds, each counted each time it is reached (what is shared counts as often as it is met; a slice's spare places count too). A statement '..UptoSaid' is the law's where the arguments, and the package variables that the reading takes, are together of bulk at most 1048576: NARROWER than '..Said'. Prove '..Said' where nothing that the law and all that it calls make is longer than what came in: it says more and counts as full. Else prove '..UptoSaid'. A law counts once. -/
mutual
def uptoBulk {H : Type} : DataW H → Nat
  | .lit (.string bytes) => bytes.length + 1
  | .lit _ => 1
  | .nil => 1
  | .ptr d => uptoBulk d + 1
  | .slice elems spare => uptoBulkAll elems + uptoBulkAll spare + 1
  | .agg parts => uptoBulkAll parts + 1
  | .iface _ d => uptoBulk d + 1
  | .map entries => uptoBulkEntries entries + 1
  | .held _ => 1
def uptoBulkAll {H : Type} : List (DataW H) → Nat
  | [] => 0
  | d :: r => uptoBulk d + uptoBulkAll r
def uptoBulkEntries {H : Type} : List (Lit × DataW H) → Nat
  | [] => 0
  | x :: r => uptoBulkEntry x + uptoBulkEntries r
def uptoBulkEntry {H : Type} : Lit × DataW H → Nat
  | (.string bytes, d) => bytes.length + uptoBulk d + 1
  | (_, d) => uptoBulk d + 1
 end
def uptoSmall : (H : Type) → List (DataW H) → Bool := fun _ ds => decide (uptoBulkAll ds ≤ 1048576)
def OpenSpec.upto (s : _root_.Go.ChangeSpec) : _root_.Go.OpenSpec := { _root_.Go.OpenSpec.ofChange s with cond := some uptoSmall }

/-- 'correctorlaw8.BlockLiteral', WHERE WHAT IT READS IS OF BULK AT MOST 1048576: true; the input reads as it did. -/
def blockLiteralUptoRow : OpenClaim := { program := "ytpinegfbcbfnoaa", sum := "bd90407b407a452a2b6c5feb9a51f1757ab8399cfc06a7d2d8dc219f4b718659", func := "corrector/correctorlaw8.BlockLiteral", spec := "blockLiteral", inPlace := ["internal/bytealg.IndexByteString", "internal/bytealg.IndexString", "internal/abi.NoEscape", "internal/bytealg.MakeNoZero"], named := ["internal/bytealg.MaxLen"], apart := false, narrowed := true }
def BlockLiteralUptoSaid : Prop := blockLiteralUptoRow.holds Try.pinned (OpenSpec.upto blockLiteralSpec)

/-- 'correctorlaw8.BlockFolds', WHERE WHAT IT READS IS OF BULK AT MOST 1048576: true; the input reads as it did. -/
def blockFoldsUptoRow : OpenClaim := { program := "ytpinegfbcbfnoaa", sum := "bd90407b407a452a2b6c5feb9a51f1757ab8399cfc06a7d2d8dc219f4b718659", func := "corrector/correctorlaw8.BlockFolds", spec := "blockFolds", inPlace := ["internal/bytealg.IndexByteString", "internal/bytealg.IndexString", "internal/abi.NoEscape", "internal/bytealg.MakeNoZero"], named := ["internal/bytealg.MaxLen"], apart := false, narrowed := true }
def BlockFoldsUptoSaid : Prop := blockFoldsUptoRow.holds Try.pinned (OpenSpec.upto blockFoldsSpec)

/-- 'correctorlaw8.BlockEmpty', WHERE WHAT IT READS IS OF BULK AT MOST 1048576: true; the input reads as it did. -/
def blockEmptyUptoRow : OpenClaim := { program := "ytpinegfbcbfnoaa", sum := "bd90407b407a452a2b6c5feb9a51f1757ab8399cfc06a7d2d8dc219f4b718659", func := "corrector/correctorlaw8.BlockEmpty", spec := "blockEmpty", inPlace := ["internal/bytealg.IndexByteString", "internal/bytealg.IndexString", "internal/abi.NoEscape", "internal/bytealg.MakeNoZero"], named := ["internal/bytealg.MaxLen"], apart := false, narrowed := true }
def BlockEmptyUptoSaid : Prop := blockEmptyUptoRow.holds Try.pinned (OpenSpec.upto blockEmptySpec)

/-- 'correctorlaw8.BlockChomps', WHERE WHAT IT READS IS OF BULK AT MOST 1048576: true; the input reads as it did. -/
def blockChompsUptoRow : OpenClaim := { program := "ytpinegfbcbfnoaa", sum := "bd90407b407a452a2b6c5feb9a51f1757ab8399cfc06a7d2d8dc219f4b718659", func := "corrector/correctorlaw8.BlockChomps", spec := "blockChomps", inPlace := ["internal/bytealg.IndexByteString", "internal/bytealg.IndexString", "internal/abi.NoEscape", "internal/bytealg.MakeNoZero"], named := ["internal/bytealg.MaxLen"], apart := false, narrowed := true }
def BlockChompsUptoSaid : Prop := blockChompsUptoRow.holds Try.pinned (OpenSpec.upto blockChompsSpec)

/-- 'correctorlaw8.BlockIndent', WHERE WHAT IT READS IS OF BULK AT MOST 1048576: true; the input reads as it did. -/
def blockIndentUptoRow : OpenClaim := { program := "ytpinegfbcbfnoaa", sum := "bd90407b407a452a2b6c5feb9a51f1757ab8399cfc06a7d2d8dc219f4b718659", func := "corrector/correctorlaw8.BlockIndent", spec := "blockIndent", inPlace := ["internal/bytealg.IndexByteString", "internal/bytealg.IndexString", "internal/abi.NoEscape", "internal/bytealg.MakeNoZero"], named := ["internal/bytealg.MaxLen"], apart := false, narrowed := true }
def BlockIndentUptoSaid : Prop := blockIndentUptoRow.holds Try.pinned (OpenSpec.upto blockIndentSpec)

end Rows
end Go.Proofs.Ytpinegfbcbfnoaa
