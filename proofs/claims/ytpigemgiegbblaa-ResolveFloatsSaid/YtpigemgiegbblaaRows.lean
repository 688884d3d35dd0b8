/-
  No cell of these rows narrows 'for every input' (looked for: loops, veiled, ifaces, maps, wideKeys, modest, calm, conditions, laid).
  DERIVED. THE GIVEN ROWS OF THIS SEAT. 10 by the template 'for every input the law returns true; each argument reads behind the call as it read before'; 0 by the template 'total and deterministic' (their statements: YtpigemgiegbblaaTotals.lean).
  GIVEN WITH THE SEED: the statements are not yours to turn. If you find one false, say at which input.
  Laid BY PROGRAM, IN A SANDBOX (cutbox-rows.mjs): the forced cells as the released guide's own fill.sh prints them over the translation 2ab6a34ff0d6744c… (all of the seat's roots in one cut). By AI agents, Wed Nov 11 2026. No macro, syntax, notation, axiom, sorry.
-/
import Derived.Test.YtpigemgiegbblaaChecked
import GoSem.Claim
import GoSem.ClaimJoined
import GoSem.ClaimMapViews
import Derived.JoinedTies
import Derived.KernelRfl
namespace Go.Proofs.Ytpigemgiegbblaa
/- THE CELL 'sum', in the pinned program and in every row, IS THE sha256 OF THE DUMP (.gsa) THAT YtpigemgiegbblaaProg.lean LOADS. Nothing in Lean hashes anything: it is a label: what it is worth is what the hold of that sum in a sandbox is worth. -/
noncomputable def Try.pinned : Pinned := { name := "ytpigemgiegbblaa", sum := "2ab6a34ff0d6744cbb0e180404c94092f9754650c0f89b4016dc511295e8b0fa", checked := Try.checked }
namespace Rows
def none {H : Type} : Left H := { results := [], args := [] }

/-- 'correctorlaw5.CharsEscapes': WHATEVER THE INPUT: true; the input reads as it did. -/
def charsEscapesSpec : ChangeSpec := { name := "charsEscapes", fn := fun _ => fun
  | [d1, d2, d3, d4] => { results := [.lit (.bool true)], args := [d1, d2, d3, d4] }
  | _ => none }
def charsEscapesRow : OpenClaim := { program := "ytpigemgiegbblaa", sum := "2ab6a34ff0d6744cbb0e180404c94092f9754650c0f89b4016dc511295e8b0fa", func := "corrector/correctorlaw5.CharsEscapes", spec := "charsEscapes", inPlace := ["internal/bytealg.IndexByteString"], apart := false }
def CharsEscapesSaid : Prop := charsEscapesRow.holds Try.pinned (OpenSpec.ofChange charsEscapesSpec)

/-- ITS FALSE NEIGHBOUR: 'it returns false'. Refute it at one input. -/
def charsEscapesWrong : ChangeSpec := { name := "charsEscapes", fn := fun _ => fun
  | [d1, d2, d3, d4] => { results := [.lit (.bool false)], args := [d1, d2, d3, d4] }
  | _ => none }
def CharsEscapesWrongFalsely : Prop := charsEscapesRow.holds Try.pinned (OpenSpec.ofChange charsEscapesWrong)

/-- 'correctorlaw5.CharsRunes': WHATEVER THE INPUT: true; the input reads as it did. -/
def charsRunesSpec : ChangeSpec := { name := "charsRunes", fn := fun _ => fun
  | [d] => { results := [.lit (.bool true)], args := [d] }
  | _ => none }
def charsRunesRow : OpenClaim := { program := "ytpigemgiegbblaa", sum := "2ab6a34ff0d6744cbb0e180404c94092f9754650c0f89b4016dc511295e8b0fa", func := "corrector/correctorlaw5.CharsRunes", spec := "charsRunes", inPlace := ["internal/bytealg.IndexByteString"], apart := false }
def CharsRunesSaid : Prop := charsRunesRow.holds Try.pinned (OpenSpec.ofChange charsRunesSpec)

/-- ITS FALSE NEIGHBOUR: 'it returns false'. Refute it at one input. -/
def charsRunesWrong : ChangeSpec := { name := "charsRunes", fn := fun _ => fun
  | [d] => { results := [.lit (.bool false)], args := [d] }
  | _ => none }
def CharsRunesWrongFalsely : Prop := charsRunesRow.holds Try.pinned (OpenSpec.ofChange charsRunesWrong)

/-- 'correctorlaw5.CharsNone': WHATEVER THE INPUT: true; the input reads as it did. -/
def charsNoneSpec : ChangeSpec := { name := "charsNone", fn := fun _ => fun
  | [d1, d2] => { results := [.lit (.bool true)], args := [d1, d2] }
  | _ => none }
def charsNoneRow : OpenClaim := { program := "ytpigemgiegbblaa", sum := "2ab6a34ff0d6744cbb0e180404c94092f9754650c0f89b4016dc511295e8b0fa", func := "corrector/correctorlaw5.CharsNone", spec := "charsNone", inPlace := ["internal/bytealg.IndexByteString"], apart := false }
def CharsNoneSaid : Prop := charsNoneRow.holds Try.pinned (OpenSpec.ofChange charsNoneSpec)

/-- ITS FALSE NEIGHBOUR: 'it returns false'. Refute it at one input. -/
def charsNoneWrong : ChangeSpec := { name := "charsNone", fn := fun _ => fun
  | [d1, d2] => { results := [.lit (.bool false)], args := [d1, d2] }
  | _ => none }
def CharsNoneWrongFalsely : Prop := charsNoneRow.holds Try.pinned (OpenSpec.ofChange charsNoneWrong)

/-- 'correctorlaw5.CharsFront': WHATEVER THE INPUT: true; the input reads as it did. -/
def charsFrontSpec : ChangeSpec := { name := "charsFront", fn := fun _ => fun
  | [d1, d2] => { results := [.lit (.bool true)], args := [d1, d2] }
  | _ => none }
def charsFrontRow : OpenClaim := { program := "ytpigemgiegbblaa", sum := "2ab6a34ff0d6744cbb0e180404c94092f9754650c0f89b4016dc511295e8b0fa", func := "corrector/correctorlaw5.CharsFront", spec := "charsFront", inPlace := ["internal/bytealg.IndexByteString"], apart := false }
def CharsFrontSaid : Prop := charsFrontRow.holds Try.pinned (OpenSpec.ofChange charsFrontSpec)

/-- ITS FALSE NEIGHBOUR: 'it returns false'. Refute it at one input. -/
def charsFrontWrong : ChangeSpec := { name := "charsFront", fn := fun _ => fun
  | [d1, d2] => { results := [.lit (.bool false)], args := [d1, d2] }
  | _ => none }
def CharsFrontWrongFalsely : Prop := charsFrontRow.holds Try.pinned (OpenSpec.ofChange charsFrontWrong)

/-- 'correctorlaw5.CharsClasses': WHATEVER THE INPUT: true; the input reads as it did. -/
def charsClassesSpec : ChangeSpec := { name := "charsClasses", fn := fun _ => fun
  | [d] => { results := [.lit (.bool true)], args := [d] }
  | _ => none }
def charsClassesRow : OpenClaim := { program := "ytpigemgiegbblaa", sum := "2ab6a34ff0d6744cbb0e180404c94092f9754650c0f89b4016dc511295e8b0fa", func := "corrector/correctorlaw5.CharsClasses", spec := "charsClasses", inPlace := ["internal/bytealg.IndexByteString"], apart := false }
def CharsClassesSaid : Prop := charsClassesRow.holds Try.pinned (OpenSpec.ofChange charsClassesSpec)

/-- ITS FALSE NEIGHBOUR: 'it returns false'. Refute it at one input. -/
def charsClassesWrong : ChangeSpec := { name := "charsClasses", fn := fun _ => fun
  | [d] => { results := [.lit (.bool false)], args := [d] }
  | _ => none }
def CharsClassesWrongFalsely : Prop := charsClassesRow.holds Try.pinned (OpenSpec.ofChange charsClassesWrong)

/-- 'correctorlaw15.ResolveInts': WHATEVER THE INPUT: true; the input reads as it did. -/
def resolveIntsSpec : ChangeSpec := { name := "resolveInts", fn := fun _ => fun
  | [d] => { results := [.lit (.bool true)], args := [d] }
  | _ => none }
def resolveIntsRow : OpenClaim := { program := "ytpigemgiegbblaa", sum := "2ab6a34ff0d6744cbb0e180404c94092f9754650c0f89b4016dc511295e8b0fa", func := "corrector/correctorlaw15.ResolveInts", spec := "resolveInts", apart := false }
def ResolveIntsSaid : Prop := resolveIntsRow.holds Try.pinned (OpenSpec.ofChange resolveIntsSpec)

/-- ITS FALSE NEIGHBOUR: 'it returns false'. Refute it at one input. -/
def resolveIntsWrong : ChangeSpec := { name := "resolveInts", fn := fun _ => fun
  | [d] => { results := [.lit (.bool false)], args := [d] }
  | _ => none }
def ResolveIntsWrongFalsely : Prop := resolveIntsRow.holds Try.pinned (OpenSpec.ofChange resolveIntsWrong)

/-- 'correctorlaw15.ResolveBounds': WHATEVER THE INPUT: true; the input reads as it did. -/
def resolveBoundsSpec : ChangeSpec := { name := "resolveBounds", fn := fun _ => fun
  | [d] => { results := [.lit (.bool true)], args := [d] }
  | _ => none }
def resolveBoundsRow : OpenClaim := { program := "ytpigemgiegbblaa", sum := "2ab6a34ff0d6744cbb0e180404c94092f9754650c0f89b4016dc511295e8b0fa", func := "corrector/correctorlaw15.ResolveBounds", spec := "resolveBounds", apart := false }
def ResolveBoundsSaid : Prop := resolveBoundsRow.holds Try.pinned (OpenSpec.ofChange resolveBoundsSpec)

/-- ITS FALSE NEIGHBOUR: 'it returns false'. Refute it at one input. -/
def resolveBoundsWrong : ChangeSpec := { name := "resolveBounds", fn := fun _ => fun
  | [d] => { results := [.lit (.bool false)], args := [d] }
  | _ => none }
def ResolveBoundsWrongFalsely : Prop := resolveBoundsRow.holds Try.pinned (OpenSpec.ofChange resolveBoundsWrong)

/-- 'correctorlaw15.ResolveKinds': WHATEVER THE INPUT: true; the input reads as it did. -/
def resolveKindsSpec : ChangeSpec := { name := "resolveKinds", fn := fun _ => fun
  | [d1, d2, d3, d4] => { results := [.lit (.bool true)], args := [d1, d2, d3, d4] }
  | _ => none }
def resolveKindsRow : OpenClaim := { program := "ytpigemgiegbblaa", sum := "2ab6a34ff0d6744cbb0e180404c94092f9754650c0f89b4016dc511295e8b0fa", func := "corrector/correctorlaw15.ResolveKinds", spec := "resolveKinds", apart := false }
def ResolveKindsSaid : Prop := resolveKindsRow.holds Try.pinned (OpenSpec.ofChange resolveKindsSpec)

/-- ITS FALSE NEIGHBOUR: 'it returns false'. Refute it at one input. -/
def resolveKindsWrong : ChangeSpec := { name := "resolveKinds", fn := fun _ => fun
  | [d1, d2, d3, d4] => { results := [.lit (.bool false)], args := [d1, d2, d3, d4] }
  | _ => none }
def ResolveKindsWrongFalsely : Prop := resolveKindsRow.holds Try.pinned (OpenSpec.ofChange resolveKindsWrong)

/-- 'correctorlaw15.ResolveOne': WHATEVER THE INPUT: true; the input reads as it did. -/
def resolveOneSpec : ChangeSpec := { name := "resolveOne", fn := fun _ => fun
  | [d1, d2] => { results := [.lit (.bool true)], args := [d1, d2] }
  | _ => none }
def resolveOneRow : OpenClaim := { program := "ytpigemgiegbblaa", sum := "2ab6a34ff0d6744cbb0e180404c94092f9754650c0f89b4016dc511295e8b0fa", func := "corrector/correctorlaw15.ResolveOne", spec := "resolveOne", apart := false }
def ResolveOneSaid : Prop := resolveOneRow.holds Try.pinned (OpenSpec.ofChange resolveOneSpec)

/-- ITS FALSE NEIGHBOUR: 'it returns false'. Refute it at one input. -/
def resolveOneWrong : ChangeSpec := { name := "resolveOne", fn := fun _ => fun
  | [d1, d2] => { results := [.lit (.bool false)], args := [d1, d2] }
  | _ => none }
def ResolveOneWrongFalsely : Prop := resolveOneRow.holds Try.pinned (OpenSpec.ofChange resolveOneWrong)

/-- 'correctorlaw15.ResolveFloats': WHATEVER THE INPUT: true; the input reads as it did. -/
def resolveFloatsSpec : ChangeSpec := { name := "resolveFloats", fn := fun _ => fun
  | [d1, d2, d3, d4] => { results := [.lit (.bool true)], args := [d1, d2, d3, d4] }
  | _ => none }
def resolveFloatsRow : OpenClaim := { program := "ytpigemgiegbblaa", sum := "2ab6a34ff0d6744cbb0e180404c94092f9754650c0f89b4016dc511295e8b0fa", func := "corrector/correctorlaw15.ResolveFloats", spec := "resolveFloats", apart := false }
def ResolveFloatsSaid : Prop := resolveFloatsRow.holds Try.pinned (OpenSpec.ofChange resolveFloatsSpec)

/-- ITS FALSE NEIGHBOUR: 'it returns false'. Refute it at one input. -/
def resolveFloatsWrong : ChangeSpec := { name := "resolveFloats", fn := fun _ => fun
  | [d1, d2, d3, d4] => { results := [.lit (.bool false)], args := [d1, d2, d3, d4] }
  | _ => none }
def ResolveFloatsWrongFalsely : Prop := resolveFloatsRow.holds Try.pinned (OpenSpec.ofChange resolveFloatsWrong)

/- THE SECOND FORM. 'bulk': how many values and letters a reading holds, each counted each time it is reached (what is shared counts as often as it is met; a slice's spare places count too). A statement '..UptoSaid' is the law's where the arguments, and the package variables that the reading takes, are together of bulk at most 1048576: NARROWER than '..Said'. Prove '..Said' where nothing that the law and all that it calls make is longer than what came in: it says more and counts as full. Else prove '..UptoSaid'. A law counts once. -/
mutual
def uptoBulk {H : Type} : DataW H → Nat
  | .lit (.string bytes) => bytes.length + 1
  | .lit _ => 1
  | .nil => 1
  | .ptr d => uptoBulk d + 1
  | .slice elems spare => uptoBulkAll elems + uptoBulkAll spare + 1
  | .agg parts => uptoBulkAll parts + 1
  | .iface _ d => uptoBulk d + 1
  | .map entries => uptoBulkEntries entries + 1
  | .held _ => 1
def uptoBulkAll {H : Type} : List (DataW H) → Nat
  | [] => 0
  | d :: r => uptoBulk d + uptoBulkAll r
def uptoBulkEntries {H : Type} : List (Lit × DataW H) → Nat
  | [] => 0
  | x :: r => uptoBulkEntry x + uptoBulkEntries r
def uptoBulkEntry {H : Type} : Lit × DataW H → Nat
  | (.string bytes, d) => bytes.length + uptoBulk d + 1
  | (_, d) => uptoBulk d + 1
 end
def uptoSmall : (H : Type) → List (DataW H) → Bool := fun _ ds => decide (uptoBulkAll ds ≤ 1048576)
def OpenSpec.upto (s : _root_.Go.ChangeSpec) : _root_.Go.OpenSpec := { _root_.Go.OpenSpec.ofChange s with cond := some uptoSmall }

/-- 'correctorlaw5.CharsEscapes', WHERE WHAT IT READS IS OF BULK AT MOST 1048576: true; the input reads as it did. -/
def charsEscapesUptoRow : OpenClaim := { program := "ytpigemgiegbblaa", sum := "2ab6a34ff0d6744cbb0e180404c94092f9754650c0f89b4016dc511295e8b0fa", func := "corrector/correctorlaw5.CharsEscapes", spec := "charsEscapes", inPlace := ["internal/bytealg.IndexByteString"], apart := false, narrowed := true }
def CharsEscapesUptoSaid : Prop := charsEscapesUptoRow.holds Try.pinned (OpenSpec.upto charsEscapesSpec)

/-- 'correctorlaw5.CharsRunes', WHERE WHAT IT READS IS OF BULK AT MOST 1048576: true; the input reads as it did. -/
def charsRunesUptoRow : OpenClaim := { program := "ytpigemgiegbblaa", sum := "2ab6a34ff0d6744cbb0e180404c94092f9754650c0f89b4016dc511295e8b0fa", func := "corrector/correctorlaw5.CharsRunes", spec := "charsRunes", inPlace := ["internal/bytealg.IndexByteString"], apart := false, narrowed := true }
def CharsRunesUptoSaid : Prop := charsRunesUptoRow.holds Try.pinned (OpenSpec.upto charsRunesSpec)

/-- 'correctorlaw5.CharsNone', WHERE WHAT IT READS IS OF BULK AT MOST 1048576: true; the input reads as it did. -/
def charsNoneUptoRow : OpenClaim := { program := "ytpigemgiegbblaa", sum := "2ab6a34ff0d6744cbb0e180404c94092f9754650c0f89b4016dc511295e8b0fa", func := "corrector/correctorlaw5.CharsNone", spec := "charsNone", inPlace := ["internal/bytealg.IndexByteString"], apart := false, narrowed := true }
def CharsNoneUptoSaid : Prop := charsNoneUptoRow.holds Try.pinned (OpenSpec.upto charsNoneSpec)

/-- 'correctorlaw5.CharsFront', WHERE WHAT IT READS IS OF BULK AT MOST 1048576: true; the input reads as it did. -/
def charsFrontUptoRow : OpenClaim := { program := "ytpigemgiegbblaa", sum := "2ab6a34ff0d6744cbb0e180404c94092f9754650c0f89b4016dc511295e8b0fa", func := "corrector/correctorlaw5.CharsFront", spec := "charsFront", inPlace := ["internal/bytealg.IndexByteString"], apart := false, narrowed := true }
def CharsFrontUptoSaid : Prop := charsFrontUptoRow.holds Try.pinned (OpenSpec.upto charsFrontSpec)

/-- 'correctorlaw5.CharsClasses', WHERE WHAT IT READS IS OF BULK AT MOST 1048576: true; the input reads as it did. -/
def charsClassesUptoRow : OpenClaim := { program := "ytpigemgiegbblaa", sum := "2ab6a34ff0d6744cbb0e180404c94092f9754650c0f89b4016dc511295e8b0fa", func := "corrector/correctorlaw5.CharsClasses", spec := "charsClasses", inPlace := ["internal/bytealg.IndexByteString"], apart := false, narrowed := true }
def CharsClassesUptoSaid : Prop := charsClassesUptoRow.holds Try.pinned (OpenSpec.upto charsClassesSpec)

/-- 'correctorlaw15.ResolveInts', WHERE WHAT IT READS IS OF BULK AT MOST 1048576: true; the input reads as it did. -/
def resolveIntsUptoRow : OpenClaim := { program := "ytpigemgiegbblaa", sum := "2ab6a34ff0d6744cbb0e180404c94092f9754650c0f89b4016dc511295e8b0fa", func := "corrector/correctorlaw15.ResolveInts", spec := "resolveInts", apart := false, narrowed := true }
def ResolveIntsUptoSaid : Prop := resolveIntsUptoRow.holds Try.pinned (OpenSpec.upto resolveIntsSpec)

/-- 'correctorlaw15.ResolveBounds', WHERE WHAT IT READS IS OF BULK AT MOST 1048576: true; the input reads as it did. -/
def resolveBoundsUptoRow : OpenClaim := { program := "ytpigemgiegbblaa", sum := "2ab6a34ff0d6744cbb0e180404c94092f9754650c0f89b4016dc511295e8b0fa", func := "corrector/correctorlaw15.ResolveBounds", spec := "resolveBounds", apart := false, narrowed := true }
def ResolveBoundsUptoSaid : Prop := resolveBoundsUptoRow.holds Try.pinned (OpenSpec.upto resolveBoundsSpec)

/-- 'correctorlaw15.ResolveKinds', WHERE WHAT IT READS IS OF BULK AT MOST 1048576: true; the input reads as it did. -/
def resolveKindsUptoRow : OpenClaim := { program := "ytpigemgiegbblaa", sum := "2ab6a34ff0d6744cbb0e180404c94092f9754650c0f89b4016dc511295e8b0fa", func := "corrector/correctorlaw15.ResolveKinds", spec := "resolveKinds", apart := false, narrowed := true }
def ResolveKindsUptoSaid : Prop := resolveKindsUptoRow.holds Try.pinned (OpenSpec.upto resolveKindsSpec)

/-- 'correctorlaw15.ResolveOne', WHERE WHAT IT READS IS OF BULK AT MOST 1048576: true; the input reads as it did. -/
def resolveOneUptoRow : OpenClaim := { program := "ytpigemgiegbblaa", sum := "2ab6a34ff0d6744cbb0e180404c94092f9754650c0f89b4016dc511295e8b0fa", func := "corrector/correctorlaw15.ResolveOne", spec := "resolveOne", apart := false, narrowed := true }
def ResolveOneUptoSaid : Prop := resolveOneUptoRow.holds Try.pinned (OpenSpec.upto resolveOneSpec)

/-- 'correctorlaw15.ResolveFloats', WHERE WHAT IT READS IS OF BULK AT MOST 1048576: true; the input reads as it did. -/
def resolveFloatsUptoRow : OpenClaim := { program := "ytpigemgiegbblaa", sum := "2ab6a34ff0d6744cbb0e180404c94092f9754650c0f89b4016dc511295e8b0fa", func := "corrector/correctorlaw15.ResolveFloats", spec := "resolveFloats", apart := false, narrowed := true }
def ResolveFloatsUptoSaid : Prop := resolveFloatsUptoRow.holds Try.pinned (OpenSpec.upto resolveFloatsSpec)

end Rows
end Go.Proofs.Ytpigemgiegbblaa
