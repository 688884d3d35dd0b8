/-
  No cell of these rows narrows 'for every input' (looked for: loops, veiled, ifaces, maps, wideKeys, modest, calm, conditions, laid).
  DERIVED. THE GIVEN ROWS OF THIS SEAT. 39 by the template 'for every input the law returns true; each argument reads behind the call as it read before'; 0 by the template 'total and deterministic' (their statements: YtnffgdbkiefinaaTotals.lean).
  GIVEN WITH THE SEED: the statements are not yours to turn. If you find one false, say at which input.
  Laid BY PROGRAM, IN A SANDBOX (cutbox-rows.mjs): the forced cells as the released guide's own fill.sh prints them over the translation 5a1f831f1482fcce… (all of the seat's roots in one cut). By AI agents, Wed Nov 11 2026. No macro, syntax, notation, axiom, sorry.
-/
import Derived.Test.YtnffgdbkiefinaaChecked
import GoSem.Claim
import GoSem.ClaimJoined
import GoSem.ClaimMapViews
import Derived.JoinedTies
import Derived.KernelRfl
namespace Go.Proofs.Ytnffgdbkiefinaa
/- THE CELL 'sum', in the pinned program and in every row, IS THE sha256 OF THE DUMP (.gsa) THAT YtnffgdbkiefinaaProg.lean LOADS. Nothing in Lean hashes anything: it is a label: what it is worth is what the hold of that sum in a sandbox is worth. -/
noncomputable def Try.pinned : Pinned := { name := "ytnffgdbkiefinaa", sum := "5a1f831f1482fcceb86c331ce07ea9860e56257cd8d71ab29cb263206cfb1ec6", checked := Try.checked }
namespace Rows
def none {H : Type} : Left H := { results := [], args := [] }

/-- 'correctorlaw1.RunesNext': WHATEVER THE INPUT: true; the input reads as it did. -/
def runesNextSpec : ChangeSpec := { name := "runesNext", fn := fun _ => fun
  | [d1, d2, d3] => { results := [.lit (.bool true)], args := [d1, d2, d3] }
  | _ => none }
def runesNextRow : OpenClaim := { program := "ytnffgdbkiefinaa", sum := "5a1f831f1482fcceb86c331ce07ea9860e56257cd8d71ab29cb263206cfb1ec6", func := "corrector/correctorlaw1.RunesNext", spec := "runesNext", apart := false }
def RunesNextSaid : Prop := runesNextRow.holds Try.pinned (OpenSpec.ofChange runesNextSpec)

/-- ITS FALSE NEIGHBOUR: 'it returns false'. Refute it at one input. -/
def runesNextWrong : ChangeSpec := { name := "runesNext", fn := fun _ => fun
  | [d1, d2, d3] => { results := [.lit (.bool false)], args := [d1, d2, d3] }
  | _ => none }
def RunesNextWrongFalsely : Prop := runesNextRow.holds Try.pinned (OpenSpec.ofChange runesNextWrong)

/-- 'correctorlaw1.RunesShort': WHATEVER THE INPUT: true; the input reads as it did. -/
def runesShortSpec : ChangeSpec := { name := "runesShort", fn := fun _ => fun
  | [d1, d2, d3] => { results := [.lit (.bool true)], args := [d1, d2, d3] }
  | _ => none }
def runesShortRow : OpenClaim := { program := "ytnffgdbkiefinaa", sum := "5a1f831f1482fcceb86c331ce07ea9860e56257cd8d71ab29cb263206cfb1ec6", func := "corrector/correctorlaw1.RunesShort", spec := "runesShort", apart := false }
def RunesShortSaid : Prop := runesShortRow.holds Try.pinned (OpenSpec.ofChange runesShortSpec)

/-- ITS FALSE NEIGHBOUR: 'it returns false'. Refute it at one input. -/
def runesShortWrong : ChangeSpec := { name := "runesShort", fn := fun _ => fun
  | [d1, d2, d3] => { results := [.lit (.bool false)], args := [d1, d2, d3] }
  | _ => none }
def RunesShortWrongFalsely : Prop := runesShortRow.holds Try.pinned (OpenSpec.ofChange runesShortWrong)

/-- 'correctorlaw1.RunesBad': WHATEVER THE INPUT: true; the input reads as it did. -/
def runesBadSpec : ChangeSpec := { name := "runesBad", fn := fun _ => fun
  | [d] => { results := [.lit (.bool true)], args := [d] }
  | _ => none }
def runesBadRow : OpenClaim := { program := "ytnffgdbkiefinaa", sum := "5a1f831f1482fcceb86c331ce07ea9860e56257cd8d71ab29cb263206cfb1ec6", func := "corrector/correctorlaw1.RunesBad", spec := "runesBad", apart := false }
def RunesBadSaid : Prop := runesBadRow.holds Try.pinned (OpenSpec.ofChange runesBadSpec)

/-- ITS FALSE NEIGHBOUR: 'it returns false'. Refute it at one input. -/
def runesBadWrong : ChangeSpec := { name := "runesBad", fn := fun _ => fun
  | [d] => { results := [.lit (.bool false)], args := [d] }
  | _ => none }
def RunesBadWrongFalsely : Prop := runesBadRow.holds Try.pinned (OpenSpec.ofChange runesBadWrong)

/-- 'correctorlaw1.RunesAll': WHATEVER THE INPUT: true; the input reads as it did. -/
def runesAllSpec : ChangeSpec := { name := "runesAll", fn := fun _ => fun
  | [d] => { results := [.lit (.bool true)], args := [d] }
  | _ => none }
def runesAllRow : OpenClaim := { program := "ytnffgdbkiefinaa", sum := "5a1f831f1482fcceb86c331ce07ea9860e56257cd8d71ab29cb263206cfb1ec6", func := "corrector/correctorlaw1.RunesAll", spec := "runesAll", apart := false }
def RunesAllSaid : Prop := runesAllRow.holds Try.pinned (OpenSpec.ofChange runesAllSpec)

/-- ITS FALSE NEIGHBOUR: 'it returns false'. Refute it at one input. -/
def runesAllWrong : ChangeSpec := { name := "runesAll", fn := fun _ => fun
  | [d] => { results := [.lit (.bool false)], args := [d] }
  | _ => none }
def RunesAllWrongFalsely : Prop := runesAllRow.holds Try.pinned (OpenSpec.ofChange runesAllWrong)

/-- 'correctorlaw1.RunesText': WHATEVER THE INPUT: true; the input reads as it did. -/
def runesTextSpec : ChangeSpec := { name := "runesText", fn := fun _ => fun
  | [d] => { results := [.lit (.bool true)], args := [d] }
  | _ => none }
def runesTextRow : OpenClaim := { program := "ytnffgdbkiefinaa", sum := "5a1f831f1482fcceb86c331ce07ea9860e56257cd8d71ab29cb263206cfb1ec6", func := "corrector/correctorlaw1.RunesText", spec := "runesText", apart := false }
def RunesTextSaid : Prop := runesTextRow.holds Try.pinned (OpenSpec.ofChange runesTextSpec)

/-- ITS FALSE NEIGHBOUR: 'it returns false'. Refute it at one input. -/
def runesTextWrong : ChangeSpec := { name := "runesText", fn := fun _ => fun
  | [d] => { results := [.lit (.bool false)], args := [d] }
  | _ => none }
def RunesTextWrongFalsely : Prop := runesTextRow.holds Try.pinned (OpenSpec.ofChange runesTextWrong)

/-- 'correctorlaw1.RunesJoin': WHATEVER THE INPUT: true; the input reads as it did. -/
def runesJoinSpec : ChangeSpec := { name := "runesJoin", fn := fun _ => fun
  | [d1, d2] => { results := [.lit (.bool true)], args := [d1, d2] }
  | _ => none }
def runesJoinRow : OpenClaim := { program := "ytnffgdbkiefinaa", sum := "5a1f831f1482fcceb86c331ce07ea9860e56257cd8d71ab29cb263206cfb1ec6", func := "corrector/correctorlaw1.RunesJoin", spec := "runesJoin", apart := false }
def RunesJoinSaid : Prop := runesJoinRow.holds Try.pinned (OpenSpec.ofChange runesJoinSpec)

/-- ITS FALSE NEIGHBOUR: 'it returns false'. Refute it at one input. -/
def runesJoinWrong : ChangeSpec := { name := "runesJoin", fn := fun _ => fun
  | [d1, d2] => { results := [.lit (.bool false)], args := [d1, d2] }
  | _ => none }
def RunesJoinWrongFalsely : Prop := runesJoinRow.holds Try.pinned (OpenSpec.ofChange runesJoinWrong)

/-- 'correctorlaw2.LinesStarts': WHATEVER THE INPUT: true; the input reads as it did. -/
def linesStartsSpec : ChangeSpec := { name := "linesStarts", fn := fun _ => fun
  | [d1, d2] => { results := [.lit (.bool true)], args := [d1, d2] }
  | _ => none }
def linesStartsRow : OpenClaim := { program := "ytnffgdbkiefinaa", sum := "5a1f831f1482fcceb86c331ce07ea9860e56257cd8d71ab29cb263206cfb1ec6", func := "corrector/correctorlaw2.LinesStarts", spec := "linesStarts", apart := false }
def LinesStartsSaid : Prop := linesStartsRow.holds Try.pinned (OpenSpec.ofChange linesStartsSpec)

/-- ITS FALSE NEIGHBOUR: 'it returns false'. Refute it at one input. -/
def linesStartsWrong : ChangeSpec := { name := "linesStarts", fn := fun _ => fun
  | [d1, d2] => { results := [.lit (.bool false)], args := [d1, d2] }
  | _ => none }
def LinesStartsWrongFalsely : Prop := linesStartsRow.holds Try.pinned (OpenSpec.ofChange linesStartsWrong)

/-- 'correctorlaw2.LinesPlaces': WHATEVER THE INPUT: true; the input reads as it did. -/
def linesPlacesSpec : ChangeSpec := { name := "linesPlaces", fn := fun _ => fun
  | [d1, d2, d3] => { results := [.lit (.bool true)], args := [d1, d2, d3] }
  | _ => none }
def linesPlacesRow : OpenClaim := { program := "ytnffgdbkiefinaa", sum := "5a1f831f1482fcceb86c331ce07ea9860e56257cd8d71ab29cb263206cfb1ec6", func := "corrector/correctorlaw2.LinesPlaces", spec := "linesPlaces", apart := false }
def LinesPlacesSaid : Prop := linesPlacesRow.holds Try.pinned (OpenSpec.ofChange linesPlacesSpec)

/-- ITS FALSE NEIGHBOUR: 'it returns false'. Refute it at one input. -/
def linesPlacesWrong : ChangeSpec := { name := "linesPlaces", fn := fun _ => fun
  | [d1, d2, d3] => { results := [.lit (.bool false)], args := [d1, d2, d3] }
  | _ => none }
def LinesPlacesWrongFalsely : Prop := linesPlacesRow.holds Try.pinned (OpenSpec.ofChange linesPlacesWrong)

/-- 'correctorlaw2.LinesOrder': WHATEVER THE INPUT: true; the input reads as it did. -/
def linesOrderSpec : ChangeSpec := { name := "linesOrder", fn := fun _ => fun
  | [d1, d2] => { results := [.lit (.bool true)], args := [d1, d2] }
  | _ => none }
def linesOrderRow : OpenClaim := { program := "ytnffgdbkiefinaa", sum := "5a1f831f1482fcceb86c331ce07ea9860e56257cd8d71ab29cb263206cfb1ec6", func := "corrector/correctorlaw2.LinesOrder", spec := "linesOrder", apart := false }
def LinesOrderSaid : Prop := linesOrderRow.holds Try.pinned (OpenSpec.ofChange linesOrderSpec)

/-- ITS FALSE NEIGHBOUR: 'it returns false'. Refute it at one input. -/
def linesOrderWrong : ChangeSpec := { name := "linesOrder", fn := fun _ => fun
  | [d1, d2] => { results := [.lit (.bool false)], args := [d1, d2] }
  | _ => none }
def LinesOrderWrongFalsely : Prop := linesOrderRow.holds Try.pinned (OpenSpec.ofChange linesOrderWrong)

/-- 'correctorlaw2.LinesBreaks': WHATEVER THE INPUT: true; the input reads as it did. -/
def linesBreaksSpec : ChangeSpec := { name := "linesBreaks", fn := fun _ => fun
  | [d] => { results := [.lit (.bool true)], args := [d] }
  | _ => none }
def linesBreaksRow : OpenClaim := { program := "ytnffgdbkiefinaa", sum := "5a1f831f1482fcceb86c331ce07ea9860e56257cd8d71ab29cb263206cfb1ec6", func := "corrector/correctorlaw2.LinesBreaks", spec := "linesBreaks", apart := false }
def LinesBreaksSaid : Prop := linesBreaksRow.holds Try.pinned (OpenSpec.ofChange linesBreaksSpec)

/-- ITS FALSE NEIGHBOUR: 'it returns false'. Refute it at one input. -/
def linesBreaksWrong : ChangeSpec := { name := "linesBreaks", fn := fun _ => fun
  | [d] => { results := [.lit (.bool false)], args := [d] }
  | _ => none }
def LinesBreaksWrongFalsely : Prop := linesBreaksRow.holds Try.pinned (OpenSpec.ofChange linesBreaksWrong)

/-- 'correctorlaw2.LinesNone': WHATEVER THE INPUT: true; the input reads as it did. -/
def linesNoneSpec : ChangeSpec := { name := "linesNone", fn := fun _ => fun
  | [d1, d2, d3] => { results := [.lit (.bool true)], args := [d1, d2, d3] }
  | _ => none }
def linesNoneRow : OpenClaim := { program := "ytnffgdbkiefinaa", sum := "5a1f831f1482fcceb86c331ce07ea9860e56257cd8d71ab29cb263206cfb1ec6", func := "corrector/correctorlaw2.LinesNone", spec := "linesNone", apart := false }
def LinesNoneSaid : Prop := linesNoneRow.holds Try.pinned (OpenSpec.ofChange linesNoneSpec)

/-- ITS FALSE NEIGHBOUR: 'it returns false'. Refute it at one input. -/
def linesNoneWrong : ChangeSpec := { name := "linesNone", fn := fun _ => fun
  | [d1, d2, d3] => { results := [.lit (.bool false)], args := [d1, d2, d3] }
  | _ => none }
def LinesNoneWrongFalsely : Prop := linesNoneRow.holds Try.pinned (OpenSpec.ofChange linesNoneWrong)

/-- 'correctorlaw5.CharsEscapes': WHATEVER THE INPUT: true; the input reads as it did. -/
def charsEscapesSpec : ChangeSpec := { name := "charsEscapes", fn := fun _ => fun
  | [d1, d2, d3, d4] => { results := [.lit (.bool true)], args := [d1, d2, d3, d4] }
  | _ => none }
def charsEscapesRow : OpenClaim := { program := "ytnffgdbkiefinaa", sum := "5a1f831f1482fcceb86c331ce07ea9860e56257cd8d71ab29cb263206cfb1ec6", func := "corrector/correctorlaw5.CharsEscapes", spec := "charsEscapes", inPlace := ["internal/bytealg.IndexByteString"], apart := false }
def CharsEscapesSaid : Prop := charsEscapesRow.holds Try.pinned (OpenSpec.ofChange charsEscapesSpec)

/-- ITS FALSE NEIGHBOUR: 'it returns false'. Refute it at one input. -/
def charsEscapesWrong : ChangeSpec := { name := "charsEscapes", fn := fun _ => fun
  | [d1, d2, d3, d4] => { results := [.lit (.bool false)], args := [d1, d2, d3, d4] }
  | _ => none }
def CharsEscapesWrongFalsely : Prop := charsEscapesRow.holds Try.pinned (OpenSpec.ofChange charsEscapesWrong)

/-- 'correctorlaw5.CharsRunes': WHATEVER THE INPUT: true; the input reads as it did. -/
def charsRunesSpec : ChangeSpec := { name := "charsRunes", fn := fun _ => fun
  | [d] => { results := [.lit (.bool true)], args := [d] }
  | _ => none }
def charsRunesRow : OpenClaim := { program := "ytnffgdbkiefinaa", sum := "5a1f831f1482fcceb86c331ce07ea9860e56257cd8d71ab29cb263206cfb1ec6", func := "corrector/correctorlaw5.CharsRunes", spec := "charsRunes", inPlace := ["internal/bytealg.IndexByteString"], apart := false }
def CharsRunesSaid : Prop := charsRunesRow.holds Try.pinned (OpenSpec.ofChange charsRunesSpec)

/-- ITS FALSE NEIGHBOUR: 'it returns false'. Refute it at one input. -/
def charsRunesWrong : ChangeSpec := { name := "charsRunes", fn := fun _ => fun
  | [d] => { results := [.lit (.bool false)], args := [d] }
  | _ => none }
def CharsRunesWrongFalsely : Prop := charsRunesRow.holds Try.pinned (OpenSpec.ofChange charsRunesWrong)

/-- 'correctorlaw5.CharsNone': WHATEVER THE INPUT: true; the input reads as it did. -/
def charsNoneSpec : ChangeSpec := { name := "charsNone", fn := fun _ => fun
  | [d1, d2] => { results := [.lit (.bool true)], args := [d1, d2] }
  | _ => none }
def charsNoneRow : OpenClaim := { program := "ytnffgdbkiefinaa", sum := "5a1f831f1482fcceb86c331ce07ea9860e56257cd8d71ab29cb263206cfb1ec6", func := "corrector/correctorlaw5.CharsNone", spec := "charsNone", inPlace := ["internal/bytealg.IndexByteString"], apart := false }
def CharsNoneSaid : Prop := charsNoneRow.holds Try.pinned (OpenSpec.ofChange charsNoneSpec)

/-- ITS FALSE NEIGHBOUR: 'it returns false'. Refute it at one input. -/
def charsNoneWrong : ChangeSpec := { name := "charsNone", fn := fun _ => fun
  | [d1, d2] => { results := [.lit (.bool false)], args := [d1, d2] }
  | _ => none }
def CharsNoneWrongFalsely : Prop := charsNoneRow.holds Try.pinned (OpenSpec.ofChange charsNoneWrong)

/-- 'correctorlaw5.CharsFront': WHATEVER THE INPUT: true; the input reads as it did. -/
def charsFrontSpec : ChangeSpec := { name := "charsFront", fn := fun _ => fun
  | [d1, d2] => { results := [.lit (.bool true)], args := [d1, d2] }
  | _ => none }
def charsFrontRow : OpenClaim := { program := "ytnffgdbkiefinaa", sum := "5a1f831f1482fcceb86c331ce07ea9860e56257cd8d71ab29cb263206cfb1ec6", func := "corrector/correctorlaw5.CharsFront", spec := "charsFront", inPlace := ["internal/bytealg.IndexByteString"], apart := false }
def CharsFrontSaid : Prop := charsFrontRow.holds Try.pinned (OpenSpec.ofChange charsFrontSpec)

/-- ITS FALSE NEIGHBOUR: 'it returns false'. Refute it at one input. -/
def charsFrontWrong : ChangeSpec := { name := "charsFront", fn := fun _ => fun
  | [d1, d2] => { results := [.lit (.bool false)], args := [d1, d2] }
  | _ => none }
def CharsFrontWrongFalsely : Prop := charsFrontRow.holds Try.pinned (OpenSpec.ofChange charsFrontWrong)

/-- 'correctorlaw5.CharsClasses': WHATEVER THE INPUT: true; the input reads as it did. -/
def charsClassesSpec : ChangeSpec := { name := "charsClasses", fn := fun _ => fun
  | [d] => { results := [.lit (.bool true)], args := [d] }
  | _ => none }
def charsClassesRow : OpenClaim := { program := "ytnffgdbkiefinaa", sum := "5a1f831f1482fcceb86c331ce07ea9860e56257cd8d71ab29cb263206cfb1ec6", func := "corrector/correctorlaw5.CharsClasses", spec := "charsClasses", inPlace := ["internal/bytealg.IndexByteString"], apart := false }
def CharsClassesSaid : Prop := charsClassesRow.holds Try.pinned (OpenSpec.ofChange charsClassesSpec)

/-- ITS FALSE NEIGHBOUR: 'it returns false'. Refute it at one input. -/
def charsClassesWrong : ChangeSpec := { name := "charsClasses", fn := fun _ => fun
  | [d] => { results := [.lit (.bool false)], args := [d] }
  | _ => none }
def CharsClassesWrongFalsely : Prop := charsClassesRow.holds Try.pinned (OpenSpec.ofChange charsClassesWrong)

/-- 'correctorlaw15.ResolveInts': WHATEVER THE INPUT: true; the input reads as it did. -/
def resolveIntsSpec : ChangeSpec := { name := "resolveInts", fn := fun _ => fun
  | [d] => { results := [.lit (.bool true)], args := [d] }
  | _ => none }
def resolveIntsRow : OpenClaim := { program := "ytnffgdbkiefinaa", sum := "5a1f831f1482fcceb86c331ce07ea9860e56257cd8d71ab29cb263206cfb1ec6", func := "corrector/correctorlaw15.ResolveInts", spec := "resolveInts", apart := false }
def ResolveIntsSaid : Prop := resolveIntsRow.holds Try.pinned (OpenSpec.ofChange resolveIntsSpec)

/-- ITS FALSE NEIGHBOUR: 'it returns false'. Refute it at one input. -/
def resolveIntsWrong : ChangeSpec := { name := "resolveInts", fn := fun _ => fun
  | [d] => { results := [.lit (.bool false)], args := [d] }
  | _ => none }
def ResolveIntsWrongFalsely : Prop := resolveIntsRow.holds Try.pinned (OpenSpec.ofChange resolveIntsWrong)

/-- 'correctorlaw15.ResolveBounds': WHATEVER THE INPUT: true; the input reads as it did. -/
def resolveBoundsSpec : ChangeSpec := { name := "resolveBounds", fn := fun _ => fun
  | [d] => { results := [.lit (.bool true)], args := [d] }
  | _ => none }
def resolveBoundsRow : OpenClaim := { program := "ytnffgdbkiefinaa", sum := "5a1f831f1482fcceb86c331ce07ea9860e56257cd8d71ab29cb263206cfb1ec6", func := "corrector/correctorlaw15.ResolveBounds", spec := "resolveBounds", apart := false }
def ResolveBoundsSaid : Prop := resolveBoundsRow.holds Try.pinned (OpenSpec.ofChange resolveBoundsSpec)

/-- ITS FALSE NEIGHBOUR: 'it returns false'. Refute it at one input. -/
def resolveBoundsWrong : ChangeSpec := { name := "resolveBounds", fn := fun _ => fun
  | [d] => { results := [.lit (.bool false)], args := [d] }
  | _ => none }
def ResolveBoundsWrongFalsely : Prop := resolveBoundsRow.holds Try.pinned (OpenSpec.ofChange resolveBoundsWrong)

/-- 'correctorlaw15.ResolveKinds': WHATEVER THE INPUT: true; the input reads as it did. -/
def resolveKindsSpec : ChangeSpec := { name := "resolveKinds", fn := fun _ => fun
  | [d1, d2, d3, d4] => { results := [.lit (.bool true)], args := [d1, d2, d3, d4] }
  | _ => none }
def resolveKindsRow : OpenClaim := { program := "ytnffgdbkiefinaa", sum := "5a1f831f1482fcceb86c331ce07ea9860e56257cd8d71ab29cb263206cfb1ec6", func := "corrector/correctorlaw15.ResolveKinds", spec := "resolveKinds", apart := false }
def ResolveKindsSaid : Prop := resolveKindsRow.holds Try.pinned (OpenSpec.ofChange resolveKindsSpec)

/-- ITS FALSE NEIGHBOUR: 'it returns false'. Refute it at one input. -/
def resolveKindsWrong : ChangeSpec := { name := "resolveKinds", fn := fun _ => fun
  | [d1, d2, d3, d4] => { results := [.lit (.bool false)], args := [d1, d2, d3, d4] }
  | _ => none }
def ResolveKindsWrongFalsely : Prop := resolveKindsRow.holds Try.pinned (OpenSpec.ofChange resolveKindsWrong)

/-- 'correctorlaw15.ResolveOne': WHATEVER THE INPUT: true; the input reads as it did. -/
def resolveOneSpec : ChangeSpec := { name := "resolveOne", fn := fun _ => fun
  | [d1, d2] => { results := [.lit (.bool true)], args := [d1, d2] }
  | _ => none }
def resolveOneRow : OpenClaim := { program := "ytnffgdbkiefinaa", sum := "5a1f831f1482fcceb86c331ce07ea9860e56257cd8d71ab29cb263206cfb1ec6", func := "corrector/correctorlaw15.ResolveOne", spec := "resolveOne", apart := false }
def ResolveOneSaid : Prop := resolveOneRow.holds Try.pinned (OpenSpec.ofChange resolveOneSpec)

/-- ITS FALSE NEIGHBOUR: 'it returns false'. Refute it at one input. -/
def resolveOneWrong : ChangeSpec := { name := "resolveOne", fn := fun _ => fun
  | [d1, d2] => { results := [.lit (.bool false)], args := [d1, d2] }
  | _ => none }
def ResolveOneWrongFalsely : Prop := resolveOneRow.holds Try.pinned (OpenSpec.ofChange resolveOneWrong)

/-- 'correctorlaw15.ResolveFloats': WHATEVER THE INPUT: true; the input reads as it did. -/
def resolveFloatsSpec : ChangeSpec := { name := "resolveFloats", fn := fun _ => fun
  | [d1, d2, d3, d4] => { results := [.lit (.bool true)], args := [d1, d2, d3, d4] }
  | _ => none }
def resolveFloatsRow : OpenClaim := { program := "ytnffgdbkiefinaa", sum := "5a1f831f1482fcceb86c331ce07ea9860e56257cd8d71ab29cb263206cfb1ec6", func := "corrector/correctorlaw15.ResolveFloats", spec := "resolveFloats", apart := false }
def ResolveFloatsSaid : Prop := resolveFloatsRow.holds Try.pinned (OpenSpec.ofChange resolveFloatsSpec)

/-- ITS FALSE NEIGHBOUR: 'it returns false'. Refute it at one input. -/
def resolveFloatsWrong : ChangeSpec := { name := "resolveFloats", fn := fun _ => fun
  | [d1, d2, d3, d4] => { results := [.lit (.bool false)], args := [d1, d2, d3, d4] }
  | _ => none }
def ResolveFloatsWrongFalsely : Prop := resolveFloatsRow.holds Try.pinned (OpenSpec.ofChange resolveFloatsWrong)

/-- 'correctorlaw7.QuoteTexts': WHATEVER THE INPUT: true; the input reads as it did. -/
def quoteTextsSpec : ChangeSpec := { name := "quoteTexts", fn := fun _ => fun
  | [d1, d2, d3] => { results := [.lit (.bool true)], args := [d1, d2, d3] }
  | _ => none }
def quoteTextsRow : OpenClaim := { program := "ytnffgdbkiefinaa", sum := "5a1f831f1482fcceb86c331ce07ea9860e56257cd8d71ab29cb263206cfb1ec6", func := "corrector/correctorlaw7.QuoteTexts", spec := "quoteTexts", unfollowed := true, recurses := true, apart := false }
def QuoteTextsSaid : Prop := quoteTextsRow.holds Try.pinned (OpenSpec.ofChange quoteTextsSpec)

/-- ITS FALSE NEIGHBOUR: 'it returns false'. Refute it at one input. -/
def quoteTextsWrong : ChangeSpec := { name := "quoteTexts", fn := fun _ => fun
  | [d1, d2, d3] => { results := [.lit (.bool false)], args := [d1, d2, d3] }
  | _ => none }
def QuoteTextsWrongFalsely : Prop := quoteTextsRow.holds Try.pinned (OpenSpec.ofChange quoteTextsWrong)

/-- 'correctorlaw7.QuoteSingle': WHATEVER THE INPUT: true; the input reads as it did. -/
def quoteSingleSpec : ChangeSpec := { name := "quoteSingle", fn := fun _ => fun
  | [d] => { results := [.lit (.bool true)], args := [d] }
  | _ => none }
def quoteSingleRow : OpenClaim := { program := "ytnffgdbkiefinaa", sum := "5a1f831f1482fcceb86c331ce07ea9860e56257cd8d71ab29cb263206cfb1ec6", func := "corrector/correctorlaw7.QuoteSingle", spec := "quoteSingle", unfollowed := true, recurses := true, apart := false }
def QuoteSingleSaid : Prop := quoteSingleRow.holds Try.pinned (OpenSpec.ofChange quoteSingleSpec)

/-- ITS FALSE NEIGHBOUR: 'it returns false'. Refute it at one input. -/
def quoteSingleWrong : ChangeSpec := { name := "quoteSingle", fn := fun _ => fun
  | [d] => { results := [.lit (.bool false)], args := [d] }
  | _ => none }
def QuoteSingleWrongFalsely : Prop := quoteSingleRow.holds Try.pinned (OpenSpec.ofChange quoteSingleWrong)

/-- 'correctorlaw7.QuoteBad': WHATEVER THE INPUT: true; the input reads as it did. -/
def quoteBadSpec : ChangeSpec := { name := "quoteBad", fn := fun _ => fun
  | [d] => { results := [.lit (.bool true)], args := [d] }
  | _ => none }
def quoteBadRow : OpenClaim := { program := "ytnffgdbkiefinaa", sum := "5a1f831f1482fcceb86c331ce07ea9860e56257cd8d71ab29cb263206cfb1ec6", func := "corrector/correctorlaw7.QuoteBad", spec := "quoteBad", unfollowed := true, recurses := true, apart := false }
def QuoteBadSaid : Prop := quoteBadRow.holds Try.pinned (OpenSpec.ofChange quoteBadSpec)

/-- ITS FALSE NEIGHBOUR: 'it returns false'. Refute it at one input. -/
def quoteBadWrong : ChangeSpec := { name := "quoteBad", fn := fun _ => fun
  | [d] => { results := [.lit (.bool false)], args := [d] }
  | _ => none }
def QuoteBadWrongFalsely : Prop := quoteBadRow.holds Try.pinned (OpenSpec.ofChange quoteBadWrong)

/-- 'correctorlaw7.QuoteOther': WHATEVER THE INPUT: true; the input reads as it did. -/
def quoteOtherSpec : ChangeSpec := { name := "quoteOther", fn := fun _ => fun
  | [d1, d2] => { results := [.lit (.bool true)], args := [d1, d2] }
  | _ => none }
def quoteOtherRow : OpenClaim := { program := "ytnffgdbkiefinaa", sum := "5a1f831f1482fcceb86c331ce07ea9860e56257cd8d71ab29cb263206cfb1ec6", func := "corrector/correctorlaw7.QuoteOther", spec := "quoteOther", unfollowed := true, recurses := true, apart := false }
def QuoteOtherSaid : Prop := quoteOtherRow.holds Try.pinned (OpenSpec.ofChange quoteOtherSpec)

/-- ITS FALSE NEIGHBOUR: 'it returns false'. Refute it at one input. -/
def quoteOtherWrong : ChangeSpec := { name := "quoteOther", fn := fun _ => fun
  | [d1, d2] => { results := [.lit (.bool false)], args := [d1, d2] }
  | _ => none }
def QuoteOtherWrongFalsely : Prop := quoteOtherRow.holds Try.pinned (OpenSpec.ofChange quoteOtherWrong)

/-- 'correctorlaw7.QuoteWrites': WHATEVER THE INPUT: true; the input reads as it did. -/
def quoteWritesSpec : ChangeSpec := { name := "quoteWrites", fn := fun _ => fun
  | [d] => { results := [.lit (.bool true)], args := [d] }
  | _ => none }
def quoteWritesRow : OpenClaim := { program := "ytnffgdbkiefinaa", sum := "5a1f831f1482fcceb86c331ce07ea9860e56257cd8d71ab29cb263206cfb1ec6", func := "corrector/correctorlaw7.QuoteWrites", spec := "quoteWrites", inPlace := ["internal/abi.NoEscape"], unfollowed := true, recurses := true, apart := false }
def QuoteWritesSaid : Prop := quoteWritesRow.holds Try.pinned (OpenSpec.ofChange quoteWritesSpec)

/-- ITS FALSE NEIGHBOUR: 'it returns false'. Refute it at one input. -/
def quoteWritesWrong : ChangeSpec := { name := "quoteWrites", fn := fun _ => fun
  | [d] => { results := [.lit (.bool false)], args := [d] }
  | _ => none }
def QuoteWritesWrongFalsely : Prop := quoteWritesRow.holds Try.pinned (OpenSpec.ofChange quoteWritesWrong)

/-- 'correctorlaw7.QuoteToken': WHATEVER THE INPUT: true; the input reads as it did. -/
def quoteTokenSpec : ChangeSpec := { name := "quoteToken", fn := fun _ => fun
  | [d] => { results := [.lit (.bool true)], args := [d] }
  | _ => none }
def quoteTokenRow : OpenClaim := { program := "ytnffgdbkiefinaa", sum := "5a1f831f1482fcceb86c331ce07ea9860e56257cd8d71ab29cb263206cfb1ec6", func := "corrector/correctorlaw7.QuoteToken", spec := "quoteToken", inPlace := ["internal/abi.NoEscape"], unfollowed := true, recurses := true, apart := false }
def QuoteTokenSaid : Prop := quoteTokenRow.holds Try.pinned (OpenSpec.ofChange quoteTokenSpec)

/-- ITS FALSE NEIGHBOUR: 'it returns false'. Refute it at one input. -/
def quoteTokenWrong : ChangeSpec := { name := "quoteToken", fn := fun _ => fun
  | [d] => { results := [.lit (.bool false)], args := [d] }
  | _ => none }
def QuoteTokenWrongFalsely : Prop := quoteTokenRow.holds Try.pinned (OpenSpec.ofChange quoteTokenWrong)

/-- 'correctorlaw6.ScanTokens': WHATEVER THE INPUT: true; the input reads as it did. -/
def scanTokensSpec : ChangeSpec := { name := "scanTokens", fn := fun _ => fun
  | [d1, d2] => { results := [.lit (.bool true)], args := [d1, d2] }
  | _ => none }
def scanTokensRow : OpenClaim := { program := "ytnffgdbkiefinaa", sum := "5a1f831f1482fcceb86c331ce07ea9860e56257cd8d71ab29cb263206cfb1ec6", func := "corrector/correctorlaw6.ScanTokens", spec := "scanTokens", apart := false }
def ScanTokensSaid : Prop := scanTokensRow.holds Try.pinned (OpenSpec.ofChange scanTokensSpec)

/-- ITS FALSE NEIGHBOUR: 'it returns false'. Refute it at one input. -/
def scanTokensWrong : ChangeSpec := { name := "scanTokens", fn := fun _ => fun
  | [d1, d2] => { results := [.lit (.bool false)], args := [d1, d2] }
  | _ => none }
def ScanTokensWrongFalsely : Prop := scanTokensRow.holds Try.pinned (OpenSpec.ofChange scanTokensWrong)

/-- 'correctorlaw6.ScanRows': WHATEVER THE INPUT: true; the input reads as it did. -/
def scanRowsSpec : ChangeSpec := { name := "scanRows", fn := fun _ => fun
  | [d1, d2] => { results := [.lit (.bool true)], args := [d1, d2] }
  | _ => none }
def scanRowsRow : OpenClaim := { program := "ytnffgdbkiefinaa", sum := "5a1f831f1482fcceb86c331ce07ea9860e56257cd8d71ab29cb263206cfb1ec6", func := "corrector/correctorlaw6.ScanRows", spec := "scanRows", apart := false }
def ScanRowsSaid : Prop := scanRowsRow.holds Try.pinned (OpenSpec.ofChange scanRowsSpec)

/-- ITS FALSE NEIGHBOUR: 'it returns false'. Refute it at one input. -/
def scanRowsWrong : ChangeSpec := { name := "scanRows", fn := fun _ => fun
  | [d1, d2] => { results := [.lit (.bool false)], args := [d1, d2] }
  | _ => none }
def ScanRowsWrongFalsely : Prop := scanRowsRow.holds Try.pinned (OpenSpec.ofChange scanRowsWrong)

/-- 'correctorlaw6.ScanOne': WHATEVER THE INPUT: true; the input reads as it did. -/
def scanOneSpec : ChangeSpec := { name := "scanOne", fn := fun _ => fun
  | [d] => { results := [.lit (.bool true)], args := [d] }
  | _ => none }
def scanOneRow : OpenClaim := { program := "ytnffgdbkiefinaa", sum := "5a1f831f1482fcceb86c331ce07ea9860e56257cd8d71ab29cb263206cfb1ec6", func := "corrector/correctorlaw6.ScanOne", spec := "scanOne", apart := false }
def ScanOneSaid : Prop := scanOneRow.holds Try.pinned (OpenSpec.ofChange scanOneSpec)

/-- ITS FALSE NEIGHBOUR: 'it returns false'. Refute it at one input. -/
def scanOneWrong : ChangeSpec := { name := "scanOne", fn := fun _ => fun
  | [d] => { results := [.lit (.bool false)], args := [d] }
  | _ => none }
def ScanOneWrongFalsely : Prop := scanOneRow.holds Try.pinned (OpenSpec.ofChange scanOneWrong)

/-- 'correctorlaw6.ScanKinds': WHATEVER THE INPUT: true; the input reads as it did. -/
def scanKindsSpec : ChangeSpec := { name := "scanKinds", fn := fun _ => fun
  | [d1, d2] => { results := [.lit (.bool true)], args := [d1, d2] }
  | _ => none }
def scanKindsRow : OpenClaim := { program := "ytnffgdbkiefinaa", sum := "5a1f831f1482fcceb86c331ce07ea9860e56257cd8d71ab29cb263206cfb1ec6", func := "corrector/correctorlaw6.ScanKinds", spec := "scanKinds", apart := false }
def ScanKindsSaid : Prop := scanKindsRow.holds Try.pinned (OpenSpec.ofChange scanKindsSpec)

/-- ITS FALSE NEIGHBOUR: 'it returns false'. Refute it at one input. -/
def scanKindsWrong : ChangeSpec := { name := "scanKinds", fn := fun _ => fun
  | [d1, d2] => { results := [.lit (.bool false)], args := [d1, d2] }
  | _ => none }
def ScanKindsWrongFalsely : Prop := scanKindsRow.holds Try.pinned (OpenSpec.ofChange scanKindsWrong)

/-- 'correctorlaw6.ScanTexts': WHATEVER THE INPUT: true; the input reads as it did. -/
def scanTextsSpec : ChangeSpec := { name := "scanTexts", fn := fun _ => fun
  | [d1, d2] => { results := [.lit (.bool true)], args := [d1, d2] }
  | _ => none }
def scanTextsRow : OpenClaim := { program := "ytnffgdbkiefinaa", sum := "5a1f831f1482fcceb86c331ce07ea9860e56257cd8d71ab29cb263206cfb1ec6", func := "corrector/correctorlaw6.ScanTexts", spec := "scanTexts", apart := false }
def ScanTextsSaid : Prop := scanTextsRow.holds Try.pinned (OpenSpec.ofChange scanTextsSpec)

/-- ITS FALSE NEIGHBOUR: 'it returns false'. Refute it at one input. -/
def scanTextsWrong : ChangeSpec := { name := "scanTexts", fn := fun _ => fun
  | [d1, d2] => { results := [.lit (.bool false)], args := [d1, d2] }
  | _ => none }
def ScanTextsWrongFalsely : Prop := scanTextsRow.holds Try.pinned (OpenSpec.ofChange scanTextsWrong)

/-- 'correctorlaw6.ScanMarks': WHATEVER THE INPUT: true; the input reads as it did. -/
def scanMarksSpec : ChangeSpec := { name := "scanMarks", fn := fun _ => fun
  | [d1, d2] => { results := [.lit (.bool true)], args := [d1, d2] }
  | _ => none }
def scanMarksRow : OpenClaim := { program := "ytnffgdbkiefinaa", sum := "5a1f831f1482fcceb86c331ce07ea9860e56257cd8d71ab29cb263206cfb1ec6", func := "corrector/correctorlaw6.ScanMarks", spec := "scanMarks", apart := false }
def ScanMarksSaid : Prop := scanMarksRow.holds Try.pinned (OpenSpec.ofChange scanMarksSpec)

/-- ITS FALSE NEIGHBOUR: 'it returns false'. Refute it at one input. -/
def scanMarksWrong : ChangeSpec := { name := "scanMarks", fn := fun _ => fun
  | [d1, d2] => { results := [.lit (.bool false)], args := [d1, d2] }
  | _ => none }
def ScanMarksWrongFalsely : Prop := scanMarksRow.holds Try.pinned (OpenSpec.ofChange scanMarksWrong)

/-- 'correctorlaw6.ScanLong': WHATEVER THE INPUT: true; the input reads as it did. -/
def scanLongSpec : ChangeSpec := { name := "scanLong", fn := fun _ => fun
  | [d] => { results := [.lit (.bool true)], args := [d] }
  | _ => none }
def scanLongRow : OpenClaim := { program := "ytnffgdbkiefinaa", sum := "5a1f831f1482fcceb86c331ce07ea9860e56257cd8d71ab29cb263206cfb1ec6", func := "corrector/correctorlaw6.ScanLong", spec := "scanLong", apart := false }
def ScanLongSaid : Prop := scanLongRow.holds Try.pinned (OpenSpec.ofChange scanLongSpec)

/-- ITS FALSE NEIGHBOUR: 'it returns false'. Refute it at one input. -/
def scanLongWrong : ChangeSpec := { name := "scanLong", fn := fun _ => fun
  | [d] => { results := [.lit (.bool false)], args := [d] }
  | _ => none }
def ScanLongWrongFalsely : Prop := scanLongRow.holds Try.pinned (OpenSpec.ofChange scanLongWrong)

/-- 'correctorlaw8.BlockLiteral': WHATEVER THE INPUT: true; the input reads as it did. -/
def blockLiteralSpec : ChangeSpec := { name := "blockLiteral", fn := fun _ => fun
  | [d1, d2] => { results := [.lit (.bool true)], args := [d1, d2] }
  | _ => none }
def blockLiteralRow : OpenClaim := { program := "ytnffgdbkiefinaa", sum := "5a1f831f1482fcceb86c331ce07ea9860e56257cd8d71ab29cb263206cfb1ec6", func := "corrector/correctorlaw8.BlockLiteral", spec := "blockLiteral", inPlace := ["internal/bytealg.IndexByteString", "internal/bytealg.IndexString", "internal/abi.NoEscape", "internal/bytealg.MakeNoZero"], named := ["internal/bytealg.MaxLen"], apart := false }
def BlockLiteralSaid : Prop := blockLiteralRow.holds Try.pinned (OpenSpec.ofChange blockLiteralSpec)

/-- ITS FALSE NEIGHBOUR: 'it returns false'. Refute it at one input. -/
def blockLiteralWrong : ChangeSpec := { name := "blockLiteral", fn := fun _ => fun
  | [d1, d2] => { results := [.lit (.bool false)], args := [d1, d2] }
  | _ => none }
def BlockLiteralWrongFalsely : Prop := blockLiteralRow.holds Try.pinned (OpenSpec.ofChange blockLiteralWrong)

/-- 'correctorlaw8.BlockFolds': WHATEVER THE INPUT: true; the input reads as it did. -/
def blockFoldsSpec : ChangeSpec := { name := "blockFolds", fn := fun _ => fun
  | [d1, d2] => { results := [.lit (.bool true)], args := [d1, d2] }
  | _ => none }
def blockFoldsRow : OpenClaim := { program := "ytnffgdbkiefinaa", sum := "5a1f831f1482fcceb86c331ce07ea9860e56257cd8d71ab29cb263206cfb1ec6", func := "corrector/correctorlaw8.BlockFolds", spec := "blockFolds", inPlace := ["internal/bytealg.IndexByteString", "internal/bytealg.IndexString", "internal/abi.NoEscape", "internal/bytealg.MakeNoZero"], named := ["internal/bytealg.MaxLen"], apart := false }
def BlockFoldsSaid : Prop := blockFoldsRow.holds Try.pinned (OpenSpec.ofChange blockFoldsSpec)

/-- ITS FALSE NEIGHBOUR: 'it returns false'. Refute it at one input. -/
def blockFoldsWrong : ChangeSpec := { name := "blockFolds", fn := fun _ => fun
  | [d1, d2] => { results := [.lit (.bool false)], args := [d1, d2] }
  | _ => none }
def BlockFoldsWrongFalsely : Prop := blockFoldsRow.holds Try.pinned (OpenSpec.ofChange blockFoldsWrong)

/-- 'correctorlaw8.BlockEmpty': WHATEVER THE INPUT: true; the input reads as it did. -/
def blockEmptySpec : ChangeSpec := { name := "blockEmpty", fn := fun _ => fun
  | [d1, d2] => { results := [.lit (.bool true)], args := [d1, d2] }
  | _ => none }
def blockEmptyRow : OpenClaim := { program := "ytnffgdbkiefinaa", sum := "5a1f831f1482fcceb86c331ce07ea9860e56257cd8d71ab29cb263206cfb1ec6", func := "corrector/correctorlaw8.BlockEmpty", spec := "blockEmpty", inPlace := ["internal/bytealg.IndexByteString", "internal/bytealg.IndexString", "internal/abi.NoEscape", "internal/bytealg.MakeNoZero"], named := ["internal/bytealg.MaxLen"], apart := false }
def BlockEmptySaid : Prop := blockEmptyRow.holds Try.pinned (OpenSpec.ofChange blockEmptySpec)

/-- ITS FALSE NEIGHBOUR: 'it returns false'. Refute it at one input. -/
def blockEmptyWrong : ChangeSpec := { name := "blockEmpty", fn := fun _ => fun
  | [d1, d2] => { results := [.lit (.bool false)], args := [d1, d2] }
  | _ => none }
def BlockEmptyWrongFalsely : Prop := blockEmptyRow.holds Try.pinned (OpenSpec.ofChange blockEmptyWrong)

/-- 'correctorlaw8.BlockChomps': WHATEVER THE INPUT: true; the input reads as it did. -/
def blockChompsSpec : ChangeSpec := { name := "blockChomps", fn := fun _ => fun
  | [d1, d2] => { results := [.lit (.bool true)], args := [d1, d2] }
  | _ => none }
def blockChompsRow : OpenClaim := { program := "ytnffgdbkiefinaa", sum := "5a1f831f1482fcceb86c331ce07ea9860e56257cd8d71ab29cb263206cfb1ec6", func := "corrector/correctorlaw8.BlockChomps", spec := "blockChomps", inPlace := ["internal/bytealg.IndexByteString", "internal/bytealg.IndexString", "internal/abi.NoEscape", "internal/bytealg.MakeNoZero"], named := ["internal/bytealg.MaxLen"], apart := false }
def BlockChompsSaid : Prop := blockChompsRow.holds Try.pinned (OpenSpec.ofChange blockChompsSpec)

/-- ITS FALSE NEIGHBOUR: 'it returns false'. Refute it at one input. -/
def blockChompsWrong : ChangeSpec := { name := "blockChomps", fn := fun _ => fun
  | [d1, d2] => { results := [.lit (.bool false)], args := [d1, d2] }
  | _ => none }
def BlockChompsWrongFalsely : Prop := blockChompsRow.holds Try.pinned (OpenSpec.ofChange blockChompsWrong)

/-- 'correctorlaw8.BlockIndent': WHATEVER THE INPUT: true; the input reads as it did. -/
def blockIndentSpec : ChangeSpec := { name := "blockIndent", fn := fun _ => fun
  | [d1, d2, d3] => { results := [.lit (.bool true)], args := [d1, d2, d3] }
  | _ => none }
def blockIndentRow : OpenClaim := { program := "ytnffgdbkiefinaa", sum := "5a1f831f1482fcceb86c331ce07ea9860e56257cd8d71ab29cb263206cfb1ec6", func := "corrector/correctorlaw8.BlockIndent", spec := "blockIndent", inPlace := ["internal/bytealg.IndexByteString", "internal/bytealg.IndexString", "internal/abi.NoEscape", "internal/bytealg.MakeNoZero"], named := ["internal/bytealg.MaxLen"], apart := false }
def BlockIndentSaid : Prop := blockIndentRow.holds Try.pinned (OpenSpec.ofChange blockIndentSpec)

/-- ITS FALSE NEIGHBOUR: 'it returns false'. Refute it at one input. -/
def blockIndentWrong : ChangeSpec := { name := "blockIndent", fn := fun _ => fun
  | [d1, d2, d3] => { results := [.lit (.bool false)], args := [d1, d2, d3] }
  | _ => none }
def BlockIndentWrongFalsely : Prop := blockIndentRow.holds Try.pinned (OpenSpec.ofChange blockIndentWrong)

/- THE SECOND FORM. 'bulk': how many values and letters a reading holds, each counted each time it is reached (what is shared counts as often as it is met; a slice's spare places count too). A statement '..UptoSaid' is the law's where the arguments, and the package variables that the reading takes, are together of bulk at most 1048576: NARROWER than '..Said'. Prove '..Said' where nothing that the law and all that it calls make is longer than what came in: it says more and counts as full. Else prove '..UptoSaid'. A law counts once. -/
mutual
def uptoBulk {H : Type} : DataW H → Nat
  | .lit (.string bytes) => bytes.length + 1
  | .lit _ => 1
  | .nil => 1
  | .ptr d => uptoBulk d + 1
  | .slice elems spare => uptoBulkAll elems + uptoBulkAll spare + 1
  | .agg parts => uptoBulkAll parts + 1
  | .iface _ d => uptoBulk d + 1
  | .map entries => uptoBulkEntries entries + 1
  | .held _ => 1
def uptoBulkAll {H : Type} : List (DataW H) → Nat
  | [] => 0
  | d :: r => uptoBulk d + uptoBulkAll r
def uptoBulkEntries {H : Type} : List (Lit × DataW H) → Nat
  | [] => 0
  | x :: r => uptoBulkEntry x + uptoBulkEntries r
def uptoBulkEntry {H : Type} : Lit × DataW H → Nat
  | (.string bytes, d) => bytes.length + uptoBulk d + 1
  | (_, d) => uptoBulk d + 1
 end
def uptoSmall : (H : Type) → List (DataW H) → Bool := fun _ ds => decide (uptoBulkAll ds ≤ 1048576)
def OpenSpec.upto (s : _root_.Go.ChangeSpec) : _root_.Go.OpenSpec := { _root_.Go.OpenSpec.ofChange s with cond := some uptoSmall }

/-- 'correctorlaw1.RunesNext', WHERE WHAT IT READS IS OF BULK AT MOST 1048576: true; the input reads as it did. -/
def runesNextUptoRow : OpenClaim := { program := "ytnffgdbkiefinaa", sum := "5a1f831f1482fcceb86c331ce07ea9860e56257cd8d71ab29cb263206cfb1ec6", func := "corrector/correctorlaw1.RunesNext", spec := "runesNext", apart := false, narrowed := true }
def RunesNextUptoSaid : Prop := runesNextUptoRow.holds Try.pinned (OpenSpec.upto runesNextSpec)

/-- 'correctorlaw1.RunesShort', WHERE WHAT IT READS IS OF BULK AT MOST 1048576: true; the input reads as it did. -/
def runesShortUptoRow : OpenClaim := { program := "ytnffgdbkiefinaa", sum := "5a1f831f1482fcceb86c331ce07ea9860e56257cd8d71ab29cb263206cfb1ec6", func := "corrector/correctorlaw1.RunesShort", spec := "runesShort", apart := false, narrowed := true }
def RunesShortUptoSaid : Prop := runesShortUptoRow.holds Try.pinned (OpenSpec.upto runesShortSpec)

/-- 'correctorlaw1.RunesBad', WHERE WHAT IT READS IS OF BULK AT MOST 1048576: true; the input reads as it did. -/
def runesBadUptoRow : OpenClaim := { program := "ytnffgdbkiefinaa", sum := "5a1f831f1482fcceb86c331ce07ea9860e56257cd8d71ab29cb263206cfb1ec6", func := "corrector/correctorlaw1.RunesBad", spec := "runesBad", apart := false, narrowed := true }
def RunesBadUptoSaid : Prop := runesBadUptoRow.holds Try.pinned (OpenSpec.upto runesBadSpec)

/-- 'correctorlaw1.RunesAll', WHERE WHAT IT READS IS OF BULK AT MOST 1048576: true; the input reads as it did. -/
def runesAllUptoRow : OpenClaim := { program := "ytnffgdbkiefinaa", sum := "5a1f831f1482fcceb86c331ce07ea9860e56257cd8d71ab29cb263206cfb1ec6", func := "corrector/correctorlaw1.RunesAll", spec := "runesAll", apart := false, narrowed := true }
def RunesAllUptoSaid : Prop := runesAllUptoRow.holds Try.pinned (OpenSpec.upto runesAllSpec)

/-- 'correctorlaw1.RunesText', WHERE WHAT IT READS IS OF BULK AT MOST 1048576: true; the input reads as it did. -/
def runesTextUptoRow : OpenClaim := { program := "ytnffgdbkiefinaa", sum := "5a1f831f1482fcceb86c331ce07ea9860e56257cd8d71ab29cb263206cfb1ec6", func := "corrector/correctorlaw1.RunesText", spec := "runesText", apart := false, narrowed := true }
def RunesTextUptoSaid : Prop := runesTextUptoRow.holds Try.pinned (OpenSpec.upto runesTextSpec)

/-- 'correctorlaw1.RunesJoin', WHERE WHAT IT READS IS OF BULK AT MOST 1048576: true; the input reads as it did. -/
def runesJoinUptoRow : OpenClaim := { program := "ytnffgdbkiefinaa", sum := "5a1f831f1482fcceb86c331ce07ea9860e56257cd8d71ab29cb263206cfb1ec6", func := "corrector/correctorlaw1.RunesJoin", spec := "runesJoin", apart := false, narrowed := true }
def RunesJoinUptoSaid : Prop := runesJoinUptoRow.holds Try.pinned (OpenSpec.upto runesJoinSpec)

/-- 'correctorlaw2.LinesStarts', WHERE WHAT IT READS IS OF BULK AT MOST 1048576: true; the input reads as it did. -/
def linesStartsUptoRow : OpenClaim := { program := "ytnffgdbkiefinaa", sum := "5a1f831f1482fcceb86c331ce07ea9860e56257cd8d71ab29cb263206cfb1ec6", func := "corrector/correctorlaw2.LinesStarts", spec := "linesStarts", apart := false, narrowed := true }
def LinesStartsUptoSaid : Prop := linesStartsUptoRow.holds Try.pinned (OpenSpec.upto linesStartsSpec)

/-- 'correctorlaw2.LinesPlaces', WHERE WHAT IT READS IS OF BULK AT MOST 1048576: true; the input reads as it did. -/
def linesPlacesUptoRow : OpenClaim := { program := "ytnffgdbkiefinaa", sum := "5a1f831f1482fcceb86c331ce07ea9860e56257cd8d71ab29cb263206cfb1ec6", func := "corrector/correctorlaw2.LinesPlaces", spec := "linesPlaces", apart := false, narrowed := true }
def LinesPlacesUptoSaid : Prop := linesPlacesUptoRow.holds Try.pinned (OpenSpec.upto linesPlacesSpec)

/-- 'correctorlaw2.LinesOrder', WHERE WHAT IT READS IS OF BULK AT MOST 1048576: true; the input reads as it did. -/
def linesOrderUptoRow : OpenClaim := { program := "ytnffgdbkiefinaa", sum := "5a1f831f1482fcceb86c331ce07ea9860e56257cd8d71ab29cb263206cfb1ec6", func := "corrector/correctorlaw2.LinesOrder", spec := "linesOrder", apart := false, narrowed := true }
def LinesOrderUptoSaid : Prop := linesOrderUptoRow.holds Try.pinned (OpenSpec.upto linesOrderSpec)

/-- 'correctorlaw2.LinesBreaks', WHERE WHAT IT READS IS OF BULK AT MOST 1048576: true; the input reads as it did. -/
def linesBreaksUptoRow : OpenClaim := { program := "ytnffgdbkiefinaa", sum := "5a1f831f1482fcceb86c331ce07ea9860e56257cd8d71ab29cb263206cfb1ec6", func := "corrector/correctorlaw2.LinesBreaks", spec := "linesBreaks", apart := false, narrowed := true }
def LinesBreaksUptoSaid : Prop := linesBreaksUptoRow.holds Try.pinned (OpenSpec.upto linesBreaksSpec)

/-- 'correctorlaw2.LinesNone', WHERE WHAT IT READS IS OF BULK AT MOST 1048576: true; the input reads as it did. -/
def linesNoneUptoRow : OpenClaim := { program := "ytnffgdbkiefinaa", sum := "5a1f831f1482fcceb86c331ce07ea9860e56257cd8d71ab29cb263206cfb1ec6", func := "corrector/correctorlaw2.LinesNone", spec := "linesNone", apart := false, narrowed := true }
def LinesNoneUptoSaid : Prop := linesNoneUptoRow.holds Try.pinned (OpenSpec.upto linesNoneSpec)

/-- 'correctorlaw5.CharsEscapes', WHERE WHAT IT READS IS OF BULK AT MOST 1048576: true; the input reads as it did. -/
def charsEscapesUptoRow : OpenClaim := { program := "ytnffgdbkiefinaa", sum := "5a1f831f1482fcceb86c331ce07ea9860e56257cd8d71ab29cb263206cfb1ec6", func := "corrector/correctorlaw5.CharsEscapes", spec := "charsEscapes", inPlace := ["internal/bytealg.IndexByteString"], apart := false, narrowed := true }
def CharsEscapesUptoSaid : Prop := charsEscapesUptoRow.holds Try.pinned (OpenSpec.upto charsEscapesSpec)

/-- 'correctorlaw5.CharsRunes', WHERE WHAT IT READS IS OF BULK AT MOST 1048576: true; the input reads as it did. -/
def charsRunesUptoRow : OpenClaim := { program := "ytnffgdbkiefinaa", sum := "5a1f831f1482fcceb86c331ce07ea9860e56257cd8d71ab29cb263206cfb1ec6", func := "corrector/correctorlaw5.CharsRunes", spec := "charsRunes", inPlace := ["internal/bytealg.IndexByteString"], apart := false, narrowed := true }
def CharsRunesUptoSaid : Prop := charsRunesUptoRow.holds Try.pinned (OpenSpec.upto charsRunesSpec)

/-- 'correctorlaw5.CharsNone', WHERE WHAT IT READS IS OF BULK AT MOST 1048576: true; the input reads as it did. -/
def charsNoneUptoRow : OpenClaim := { program := "ytnffgdbkiefinaa", sum := "5a1f831f1482fcceb86c331ce07ea9860e56257cd8d71ab29cb263206cfb1ec6", func := "corrector/correctorlaw5.CharsNone", spec := "charsNone", inPlace := ["internal/bytealg.IndexByteString"], apart := false, narrowed := true }
def CharsNoneUptoSaid : Prop := charsNoneUptoRow.holds Try.pinned (OpenSpec.upto charsNoneSpec)

/-- 'correctorlaw5.CharsFront', WHERE WHAT IT READS IS OF BULK AT MOST 1048576: true; the input reads as it did. -/
def charsFrontUptoRow : OpenClaim := { program := "ytnffgdbkiefinaa", sum := "5a1f831f1482fcceb86c331ce07ea9860e56257cd8d71ab29cb263206cfb1ec6", func := "corrector/correctorlaw5.CharsFront", spec := "charsFront", inPlace := ["internal/bytealg.IndexByteString"], apart := false, narrowed := true }
def CharsFrontUptoSaid : Prop := charsFrontUptoRow.holds Try.pinned (OpenSpec.upto charsFrontSpec)

/-- 'correctorlaw5.CharsClasses', WHERE WHAT IT READS IS OF BULK AT MOST 1048576: true; the input reads as it did. -/
def charsClassesUptoRow : OpenClaim := { program := "ytnffgdbkiefinaa", sum := "5a1f831f1482fcceb86c331ce07ea9860e56257cd8d71ab29cb263206cfb1ec6", func := "corrector/correctorlaw5.CharsClasses", spec := "charsClasses", inPlace := ["internal/bytealg.IndexByteString"], apart := false, narrowed := true }
def CharsClassesUptoSaid : Prop := charsClassesUptoRow.holds Try.pinned (OpenSpec.upto charsClassesSpec)

/-- 'correctorlaw15.ResolveInts', WHERE WHAT IT READS IS OF BULK AT MOST 1048576: true; the input reads as it did. -/
def resolveIntsUptoRow : OpenClaim := { program := "ytnffgdbkiefinaa", sum := "5a1f831f1482fcceb86c331ce07ea9860e56257cd8d71ab29cb263206cfb1ec6", func := "corrector/correctorlaw15.ResolveInts", spec := "resolveInts", apart := false, narrowed := true }
def ResolveIntsUptoSaid : Prop := resolveIntsUptoRow.holds Try.pinned (OpenSpec.upto resolveIntsSpec)

/-- 'correctorlaw15.ResolveBounds', WHERE WHAT IT READS IS OF BULK AT MOST 1048576: true; the input reads as it did. -/
def resolveBoundsUptoRow : OpenClaim := { program := "ytnffgdbkiefinaa", sum := "5a1f831f1482fcceb86c331ce07ea9860e56257cd8d71ab29cb263206cfb1ec6", func := "corrector/correctorlaw15.ResolveBounds", spec := "resolveBounds", apart := false, narrowed := true }
def ResolveBoundsUptoSaid : Prop := resolveBoundsUptoRow.holds Try.pinned (OpenSpec.upto resolveBoundsSpec)

/-- 'correctorlaw15.ResolveKinds', WHERE WHAT IT READS IS OF BULK AT MOST 1048576: true; the input reads as it did. -/
def resolveKindsUptoRow : OpenClaim := { program := "ytnffgdbkiefinaa", sum := "5a1f831f1482fcceb86c331ce07ea9860e56257cd8d71ab29cb263206cfb1ec6", func := "corrector/correctorlaw15.ResolveKinds", spec := "resolveKinds", apart := false, narrowed := true }
def ResolveKindsUptoSaid : Prop := resolveKindsUptoRow.holds Try.pinned (OpenSpec.upto resolveKindsSpec)

/-- 'correctorlaw15.ResolveOne', WHERE WHAT IT READS IS OF BULK AT MOST 1048576: true; the input reads as it did. -/
def resolveOneUptoRow : OpenClaim := { program := "ytnffgdbkiefinaa", sum := "5a1f831f1482fcceb86c331ce07ea9860e56257cd8d71ab29cb263206cfb1ec6", func := "corrector/correctorlaw15.ResolveOne", spec := "resolveOne", apart := false, narrowed := true }
def ResolveOneUptoSaid : Prop := resolveOneUptoRow.holds Try.pinned (OpenSpec.upto resolveOneSpec)

/-- 'correctorlaw15.ResolveFloats', WHERE WHAT IT READS IS OF BULK AT MOST 1048576: true; the input reads as it did. -/
def resolveFloatsUptoRow : OpenClaim := { program := "ytnffgdbkiefinaa", sum := "5a1f831f1482fcceb86c331ce07ea9860e56257cd8d71ab29cb263206cfb1ec6", func := "corrector/correctorlaw15.ResolveFloats", spec := "resolveFloats", apart := false, narrowed := true }
def ResolveFloatsUptoSaid : Prop := resolveFloatsUptoRow.holds Try.pinned (OpenSpec.upto resolveFloatsSpec)

/-- 'correctorlaw7.QuoteTexts', WHERE WHAT IT READS IS OF BULK AT MOST 1048576: true; the input reads as it did. -/
def quoteTextsUptoRow : OpenClaim := { program := "ytnffgdbkiefinaa", sum := "5a1f831f1482fcceb86c331ce07ea9860e56257cd8d71ab29cb263206cfb1ec6", func := "corrector/correctorlaw7.QuoteTexts", spec := "quoteTexts", unfollowed := true, recurses := true, apart := false, narrowed := true }
def QuoteTextsUptoSaid : Prop := quoteTextsUptoRow.holds Try.pinned (OpenSpec.upto quoteTextsSpec)

/-- 'correctorlaw7.QuoteSingle', WHERE WHAT IT READS IS OF BULK AT MOST 1048576: true; the input reads as it did. -/
def quoteSingleUptoRow : OpenClaim := { program := "ytnffgdbkiefinaa", sum := "5a1f831f1482fcceb86c331ce07ea9860e56257cd8d71ab29cb263206cfb1ec6", func := "corrector/correctorlaw7.QuoteSingle", spec := "quoteSingle", unfollowed := true, recurses := true, apart := false, narrowed := true }
def QuoteSingleUptoSaid : Prop := quoteSingleUptoRow.holds Try.pinned (OpenSpec.upto quoteSingleSpec)

/-- 'correctorlaw7.QuoteBad', WHERE WHAT IT READS IS OF BULK AT MOST 1048576: true; the input reads as it did. -/
def quoteBadUptoRow : OpenClaim := { program := "ytnffgdbkiefinaa", sum := "5a1f831f1482fcceb86c331ce07ea9860e56257cd8d71ab29cb263206cfb1ec6", func := "corrector/correctorlaw7.QuoteBad", spec := "quoteBad", unfollowed := true, recurses := true, apart := false, narrowed := true }
def QuoteBadUptoSaid : Prop := quoteBadUptoRow.holds Try.pinned (OpenSpec.upto quoteBadSpec)

/-- 'correctorlaw7.QuoteOther', WHERE WHAT IT READS IS OF BULK AT MOST 1048576: true; the input reads as it did. -/
def quoteOtherUptoRow : OpenClaim := { program := "ytnffgdbkiefinaa", sum := "5a1f831f1482fcceb86c331ce07ea9860e56257cd8d71ab29cb263206cfb1ec6", func := "corrector/correctorlaw7.QuoteOther", spec := "quoteOther", unfollowed := true, recurses := true, apart := false, narrowed := true }
def QuoteOtherUptoSaid : Prop := quoteOtherUptoRow.holds Try.pinned (OpenSpec.upto quoteOtherSpec)

/-- 'correctorlaw7.QuoteWrites', WHERE WHAT IT READS IS OF BULK AT MOST 1048576: true; the input reads as it did. -/
def quoteWritesUptoRow : OpenClaim := { program := "ytnffgdbkiefinaa", sum := "5a1f831f1482fcceb86c331ce07ea9860e56257cd8d71ab29cb263206cfb1ec6", func := "corrector/correctorlaw7.QuoteWrites", spec := "quoteWrites", inPlace := ["internal/abi.NoEscape"], unfollowed := true, recurses := true, apart := false, narrowed := true }
def QuoteWritesUptoSaid : Prop := quoteWritesUptoRow.holds Try.pinned (OpenSpec.upto quoteWritesSpec)

/-- 'correctorlaw7.QuoteToken', WHERE WHAT IT READS IS OF BULK AT MOST 1048576: true; the input reads as it did. -/
def quoteTokenUptoRow : OpenClaim := { program := "ytnffgdbkiefinaa", sum := "5a1f831f1482fcceb86c331ce07ea9860e56257cd8d71ab29cb263206cfb1ec6", func := "corrector/correctorlaw7.QuoteToken", spec := "quoteToken", inPlace := ["internal/abi.NoEscape"], unfollowed := true, recurses := true, apart := false, narrowed := true }
def QuoteTokenUptoSaid : Prop := quoteTokenUptoRow.holds Try.pinned (OpenSpec.upto quoteTokenSpec)

/-- 'correctorlaw6.ScanTokens', WHERE WHAT IT READS IS OF BULK AT MOST 1048576: true; the input reads as it did. -/
def scanTokensUptoRow : OpenClaim := { program := "ytnffgdbkiefinaa", sum := "5a1f831f1482fcceb86c331ce07ea9860e56257cd8d71ab29cb263206cfb1ec6", func := "corrector/correctorlaw6.ScanTokens", spec := "scanTokens", apart := false, narrowed := true }
def ScanTokensUptoSaid : Prop := scanTokensUptoRow.holds Try.pinned (OpenSpec.upto scanTokensSpec)

/-- 'correctorlaw6.ScanRows', WHERE WHAT IT READS IS OF BULK AT MOST 1048576: true; the input reads as it did. -/
def scanRowsUptoRow : OpenClaim := { program := "ytnffgdbkiefinaa", sum := "5a1f831f1482fcceb86c331ce07ea9860e56257cd8d71ab29cb263206cfb1ec6", func := "corrector/correctorlaw6.ScanRows", spec := "scanRows", apart := false, narrowed := true }
def ScanRowsUptoSaid : Prop := scanRowsUptoRow.holds Try.pinned (OpenSpec.upto scanRowsSpec)

/-- 'correctorlaw6.ScanOne', WHERE WHAT IT READS IS OF BULK AT MOST 1048576: true; the input reads as it did. -/
def scanOneUptoRow : OpenClaim := { program := "ytnffgdbkiefinaa", sum := "5a1f831f1482fcceb86c331ce07ea9860e56257cd8d71ab29cb263206cfb1ec6", func := "corrector/correctorlaw6.ScanOne", spec := "scanOne", apart := false, narrowed := true }
def ScanOneUptoSaid : Prop := scanOneUptoRow.holds Try.pinned (OpenSpec.upto scanOneSpec)

/-- 'correctorlaw6.ScanKinds', WHERE WHAT IT READS IS OF BULK AT MOST 1048576: true; the input reads as it did. -/
def scanKindsUptoRow : OpenClaim := { program := "ytnffgdbkiefinaa", sum := "5a1f831f1482fcceb86c331ce07ea9860e56257cd8d71ab29cb263206cfb1ec6", func := "corrector/correctorlaw6.ScanKinds", spec := "scanKinds", apart := false, narrowed := true }
def ScanKindsUptoSaid : Prop := scanKindsUptoRow.holds Try.pinned (OpenSpec.upto scanKindsSpec)

/-- 'correctorlaw6.ScanTexts', WHERE WHAT IT READS IS OF BULK AT MOST 1048576: true; the input reads as it did. -/
def scanTextsUptoRow : OpenClaim := { program := "ytnffgdbkiefinaa", sum := "5a1f831f1482fcceb86c331ce07ea9860e56257cd8d71ab29cb263206cfb1ec6", func := "corrector/correctorlaw6.ScanTexts", spec := "scanTexts", apart := false, narrowed := true }
def ScanTextsUptoSaid : Prop := scanTextsUptoRow.holds Try.pinned (OpenSpec.upto scanTextsSpec)

/-- 'correctorlaw6.ScanMarks', WHERE WHAT IT READS IS OF BULK AT MOST 1048576: true; the input reads as it did. -/
def scanMarksUptoRow : OpenClaim := { program := "ytnffgdbkiefinaa", sum := "5a1f831f1482fcceb86c331ce07ea9860e56257cd8d71ab29cb263206cfb1ec6", func := "corrector/correctorlaw6.ScanMarks", spec := "scanMarks", apart := false, narrowed := true }
def ScanMarksUptoSaid : Prop := scanMarksUptoRow.holds Try.pinned (OpenSpec.upto scanMarksSpec)

/-- 'correctorlaw6.ScanLong', WHERE WHAT IT READS IS OF BULK AT MOST 1048576: true; the input reads as it did. -/
def scanLongUptoRow : OpenClaim := { program := "ytnffgdbkiefinaa", sum := "5a1f831f1482fcceb86c331ce07ea9860e56257cd8d71ab29cb263206cfb1ec6", func := "corrector/correctorlaw6.ScanLong", spec := "scanLong", apart := false, narrowed := true }
def ScanLongUptoSaid : Prop := scanLongUptoRow.holds Try.pinned (OpenSpec.upto scanLongSpec)

/-- 'correctorlaw8.BlockLiteral', WHERE WHAT IT READS IS OF BULK AT MOST 1048576: true; the input reads as it did. -/
def blockLiteralUptoRow : OpenClaim := { program := "ytnffgdbkiefinaa", sum := "5a1f831f1482fcceb86c331ce07ea9860e56257cd8d71ab29cb263206cfb1ec6", func := "corrector/correctorlaw8.BlockLiteral", spec := "blockLiteral", inPlace := ["internal/bytealg.IndexByteString", "internal/bytealg.IndexString", "internal/abi.NoEscape", "internal/bytealg.MakeNoZero"], named := ["internal/bytealg.MaxLen"], apart := false, narrowed := true }
def BlockLiteralUptoSaid : Prop := blockLiteralUptoRow.holds Try.pinned (OpenSpec.upto blockLiteralSpec)

/-- 'correctorlaw8.BlockFolds', WHERE WHAT IT READS IS OF BULK AT MOST 1048576: true; the input reads as it did. -/
def blockFoldsUptoRow : OpenClaim := { program := "ytnffgdbkiefinaa", sum := "5a1f831f1482fcceb86c331ce07ea9860e56257cd8d71ab29cb263206cfb1ec6", func := "corrector/correctorlaw8.BlockFolds", spec := "blockFolds", inPlace := ["internal/bytealg.IndexByteString", "internal/bytealg.IndexString", "internal/abi.NoEscape", "internal/bytealg.MakeNoZero"], named := ["internal/bytealg.MaxLen"], apart := false, narrowed := true }
def BlockFoldsUptoSaid : Prop := blockFoldsUptoRow.holds Try.pinned (OpenSpec.upto blockFoldsSpec)

/-- 'correctorlaw8.BlockEmpty', WHERE WHAT IT READS IS OF BULK AT MOST 1048576: true; the input reads as it did. -/
def blockEmptyUptoRow : OpenClaim := { program := "ytnffgdbkiefinaa", sum := "5a1f831f1482fcceb86c331ce07ea9860e56257cd8d71ab29cb263206cfb1ec6", func := "corrector/correctorlaw8.BlockEmpty", spec := "blockEmpty", inPlace := ["internal/bytealg.IndexByteString", "internal/bytealg.IndexString", "internal/abi.NoEscape", "internal/bytealg.MakeNoZero"], named := ["internal/bytealg.MaxLen"], apart := false, narrowed := true }
def BlockEmptyUptoSaid : Prop := blockEmptyUptoRow.holds Try.pinned (OpenSpec.upto blockEmptySpec)

/-- 'correctorlaw8.BlockChomps', WHERE WHAT IT READS IS OF BULK AT MOST 1048576: true; the input reads as it did. -/
def blockChompsUptoRow : OpenClaim := { program := "ytnffgdbkiefinaa", sum := "5a1f831f1482fcceb86c331ce07ea9860e56257cd8d71ab29cb263206cfb1ec6", func := "corrector/correctorlaw8.BlockChomps", spec := "blockChomps", inPlace := ["internal/bytealg.IndexByteString", "internal/bytealg.IndexString", "internal/abi.NoEscape", "internal/bytealg.MakeNoZero"], named := ["internal/bytealg.MaxLen"], apart := false, narrowed := true }
def BlockChompsUptoSaid : Prop := blockChompsUptoRow.holds Try.pinned (OpenSpec.upto blockChompsSpec)

/-- 'correctorlaw8.BlockIndent', WHERE WHAT IT READS IS OF BULK AT MOST 1048576: true; the input reads as it did. -/
def blockIndentUptoRow : OpenClaim := { program := "ytnffgdbkiefinaa", sum := "5a1f831f1482fcceb86c331ce07ea9860e56257cd8d71ab29cb263206cfb1ec6", func := "corrector/correctorlaw8.BlockIndent", spec := "blockIndent", inPlace := ["internal/bytealg.IndexByteString", "internal/bytealg.IndexString", "internal/abi.NoEscape", "internal/bytealg.MakeNoZero"], named := ["internal/bytealg.MaxLen"], apart := false, narrowed := true }
def BlockIndentUptoSaid : Prop := blockIndentUptoRow.holds Try.pinned (OpenSpec.upto blockIndentSpec)

end Rows
end Go.Proofs.Ytnffgdbkiefinaa
