/-
  No cell of these rows narrows 'for every input' (looked for: loops, veiled, ifaces, maps, wideKeys, modest, calm, conditions, laid).
  DERIVED. THE GIVEN ROWS OF THIS SEAT. 6 by the template 'for every input the law returns true; each argument reads behind the call as it read before'; 0 by the template 'total and deterministic' (their statements: YtabdoommjdgogaaTotals.lean).
  GIVEN WITH THE SEED: the statements are not yours to turn. If you find one false, say at which input.
  Laid BY PROGRAM, IN A SANDBOX (cutbox-rows.mjs): the forced cells as the released guide's own fill.sh prints them over the translation 2d396b02d951e0b1… (all of the seat's roots in one cut). By AI agents, Wed Nov 11 2026. No macro, syntax, notation, axiom, sorry.
-/
import Derived.Test.YtabdoommjdgogaaChecked
import GoSem.Claim
import GoSem.ClaimJoined
import GoSem.ClaimMapViews
import Derived.JoinedTies
import Derived.KernelRfl
namespace Go.Proofs.Ytabdoommjdgogaa
/- THE CELL 'sum', in the pinned program and in every row, IS THE sha256 OF THE DUMP (.gsa) THAT YtabdoommjdgogaaProg.lean LOADS. Nothing in Lean hashes anything: it is a label: what it is worth is what the hold of that sum in a sandbox is worth. -/
noncomputable def Try.pinned : Pinned := { name := "ytabdoommjdgogaa", sum := "2d396b02d951e0b12596d3ff4677e4acfa71ba7a069355aa4cdf9f61297b4d4f", checked := Try.checked }
namespace Rows
def none {H : Type} : Left H := { results := [], args := [] }

/-- 'correctorlaw7.QuoteTexts': WHATEVER THE INPUT: true; the input reads as it did. -/
def quoteTextsSpec : ChangeSpec := { name := "quoteTexts", fn := fun _ => fun
  | [d1, d2, d3] => { results := [.lit (.bool true)], args := [d1, d2, d3] }
  | _ => none }
def quoteTextsRow : OpenClaim := { program := "ytabdoommjdgogaa", sum := "2d396b02d951e0b12596d3ff4677e4acfa71ba7a069355aa4cdf9f61297b4d4f", func := "corrector/correctorlaw7.QuoteTexts", spec := "quoteTexts", unfollowed := true, recurses := true, apart := false }
def QuoteTextsSaid : Prop := quoteTextsRow.holds Try.pinned (OpenSpec.ofChange quoteTextsSpec)

/-- ITS FALSE NEIGHBOUR: 'it returns false'. Refute it at one input. -/
def quoteTextsWrong : ChangeSpec := { name := "quoteTexts", fn := fun _ => fun
  | [d1, d2, d3] => { results := [.lit (.bool false)], args := [d1, d2, d3] }
  | _ => none }
def QuoteTextsWrongFalsely : Prop := quoteTextsRow.holds Try.pinned (OpenSpec.ofChange quoteTextsWrong)

/-- 'correctorlaw7.QuoteSingle': WHATEVER THE INPUT: true; the input reads as it did. -/
def quoteSingleSpec : ChangeSpec := { name := "quoteSingle", fn := fun _ => fun
  | [d] => { results := [.lit (.bool true)], args := [d] }
  | _ => none }
def quoteSingleRow : OpenClaim := { program := "ytabdoommjdgogaa", sum := "2d396b02d951e0b12596d3ff4677e4acfa71ba7a069355aa4cdf9f61297b4d4f", func := "corrector/correctorlaw7.QuoteSingle", spec := "quoteSingle", unfollowed := true, recurses := true, apart := false }
def QuoteSingleSaid : Prop := quoteSingleRow.holds Try.pinned (OpenSpec.ofChange quoteSingleSpec)

/-- ITS FALSE NEIGHBOUR: 'it returns false'. Refute it at one input. -/
def quoteSingleWrong : ChangeSpec := { name := "quoteSingle", fn := fun _ => fun
  | [d] => { results := [.lit (.bool false)], args := [d] }
  | _ => none }
def QuoteSingleWrongFalsely : Prop := quoteSingleRow.holds Try.pinned (OpenSpec.ofChange quoteSingleWrong)

/-- 'correctorlaw7.QuoteBad': WHATEVER THE INPUT: true; the input reads as it did. -/
def quoteBadSpec : ChangeSpec := { name := "quoteBad", fn := fun _ => fun
  | [d] => { results := [.lit (.bool true)], args := [d] }
  | _ => none }
def quoteBadRow : OpenClaim := { program := "ytabdoommjdgogaa", sum := "2d396b02d951e0b12596d3ff4677e4acfa71ba7a069355aa4cdf9f61297b4d4f", func := "corrector/correctorlaw7.QuoteBad", spec := "quoteBad", unfollowed := true, recurses := true, apart := false }
def QuoteBadSaid : Prop := quoteBadRow.holds Try.pinned (OpenSpec.ofChange quoteBadSpec)

/-- ITS FALSE NEIGHBOUR: 'it returns false'. Refute it at one input. -/
def quoteBadWrong : ChangeSpec := { name := "quoteBad", fn := fun _ => fun
  | [d] => { results := [.lit (.bool false)], args := [d] }
  | _ => none }
def QuoteBadWrongFalsely : Prop := quoteBadRow.holds Try.pinned (OpenSpec.ofChange quoteBadWrong)

/-- 'correctorlaw7.QuoteOther': WHATEVER THE INPUT: true; the input reads as it did. -/
def quoteOtherSpec : ChangeSpec := { name := "quoteOther", fn := fun _ => fun
  | [d1, d2] => { results := [.lit (.bool true)], args := [d1, d2] }
  | _ => none }
def quoteOtherRow : OpenClaim := { program := "ytabdoommjdgogaa", sum := "2d396b02d951e0b12596d3ff4677e4acfa71ba7a069355aa4cdf9f61297b4d4f", func := "corrector/correctorlaw7.QuoteOther", spec := "quoteOther", unfollowed := true, recurses := true, apart := false }
def QuoteOtherSaid : Prop := quoteOtherRow.holds Try.pinned (OpenSpec.ofChange quoteOtherSpec)

/-- ITS FALSE NEIGHBOUR: 'it returns false'. Refute it at one input. -/
def quoteOtherWrong : ChangeSpec := { name := "quoteOther", fn := fun _ => fun
  | [d1, d2] => { results := [.lit (.bool false)], args := [d1, d2] }
  | _ => none }
def QuoteOtherWrongFalsely : Prop := quoteOtherRow.holds Try.pinned (OpenSpec.ofChange quoteOtherWrong)

/-- 'correctorlaw7.QuoteWrites': WHATEVER THE INPUT: true; the input reads as it did. -/
def quoteWritesSpec : ChangeSpec := { name := "quoteWrites", fn := fun _ => fun
  | [d] => { results := [.lit (.bool true)], args := [d] }
  | _ => none }
def quoteWritesRow : OpenClaim := { program := "ytabdoommjdgogaa", sum := "2d396b02d951e0b12596d3ff4677e4acfa71ba7a069355aa4cdf9f61297b4d4f", func := "corrector/correctorlaw7.QuoteWrites", spec := "quoteWrites", inPlace := ["internal/abi.NoEscape"], unfollowed := true, recurses := true, apart := false }
def QuoteWritesSaid : Prop := quoteWritesRow.holds Try.pinned (OpenSpec.ofChange quoteWritesSpec)

/-- ITS FALSE NEIGHBOUR: 'it returns false'. Refute it at one input. -/
def quoteWritesWrong : ChangeSpec := { name := "quoteWrites", fn := fun _ => fun
  | [d] => { results := [.lit (.bool false)], args := [d] }
  | _ => none }
def QuoteWritesWrongFalsely : Prop := quoteWritesRow.holds Try.pinned (OpenSpec.ofChange quoteWritesWrong)

/-- 'correctorlaw7.QuoteToken': WHATEVER THE INPUT: true; the input reads as it did. -/
def quoteTokenSpec : ChangeSpec := { name := "quoteToken", fn := fun _ => fun
  | [d] => { results := [.lit (.bool true)], args := [d] }
  | _ => none }
def quoteTokenRow : OpenClaim := { program := "ytabdoommjdgogaa", sum := "2d396b02d951e0b12596d3ff4677e4acfa71ba7a069355aa4cdf9f61297b4d4f", func := "corrector/correctorlaw7.QuoteToken", spec := "quoteToken", inPlace := ["internal/abi.NoEscape"], unfollowed := true, recurses := true, apart := false }
def QuoteTokenSaid : Prop := quoteTokenRow.holds Try.pinned (OpenSpec.ofChange quoteTokenSpec)

/-- ITS FALSE NEIGHBOUR: 'it returns false'. Refute it at one input. -/
def quoteTokenWrong : ChangeSpec := { name := "quoteToken", fn := fun _ => fun
  | [d] => { results := [.lit (.bool false)], args := [d] }
  | _ => none }
def QuoteTokenWrongFalsely : Prop := quoteTokenRow.holds Try.pinned (OpenSpec.ofChange quoteTokenWrong)

/- THE SECOND FORM. 'bulk': how many values and letters a reading holds, each counted each time it is reached (what is shared counts as often as it is met; a slice's spare places count too). A statement '..UptoSaid' is the law's where the arguments, and the package variables that the reading takes, are together of bulk at most 1048576: NARROWER than '..Said'. Prove '..Said' where nothing that the law and all that it calls make is longer than what came in: it says more and counts as full. Else prove '..UptoSaid'. A law counts once. -/
mutual
def uptoBulk {H : Type} : DataW H → Nat
  | .lit (.string bytes) => bytes.length + 1
  | .lit _ => 1
  | .nil => 1
  | .ptr d => uptoBulk d + 1
  | .slice elems spare => uptoBulkAll elems + uptoBulkAll spare + 1
  | .agg parts => uptoBulkAll parts + 1
  | .iface _ d => uptoBulk d + 1
  | .map entries => uptoBulkEntries entries + 1
  | .held _ => 1
def uptoBulkAll {H : Type} : List (DataW H) → Nat
  | [] => 0
  | d :: r => uptoBulk d + uptoBulkAll r
def uptoBulkEntries {H : Type} : List (Lit × DataW H) → Nat
  | [] => 0
  | x :: r => uptoBulkEntry x + uptoBulkEntries r
def uptoBulkEntry {H : Type} : Lit × DataW H → Nat
  | (.string bytes, d) => bytes.length + uptoBulk d + 1
  | (_, d) => uptoBulk d + 1
 end
def uptoSmall : (H : Type) → List (DataW H) → Bool := fun _ ds => decide (uptoBulkAll ds ≤ 1048576)
def OpenSpec.upto (s : _root_.Go.ChangeSpec) : _root_.Go.OpenSpec := { _root_.Go.OpenSpec.ofChange s with cond := some uptoSmall }

/-- 'correctorlaw7.QuoteTexts', WHERE WHAT IT READS IS OF BULK AT MOST 1048576: true; the input reads as it did. -/
def quoteTextsUptoRow : OpenClaim := { program := "ytabdoommjdgogaa", sum := "2d396b02d951e0b12596d3ff4677e4acfa71ba7a069355aa4cdf9f61297b4d4f", func := "corrector/correctorlaw7.QuoteTexts", spec := "quoteTexts", unfollowed := true, recurses := true, apart := false, narrowed := true }
def QuoteTextsUptoSaid : Prop := quoteTextsUptoRow.holds Try.pinned (OpenSpec.upto quoteTextsSpec)

/-- 'correctorlaw7.QuoteSingle', WHERE WHAT IT READS IS OF BULK AT MOST 1048576: true; the input reads as it did. -/
def quoteSingleUptoRow : OpenClaim := { program := "ytabdoommjdgogaa", sum := "2d396b02d951e0b12596d3ff4677e4acfa71ba7a069355aa4cdf9f61297b4d4f", func := "corrector/correctorlaw7.QuoteSingle", spec := "quoteSingle", unfollowed := true, recurses := true, apart := false, narrowed := true }
def QuoteSingleUptoSaid : Prop := quoteSingleUptoRow.holds Try.pinned (OpenSpec.upto quoteSingleSpec)

/-- 'correctorlaw7.QuoteBad', WHERE WHAT IT READS IS OF BULK AT MOST 1048576: true; the input reads as it did. -/
def quoteBadUptoRow : OpenClaim := { program := "ytabdoommjdgogaa", sum := "2d396b02d951e0b12596d3ff4677e4acfa71ba7a069355aa4cdf9f61297b4d4f", func := "corrector/correctorlaw7.QuoteBad", spec := "quoteBad", unfollowed := true, recurses := true, apart := false, narrowed := true }
def QuoteBadUptoSaid : Prop := quoteBadUptoRow.holds Try.pinned (OpenSpec.upto quoteBadSpec)

/-- 'correctorlaw7.QuoteOther', WHERE WHAT IT READS IS OF BULK AT MOST 1048576: true; the input reads as it did. -/
def quoteOtherUptoRow : OpenClaim := { program := "ytabdoommjdgogaa", sum := "2d396b02d951e0b12596d3ff4677e4acfa71ba7a069355aa4cdf9f61297b4d4f", func := "corrector/correctorlaw7.QuoteOther", spec := "quoteOther", unfollowed := true, recurses := true, apart := false, narrowed := true }
def QuoteOtherUptoSaid : Prop := quoteOtherUptoRow.holds Try.pinned (OpenSpec.upto quoteOtherSpec)

/-- 'correctorlaw7.QuoteWrites', WHERE WHAT IT READS IS OF BULK AT MOST 1048576: true; the input reads as it did. -/
def quoteWritesUptoRow : OpenClaim := { program := "ytabdoommjdgogaa", sum := "2d396b02d951e0b12596d3ff4677e4acfa71ba7a069355aa4cdf9f61297b4d4f", func := "corrector/correctorlaw7.QuoteWrites", spec := "quoteWrites", inPlace := ["internal/abi.NoEscape"], unfollowed := true, recurses := true, apart := false, narrowed := true }
def QuoteWritesUptoSaid : Prop := quoteWritesUptoRow.holds Try.pinned (OpenSpec.upto quoteWritesSpec)

/-- 'correctorlaw7.QuoteToken', WHERE WHAT IT READS IS OF BULK AT MOST 1048576: true; the input reads as it did. -/
def quoteTokenUptoRow : OpenClaim := { program := "ytabdoommjdgogaa", sum := "2d396b02d951e0b12596d3ff4677e4acfa71ba7a069355aa4cdf9f61297b4d4f", func := "corrector/correctorlaw7.QuoteToken", spec := "quoteToken", inPlace := ["internal/abi.NoEscape"], unfollowed := true, recurses := true, apart := false, narrowed := true }
def QuoteTokenUptoSaid : Prop := quoteTokenUptoRow.holds Try.pinned (OpenSpec.upto quoteTokenSpec)

end Rows
end Go.Proofs.Ytabdoommjdgogaa
