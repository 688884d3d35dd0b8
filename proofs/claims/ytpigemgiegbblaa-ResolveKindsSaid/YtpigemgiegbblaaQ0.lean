/- Proved here, in the forms of the print's contracts: what each Go function answers, and the rows of the laws over it; by a program and by hand. -/
import Derived.Test.YtpigemgiegbblaaProg
import Derived.Below
import Derived.Deep.Draws
import Derived.Deep.AppendLies
import Derived.Maps.AppendAt
import Derived.OwnWalk
import Derived.Laws.BytesArg
import Derived.Laws.MakeOwn
import Derived.Laws.OwnMore
import Derived.Deep.OwnRows
import Derived.Tactics
import Derived.Lib.ConvBytes
import Derived.Laws.Slices
import Derived.WalkKit
import Derived.KernelRfl
import Derived.RowKit3
import Derived.Deep.LoopGhost
import Derived.Deep.QuietTactic
import Derived.BigQuiet
import Derived.WideLaws
import Derived.Deep.DeepCutAuto
import Derived.Deep.CutBlock
import Derived.Deep.RegionHeld3
import Derived.Laws.Rows
import Derived.Lib.AppendStr
import Derived.ArgAppend
import Derived.Laws.IdiomCopy
import Derived.OrdersHeld
import Derived.Laws.BitsLemmas
import Derived.RowKit
import Derived.Test.YtpigemgiegbblaaH
import Derived.Test.YtpigemgiegbblaaWWords
import Derived.Test.YtpigemgiegbblaaWLast
import Derived.Test.YtpigemgiegbblaaWTab
import Derived.Test.YtpigemgiegbblaaWFour
import Derived.Test.YtpigemgiegbblaaWQPut
import Derived.Test.YtpigemgiegbblaaWApart
import Derived.Test.YtpigemgiegbblaaWArr
import Derived.Test.YtpigemgiegbblaaWZeros
import Derived.Test.YtpigemgiegbblaaWFoot
import Derived.Test.YtpigemgiegbblaaWKept
import Derived.Test.YtpigemgiegbblaaWShare
import Derived.Test.YtpigemgiegbblaaWN
import Derived.Test.YtpigemgiegbblaaWFootNe
import Derived.Test.YtpigemgiegbblaaWAt
import Derived.Test.YtpigemgiegbblaaWEqStruct
import Derived.Test.YtpigemgiegbblaaWRepsOne
import Derived.Test.YtpigemgiegbblaaWInv
import Derived.Test.YtpigemgiegbblaaWInvWords
import Derived.Test.YtpigemgiegbblaaWGuard
import Derived.Test.YtpigemgiegbblaaWNEv
import Derived.Test.YtpigemgiegbblaaWMore
namespace Go.Proofs.Ytpigemgiegbblaa.Q
open Go.RowKit Go.Proofs.YtpigemgiegbblaaW.PrintWords Go.Proofs.YtpigemgiegbblaaW.PrintLast Go.Proofs.YtpigemgiegbblaaW.PrintMore
attribute [local go_sem] max2_int min2_int max_two min_two max_three min_three max_four min_four   -- for this text's walks alone
set_option linter.unusedVariables false
set_option linter.unusedSimpArgs false



def errW : Option Int → Value
  | none => .nilIface
  | some c => .iface 0 (.int .i64 c)
theorem errW_none : errW none = .nilIface := rfl
theorem errW_some (c : Int) : errW (some c) = .iface 0 (.int .i64 c) := rfl

theorem info3 : (Try.prog.info? 3).map (fun i => (i.zero, i.size, i.bytes)) = some (some (.int .i64 0), 1, 8) := by kernel_rfl
theorem info5 : (Try.prog.info? 5).map (fun i => (i.zero, i.size, i.bytes)) = some (some (.int .u8 0), 1, 1) := by kernel_rfl
theorem info9 : (Try.prog.info? 9).map (fun i => (i.zero, i.size, i.bytes)) = some (some (.string ⟨#[]⟩), 1, 16) := by kernel_rfl
-- the values' own types

end Go.Proofs.Ytpigemgiegbblaa.Q
