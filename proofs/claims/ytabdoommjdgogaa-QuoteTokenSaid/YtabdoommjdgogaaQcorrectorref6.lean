/- Proved here, in the forms of the print's contracts: what each Go function answers, and the rows of the laws over it; by a program and by hand. -/
import Derived.Test.YtabdoommjdgogaaQ0
import Derived.Test.YtabdoommjdgogaaRFA
namespace Go.Proofs.Ytabdoommjdgogaa.Q
open Go.RowKit Go.Proofs.YtabdoommjdgogaaW.PrintWords Go.Proofs.YtabdoommjdgogaaW.PrintLast Go.Proofs.YtabdoommjdgogaaW.PrintMore
attribute [local go_sem] max2_int min2_int max_two min_two max_three min_three max_four min_four   -- for this text's walks alone
set_option linter.unusedVariables false
set_option linter.unusedSimpArgs false

/-! ### correctorref6_Tokens: function 16 (by hand) -/
-- WANTS Derived.Test.YtabdoommjdgogaaRFA
-- wants info5, info39 of the texts' head
def correctorref6_Tokens.f (l0 : List Int) : Option (List S39) := Go.Proofs.Ytabdoommjdgogaa.Rf.toksR l0
theorem correctorref6_Tokens.calls (A0 : Option Addr) (c0 : Nat) (l0 : List Int) (r : List S39) (w : World) (hr0 : Kd.C (Kd.int .u8) w A0 l0.length l0) (hc0 : l0.length ≤ c0) (h : correctorref6_Tokens.f l0 = some r) :
    Calls Try.prog 16 #[.slice A0 l0.length c0] w fun e w' => ∃ v0_ : Value, e = .returned v0_ ∧ Kd.R k39 39 w' w.heap.size (fun _ => True) v0_ r ∧ Below w.heap.size w w' :=
  Go.Proofs.Ytabdoommjdgogaa.Rf.tokens_calls A0 c0 l0 r w hr0 hc0 h

end Go.Proofs.Ytabdoommjdgogaa.Q
