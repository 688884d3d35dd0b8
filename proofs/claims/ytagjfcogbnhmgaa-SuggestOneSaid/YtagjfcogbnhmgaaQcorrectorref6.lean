/- Proved here, in the forms of the print's contracts: what each Go function answers, and the rows of the laws over it; by a program and by hand. -/
import Derived.Test.YtagjfcogbnhmgaaQ0
import Derived.Test.YtagjfcogbnhmgaaRFA
namespace Go.Proofs.Ytagjfcogbnhmgaa.Q
open Go.RowKit Go.Proofs.YtagjfcogbnhmgaaW.PrintWords Go.Proofs.YtagjfcogbnhmgaaW.PrintLast Go.Proofs.YtagjfcogbnhmgaaW.PrintMore
attribute [local go_sem] max2_int min2_int max_two min_two max_three min_three max_four min_four   -- for this text's walks alone
set_option linter.unusedVariables false
set_option linter.unusedSimpArgs false

/-! ### correctorref6_Tokens: function 5 (by hand) -/
-- WANTS Derived.Test.YtagjfcogbnhmgaaRFA
-- wants info5, info48 of the texts' head
def correctorref6_Tokens.f (l0 : List Int) : Option (List S48) := Go.Proofs.Ytagjfcogbnhmgaa.Rf.toksR l0
theorem correctorref6_Tokens.calls (A0 : Option Addr) (c0 : Nat) (l0 : List Int) (r : List S48) (w : World) (hr0 : Kd.C (Kd.int .u8) w A0 l0.length l0) (hc0 : l0.length ≤ c0) (h : correctorref6_Tokens.f l0 = some r) :
    Calls Try.prog 5 #[.slice A0 l0.length c0] w fun e w' => ∃ v0_ : Value, e = .returned v0_ ∧ Kd.R k48 48 w' w.heap.size (fun _ => True) v0_ r ∧ Below w.heap.size w w' :=
  Go.Proofs.Ytagjfcogbnhmgaa.Rf.tokens_calls A0 c0 l0 r w hr0 hc0 h

end Go.Proofs.Ytagjfcogbnhmgaa.Q
