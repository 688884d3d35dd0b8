/- Proved here, in the forms of the print's contracts: what each Go function answers, and the rows of the laws over it; by a program and by hand. -/
import Derived.Test.YthoogadfhopkfaaQ0
import Derived.Test.YthoogadfhopkfaaSCD
namespace Go.Proofs.Ythoogadfhopkfaa.Q
open Go.RowKit Go.Proofs.YthoogadfhopkfaaW.PrintWords Go.Proofs.YthoogadfhopkfaaW.PrintLast Go.Proofs.YthoogadfhopkfaaW.PrintMore
attribute [local go_sem] max2_int min2_int max_two min_two max_three min_three max_four min_four   -- for this text's walks alone
set_option linter.unusedVariables false
set_option linter.unusedSimpArgs false

/-! ### scan_Tokens: function 13 (by hand) -/
-- WANTS Derived.Test.YthoogadfhopkfaaSCD
-- wants info5, info32 of the texts' head
def scan_Tokens.f (l0 : List Int) : Option (List S32) := Go.Proofs.Ythoogadfhopkfaa.Sc.toksO l0
theorem scan_Tokens.calls (A0 : Option Addr) (c0 : Nat) (l0 : List Int) (r : List S32) (w : World) (hr0 : Kd.C (Kd.int .u8) w A0 l0.length l0) (hc0 : l0.length ≤ c0) (h : scan_Tokens.f l0 = some r) :
    Calls Try.prog 13 #[.slice A0 l0.length c0] w fun e w' => ∃ v0_ : Value, e = .returned v0_ ∧ Kd.R k32 32 w' w.heap.size (fun _ => True) v0_ r ∧ Below w.heap.size w w' :=
  Go.Proofs.Ythoogadfhopkfaa.Sc.tokens_calls A0 c0 l0 r w hr0 hc0 h

end Go.Proofs.Ythoogadfhopkfaa.Q
