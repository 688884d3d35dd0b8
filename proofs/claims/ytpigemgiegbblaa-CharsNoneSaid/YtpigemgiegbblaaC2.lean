/- The chapter's example; a number from 0 to n - 1. -/
import Derived.Test.YtpigemgiegbblaaC1
import Derived.Test.YtpigemgiegbblaaQcorrectorlaw5
namespace Go.Proofs.Ytpigemgiegbblaa.Pure
open Go.RowKit Go.Proofs.Ytpigemgiegbblaa.Q Go.Proofs.YtpigemgiegbblaaW.PrintWords Go.Proofs.YtpigemgiegbblaaW.PrintLast
set_option linter.unusedVariables false
set_option linter.unusedSimpArgs false
theorem known5 (k : Nat) (hk : 30 < k) : correctorlaw5_known.f k = some true := by
  unfold correctorlaw5_known.f
  rw [escape_eq k hk, show esc (⟨#[92, 120, 52, 49]⟩ : ByteArray) = (⟨#[65]⟩, 4) by decide +kernel]
  simp only [Option.bind_some, ByteArray.toList_eq]
  rfl
theorem within5 (a n : Int) (h0 : 0 < n) (h1 : n ≤ 1000) : ∃ k, correctorlaw5_within.f a n = some k ∧ 0 ≤ k ∧ k < n := by
  unfold correctorlaw5_within.f
  rw [if_neg (by omega)]
  have h2 := Int.tmod_lt_of_pos a h0
  have h3 : -n < Int.tmod a n := by
    have := Int.tmod_lt_of_pos (-a) h0
    rw [Int.neg_tmod] at this
    omega
  by_cases c : Int.tmod a n < 0
  · rw [if_pos c, w64 (by omega) (by omega)]
    exact ⟨_, rfl, by omega, by omega⟩
  · rw [if_neg c]
    exact ⟨_, rfl, by omega, by omega⟩
end Go.Proofs.Ytpigemgiegbblaa.Pure
