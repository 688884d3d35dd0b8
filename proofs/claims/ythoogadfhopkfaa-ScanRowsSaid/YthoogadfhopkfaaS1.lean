/- Chapter 6: the chapter's example, and a number within bounds. -/
import Derived.Test.YthoogadfhopkfaaQcorrectorlaw6
namespace Go.Proofs.Ythoogadfhopkfaa.Pure
open Go.RowKit Go.Proofs.Ythoogadfhopkfaa.Q Go.Proofs.YthoogadfhopkfaaW.PrintWords Go.Proofs.YthoogadfhopkfaaW.PrintLast Go.Proofs.YthoogadfhopkfaaW.PrintMore
set_option linter.unusedVariables false
set_option linter.unusedSimpArgs false
theorem known6 : correctorlaw6_known.f = some true := by decide +kernel
theorem within6 (a n : Int) (h : 0 < n) (h2 : n ≤ 1000000) : ∃ r, correctorlaw6_within.f a n = some r ∧ 0 ≤ r ∧ r < n := by
  unfold correctorlaw6_within.f
  rw [if_neg (by omega)]
  have hlt := Int.tmod_lt_of_pos a h
  have hgt : -n < Int.tmod a n := by
    have h1 := Int.tmod_lt_of_pos (-a) h
    rw [Int.neg_tmod] at h1
    omega
  by_cases c : Int.tmod a n < 0
  · rw [if_pos c, show wrap64 (Int.tmod a n + n) = Int.tmod a n + n by unfold wrap64; omega]
    exact ⟨_, rfl, by omega, by omega⟩
  · rw [if_neg c]
    exact ⟨_, rfl, by omega, by omega⟩
end Go.Proofs.Ythoogadfhopkfaa.Pure
