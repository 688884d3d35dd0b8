/- SuggestOne: each of the diagnostics and findings has just such an edit. -/
import Derived.Test.YtagjfcogbnhmgaaQLawSuggestOne
namespace Go.Proofs.Ytagjfcogbnhmgaa.Pure
open Go.RowKit Go.Proofs.Ytagjfcogbnhmgaa.Q Go.Proofs.YtagjfcogbnhmgaaW.PrintWords Go.Proofs.YtagjfcogbnhmgaaW.PrintLast Go.Proofs.YtagjfcogbnhmgaaW.PrintMore
set_option maxRecDepth 100000
theorem known20 : correctorlaw20_known.f = some true := by decide +kernel
theorem within20 (a n : Int) (h : 0 < n) (h2 : n ≤ 1000000) : ∃ r, correctorlaw20_within.f a n = some r ∧ 0 ≤ r ∧ r < n := by
  unfold correctorlaw20_within.f
  rw [if_neg (by omega)]
  have hlt := Int.tmod_lt_of_pos a h
  have hgt : -n < Int.tmod a n := by
    have h1 := Int.tmod_lt_of_pos (-a) h
    rw [Int.neg_tmod] at h1
    omega
  by_cases c : Int.tmod a n < 0
  · rw [if_pos c, show wrap64 (Int.tmod a n + n) = Int.tmod a n + n by unfold wrap64; omega]
    exact ⟨_, rfl, by omega, by omega⟩
  · rw [if_neg c]
    exact ⟨_, rfl, by omega, by omega⟩
theorem within20_self : ∀ j : Nat, j < 6 → correctorlaw20_within.f (j : Int) 6 = some (j : Int) := by decide +kernel
theorem one_all : ∀ j : Nat, j < 6 → correctorlaw20_SuggestOne.f (j : Int) = some true := by decide +kernel
theorem one_at (a j : Int) (h : correctorlaw20_within.f a 6 = correctorlaw20_within.f j 6) : correctorlaw20_SuggestOne.f a = correctorlaw20_SuggestOne.f j := by
  have h' : ∀ n : Int, n = 6 → correctorlaw20_within.f a n = correctorlaw20_within.f j n := fun n hn => by rw [hn]; exact h
  unfold correctorlaw20_SuggestOne.f
  rw [known20]
  repeat rw [Option.bind_some]
  repeat rw [if_pos rfl]
  repeat rw [Option.bind_some]
  congr 1
  funext t
  repeat rw [Option.bind_some]
  exact congrArg (fun o => Option.bind o _) (h' _ rfl)
theorem SuggestOne : correctorlaw20_SuggestOne.Pure := by
  intro a0 _
  obtain ⟨t, ht, h0, h1⟩ := within20 a0 6 (by decide) (by decide)
  obtain ⟨j, rfl⟩ : ∃ j : Nat, t = j := ⟨t.toNat, by omega⟩
  rw [one_at a0 j (ht.trans (within20_self j (by omega)).symm)]
  exact one_all j (by omega)
end Go.Proofs.Ytagjfcogbnhmgaa.Pure
