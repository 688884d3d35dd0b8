/- QuoteOther: of other kinds, and of nothing, nothing is said. For every input. -/
import Derived.Test.YtabdoommjdgogaaD3
import Derived.Test.YtabdoommjdgogaaQLawQuoteOther
namespace Go.Proofs.Ytabdoommjdgogaa.Pure
open Go.RowKit Go.Proofs.Ytabdoommjdgogaa.Q Go.Proofs.YtabdoommjdgogaaW.PrintWords Go.Proofs.YtabdoommjdgogaaW.PrintLast
set_option linter.unusedVariables false
set_option linter.unusedSimpArgs false
theorem QuoteOther : correctorlaw7_QuoteOther.Pure := by
  intro a0 s _ _
  obtain ⟨K, hK⟩ : ∃ K, 3000 < K := ⟨3001, by omega⟩
  refine ⟨K, ?_⟩
  unfold correctorlaw7_QuoteOther.f
  rw [known7 K (by omega), Option.bind_some, if_pos rfl]
  by_cases h : (s.size : Int) > 50
  · rw [if_pos h]
  obtain ⟨j, hj, j0, j1⟩ := within7 a0 15 (by decide) (by decide)
  have e1 : qt j s = (⟨#[]⟩, [], false) := by
    unfold qt
    rw [if_neg (show ¬ j = 15 by omega), if_neg (show ¬ j = 16 by omega), if_neg (show ¬ j = 17 by omega)]
    split <;> rfl
  have e2 : qt 17 (⟨#[]⟩ : ByteArray) = (⟨#[]⟩, [], false) := rfl
  have e3 : (qt 15 s).1 = s ∧ (qt 15 s).2.2 = !s.toList.isEmpty := by
    unfold qt
    by_cases c : s.size = 0
    · rw [if_pos c]
      have hc := (empty_iff s).2 c
      refine ⟨bs_inj ?_, by rw [hc]; rfl⟩
      exact (List.eq_nil_of_length_eq_zero (by rw [bs_len]; exact c)).symm
    · rw [if_neg c, if_pos rfl]
      refine ⟨rfl, ?_⟩
      have : s.toList ≠ [] := fun h => c ((empty_iff s).1 h)
      cases hl : s.toList with
      | nil => exact absurd hl this
      | cons _ _ => rfl
  have e4 : (⟨#[]⟩ : ByteArray).toList = ([] : List UInt8) := by rw [bs_list]; rfl
  rw [if_neg h, hj, Option.bind_some, text_eq K j s (by omega) (by omega), Option.bind_some, text_eq K 17 _ (by decide) (by show 2 * 0 + 60 < K; omega), Option.bind_some, text_eq K 15 s (by omega) (by omega), Option.bind_some, e1, e2, e3.1, e3.2]
  simp only [e4, if_true, List.length_nil]
  simp
end Go.Proofs.Ytabdoommjdgogaa.Pure
