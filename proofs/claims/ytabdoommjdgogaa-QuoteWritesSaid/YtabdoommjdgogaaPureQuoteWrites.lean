/- QuoteWrites: any text is written as the document says, and read as it was. For every input. -/
import Derived.Test.YtabdoommjdgogaaD4
import Derived.Test.YtabdoommjdgogaaQLawQuoteWrites
namespace Go.Proofs.Ytabdoommjdgogaa.Pure
open Go.RowKit Go.Proofs.Ytabdoommjdgogaa.Q Go.Proofs.YtabdoommjdgogaaW.PrintWords Go.Proofs.YtabdoommjdgogaaW.PrintLast
set_option linter.unusedVariables false
set_option linter.unusedSimpArgs false
theorem QuoteWrites : correctorlaw7_QuoteWrites.Pure := by
  intro s _
  obtain ⟨K, hK⟩ : ∃ K, 3000 < K := ⟨3001, by omega⟩
  refine ⟨K, ?_⟩
  unfold correctorlaw7_QuoteWrites.f
  rw [known7 K (by omega), Option.bind_some, if_pos rfl]
  by_cases h : (s.size : Int) > 100
  · rw [if_pos h]
  have hz := wrt_size s
  rw [if_neg h, written_eq K s (by omega) (by omega), Option.bind_some, text_eq K 17 _ (by omega) (by omega), Option.bind_some, refwritten_eq K s (by omega) (by omega), Option.bind_some, read_wrt]
  simp
end Go.Proofs.Ytabdoommjdgogaa.Pure
