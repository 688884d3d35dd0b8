/- RunesBad: which bytes are no text, and how many steps there are, is the reference's. For every input. -/
import Derived.Test.YteomjicmlaglbaaT3
import Derived.Test.YteomjicmlaglbaaQLawRunesBad
namespace Go.Proofs.Yteomjicmlaglbaa.Pure
open Go.RowKit Go.Proofs.Yteomjicmlaglbaa.Q Go.Proofs.YteomjicmlaglbaaW.PrintWords Go.Proofs.YteomjicmlaglbaaW.PrintLast
theorem RunesBad : correctorlaw1_RunesBad.Pure := by
  intro l0 _ _ hw0
  have hb := Byt.of_wf hw0
  refine ⟨300, ?_⟩
  unfold correctorlaw1_RunesBad.f
  rw [known1]
  simp only [Option.bind_some, if_true]
  by_cases c : (l0.length : Int) > 200
  · rw [if_pos c]
  rw [if_neg c]
  have hB : (bads l0).length ≤ l0.length := bd_len _ _ _
  simp only [List.length_nil, Nat.zero_add, List.nil_append]
  rw [if_pos (by omega), bad_eq l0 hb (by omega) 300 (by omega), refbad_eq l0 hb (by omega) 300 (by omega)]
  simp only [Option.bind_some]
  rw [ints_eq _ (by omega) 300 (by omega)]
  simp only [Option.bind_some, if_true]
  rw [count_eq l0 hb, refcount_eq l0 hb (by omega) 300 (by omega)]
  simp
end Go.Proofs.Yteomjicmlaglbaa.Pure
