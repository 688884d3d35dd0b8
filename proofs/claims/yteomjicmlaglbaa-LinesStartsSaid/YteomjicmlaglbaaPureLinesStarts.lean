/- LinesStarts: lines begin where the reference says, by each kind of break. For every input. -/
import Derived.Test.YteomjicmlaglbaaT5
import Derived.Test.YteomjicmlaglbaaQLawLinesStarts
namespace Go.Proofs.Yteomjicmlaglbaa.Pure
open Go.RowKit Go.Proofs.Yteomjicmlaglbaa.Q Go.Proofs.YteomjicmlaglbaaW.PrintWords Go.Proofs.YteomjicmlaglbaaW.PrintLast
set_option linter.unusedVariables false
set_option linter.unusedSimpArgs false
theorem same_rows (l : List Int) (hl : (l.length : Int) ≤ 1000000) (d : Nat) : ∀ (k n : Nat), n ≤ l.length → l.length - n = d → d < k → correctorlaw2_LinesStarts.l0 k l l (n : Int) = some true := by
  induction d with
  | zero =>
    intro k n hn hd hk
    obtain ⟨k, rfl⟩ : ∃ m, k = m + 1 := ⟨k - 1, by omega⟩
    rw [correctorlaw2_LinesStarts.l0, if_neg (by omega)]
  | succ d ih =>
    intro k n hn hd hk
    obtain ⟨k, rfl⟩ : ∃ m, k = m + 1 := ⟨k - 1, by omega⟩
    rw [correctorlaw2_LinesStarts.l0, if_pos (by omega), if_pos (by omega), if_pos (by omega), if_pos rfl, w64 (by omega) (by omega), show (n : Int) + 1 = ((n + 1 : Nat) : Int) by omega]
    exact ih k (n + 1) (by omega) (by omega) (by omega)
theorem LinesStarts : correctorlaw2_LinesStarts.Pure := by
  intro l0 l1 _ hs0 hw0 _ _ _
  obtain ⟨t, ht, hb, hl⟩ := text_is l0 l1 (Byt.of_wf hw0) (by omega)
  have hsl := starts_len t
  refine ⟨1000, ?_⟩
  unfold correctorlaw2_LinesStarts.f
  rw [known2 1000 (by omega)]
  simp only [Option.bind_some, if_true]
  rw [ht 1000 (by omega)]
  simp only [Option.bind_some, List.length_nil, Nat.zero_add, List.nil_append]
  rw [if_pos (by omega), starts_eq t hb (by omega) 1000 (by omega)]
  simp only [Option.bind_some]
  rw [refstarts_eq t (by omega) 1000 (by omega)]
  simp only [Option.bind_some]
  rw [if_pos trivial]
  exact same_rows _ (by omega) _ 1000 0 (by omega) rfl (by omega)
end Go.Proofs.Yteomjicmlaglbaa.Pure
