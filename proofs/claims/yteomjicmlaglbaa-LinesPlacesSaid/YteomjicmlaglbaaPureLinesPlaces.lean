/- LinesPlaces: each place's line and column are the reference's; others are none. For every input. -/
import Derived.Test.YteomjicmlaglbaaT5
import Derived.Test.YteomjicmlaglbaaQLawLinesPlaces
namespace Go.Proofs.Yteomjicmlaglbaa.Pure
open Go.RowKit Go.Proofs.Yteomjicmlaglbaa.Q Go.Proofs.YteomjicmlaglbaaW.PrintWords Go.Proofs.YteomjicmlaglbaaW.PrintLast
set_option linter.unusedVariables false
set_option linter.unusedSimpArgs false
theorem places_loop (t : List Int) (a : Int) (hb : Byt t) (hl : t.length ≤ 360) (d : Nat) : ∀ (k : Nat) (i : Int), -1 ≤ i → i ≤ t.length + 2 → (t.length : Int) + 2 - i = d → d + 2000 < k → correctorlaw2_LinesPlaces.l0 k a t i = some true := by
  induction d with
  | zero =>
    intro k i h0 h1 hd hk
    obtain ⟨k, rfl⟩ : ∃ m, k = m + 1 := ⟨k - 1, by omega⟩
    rw [correctorlaw2_LinesPlaces.l0, w64 (by omega) (by omega), if_neg (by omega), place_eq t hb (by omega) a k (by omega)]
    simp only [Option.bind_some]
    rw [refplace_eq t hb (by omega) a k (by omega)]
    simp
  | succ d ih =>
    intro k i h0 h1 hd hk
    obtain ⟨k, rfl⟩ : ∃ m, k = m + 1 := ⟨k - 1, by omega⟩
    rw [correctorlaw2_LinesPlaces.l0, w64 (x := (t.length : Int) + 1) (by omega) (by omega), if_pos (by omega), place_eq t hb (by omega) i k (by omega)]
    simp only [Option.bind_some]
    rw [refplace_eq t hb (by omega) i k (by omega)]
    simp only [Option.bind_some]
    rw [if_pos trivial, if_pos trivial, w64 (by omega) (by omega)]
    exact ih k (i + 1) (by omega) (by omega) (by omega) (by omega)
theorem LinesPlaces : correctorlaw2_LinesPlaces.Pure := by
  intro l0 l1 a2 _ hs0 hw0 _ _ _ _
  obtain ⟨t, ht, hb, hl⟩ := text_is l0 l1 (Byt.of_wf hw0) (by omega)
  obtain ⟨K, hK⟩ : ∃ K : Nat, 2900 < K := ⟨3000, by omega⟩
  refine ⟨K, ?_⟩
  unfold correctorlaw2_LinesPlaces.f
  rw [known2 K (by omega)]
  simp only [Option.bind_some, if_true]
  rw [ht K (by omega)]
  simp only [Option.bind_some]
  exact places_loop t a2 hb hl (t.length + 3) K (-1) (by omega) (by omega) (by omega) (by omega)
end Go.Proofs.Yteomjicmlaglbaa.Pure
