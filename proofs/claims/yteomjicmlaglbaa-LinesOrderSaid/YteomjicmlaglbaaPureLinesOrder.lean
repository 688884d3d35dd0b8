/- LinesOrder: places at which signs begin, in order, have lines and columns in order. For every input. -/
import Derived.Test.YteomjicmlaglbaaT6
import Derived.Test.YteomjicmlaglbaaQLawLinesOrder
namespace Go.Proofs.Yteomjicmlaglbaa.Pure
open Go.RowKit Go.Proofs.Yteomjicmlaglbaa.Q Go.Proofs.YteomjicmlaglbaaW.PrintWords Go.Proofs.YteomjicmlaglbaaW.PrintLast
set_option linter.unusedVariables false
set_option linter.unusedSimpArgs false
theorem order_loop (t : List Int) (hb : Byt t) (hl : t.length ≤ 360) (d : Nat) : ∀ (k i c : Nat) (line col : Int), i ≤ t.length → t.length - i = d → d + 2000 < k → OnWay t i c → line ≤ lineOf t (i : Int) → (line = lineOf t (i : Int) → col ≤ 1 + (c : Int)) →
    correctorlaw2_LinesOrder.l0 k t line col (i : Int) = some true := by
  induction d using Nat.strongRecOn with
  | _ d ih =>
    intro k i c line col hi hd hk how h1 h2
    obtain ⟨k, rfl⟩ : ∃ m, k = m + 1 := ⟨k - 1, by omega⟩
    -- what follows the tests
    have rest : (correctorref1_Next.f k (t.drop ((i : Nat) : Int).toNat)).bind (fun bt => correctorlaw2_LinesOrder.l0 k t (lineOf t (i : Int) : Int) (1 + (c : Int)) (wrap64 ((i : Int) + (mx bt.2 1)))) = some true := by
      rw [Int.toNat_natCast, ref_next' k (by omega) _ (hb.drop i) (by rw [List.length_drop]; omega)]
      simp only [Option.bind_some]
      by_cases h : i < t.length
      · have hne := drop_cons_ne h
        have hw := wd_fine (t.drop i) (hb.drop i) hne
        have hdl : (t.drop i).length = t.length - i := List.length_drop
        have hm : mx ((wd (t.drop i) : Nat) : Int) 1 = (wd (t.drop i) : Int) := by unfold mx; rw [if_neg (by omega)]
        rw [hw.2.2.2, hm, w64 (by omega) (by omega), show (i : Int) + (wd (t.drop i) : Int) = ((i + wd (t.drop i) : Nat) : Int) by omega]
        obtain ⟨c', how', hmon⟩ := onWay_step t hb how h
        exact ih (t.length - (i + wd (t.drop i))) (by omega) k (i + wd (t.drop i)) c' _ _ (by omega) rfl (by omega) how' (by omega) (fun e => by omega)
      · have : i = t.length := by omega
        subst this
        rw [List.drop_length, nx_nil, show mx 0 1 = 1 from rfl, w64 (by omega) (by omega)]
        obtain ⟨k, rfl⟩ : ∃ m, k = m + 1 := ⟨k - 1, by omega⟩
        rw [correctorlaw2_LinesOrder.l0, if_neg (by omega), starts_eq t hb (by omega) k (by omega)]
        simp only [Option.bind_some]
        rw [lineOf_end]
        simp
    rw [correctorlaw2_LinesOrder.l0, if_pos (by omega), place_eq t hb (by omega) _ k (by omega), place_on t hb how hi]
    simp only [Option.bind_some]
    rw [if_neg (by omega)]
    by_cases e : (lineOf t (i : Int) : Int) = line
    · rw [if_pos e, if_neg (by have := h2 e.symm; omega), if_neg (by omega), if_pos (by omega)]
      exact rest
    · rw [if_neg e, if_neg (by omega), if_pos (by omega)]
      exact rest
theorem LinesOrder : correctorlaw2_LinesOrder.Pure := by
  intro l0 l1 _ hs0 hw0 _ _ _
  obtain ⟨t, ht, hb, hl⟩ := text_is l0 l1 (Byt.of_wf hw0) (by omega)
  obtain ⟨K, hK⟩ : ∃ K : Nat, 2900 < K := ⟨3000, by omega⟩
  refine ⟨K, ?_⟩
  unfold correctorlaw2_LinesOrder.f
  rw [known2 K (by omega)]
  simp only [Option.bind_some, if_true]
  rw [ht K (by omega)]
  simp only [Option.bind_some]
  have h1 := lineOf_pos t ((0 : Nat) : Int) (by omega)
  exact order_loop t hb hl t.length K 0 0 1 1 (by omega) (by omega) (by omega) (onWay_zero t) (by omega) (fun _ => by omega)
end Go.Proofs.Yteomjicmlaglbaa.Pure
