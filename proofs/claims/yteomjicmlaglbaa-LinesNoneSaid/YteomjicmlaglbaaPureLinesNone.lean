/- LinesNone: lines and columns that are none have no place; places that are none have no line. For every input. -/
import Derived.Test.YteomjicmlaglbaaT5
import Derived.Test.YteomjicmlaglbaaQLawLinesNone
namespace Go.Proofs.Yteomjicmlaglbaa.Pure
open Go.RowKit Go.Proofs.Yteomjicmlaglbaa.Q Go.Proofs.YteomjicmlaglbaaW.PrintWords Go.Proofs.YteomjicmlaglbaaW.PrintLast
set_option linter.unusedVariables false
set_option linter.unusedSimpArgs false
theorem off_none (t : List Int) (hb : Byt t) (hl : t.length ≤ 360) (k : Nat) (hk : 2000 < k) (a b : Int) (h : a < 1 ∨ ((starts t).length : Int) < a ∨ b < 1) : lines_Offset.f k t a b = some (0, 2) := by
  obtain ⟨k, rfl⟩ : ∃ m, k = m + 1 := ⟨k - 1, by omega⟩
  have j : lines_Offset.j0 (k + 1) t a b (starts t) true = some (0, 2) := by rw [lines_Offset.j0, if_pos rfl]
  unfold lines_Offset.f
  rw [starts_eq t hb (by omega) _ (by omega)]
  simp only [Option.bind_some]
  by_cases c : a < 1
  · rw [if_pos c, j]
  rw [if_neg c]
  by_cases d : a > ((starts t).length : Int)
  · rw [if_pos d, j]
  rw [if_neg d, decide_eq_true (by omega), j]
theorem off_loop (t : List Int) (hb : Byt t) (hl : t.length ≤ 360) (b : Int) (hb2 : (t.length : Int) + 2 ≤ b) (hb3 : b ≤ 100000) (d : Nat) : ∀ (k n x : Nat), n ≤ t.length + 1 → t.length + 1 - n = d → d < k → 1 ≤ x → x ≤ n + 1 →
    lines_Offset.l0 k t b (n : Int) ((t.length : Int) + 1) (x : Int) = some (0, 2) := by
  induction d using Nat.strongRecOn with
  | _ d ih =>
    intro k n x hn hd hk hx hxn
    obtain ⟨k, rfl⟩ : ∃ m, k = m + 1 := ⟨k - 1, by omega⟩
    rw [lines_Offset.l0]
    by_cases c : (n : Int) < (t.length : Int) + 1
    · rw [if_pos (by omega), if_pos c, if_pos (by omega), if_pos (by omega), Int.toNat_natCast, next_eq _ (hb.drop n)]
      simp only [Option.bind_some]
      by_cases h : n < t.length
      · have hne := drop_cons_ne h
        have hw := wd_fine (t.drop n) (hb.drop n) hne
        have hdl : (t.drop n).length = t.length - n := List.length_drop
        have hm : mx ((wd (t.drop n) : Nat) : Int) 1 = (wd (t.drop n) : Int) := by unfold mx; rw [if_neg (by omega)]
        rw [hw.2.2.2, hm, w64 (by omega) (by omega), w64 (by omega) (by omega), show (n : Int) + (wd (t.drop n) : Int) = ((n + wd (t.drop n) : Nat) : Int) by omega, show (x : Int) + 1 = ((x + 1 : Nat) : Int) by omega]
        exact ih (t.length + 1 - (n + wd (t.drop n))) (by omega) k (n + wd (t.drop n)) (x + 1) (by omega) rfl (by omega) (by omega) (by omega)
      · have : n = t.length := by omega
        subst this
        rw [List.drop_length, nx_nil, show mx 0 1 = 1 from rfl, w64 (by omega) (by omega), w64 (by omega) (by omega), show (t.length : Int) + 1 = ((t.length + 1 : Nat) : Int) by omega, show (x : Int) + 1 = ((x + 1 : Nat) : Int) by omega]
        have := ih 0 (by omega) k (t.length + 1) (x + 1) (by omega) (by omega) (by omega) (by omega) (by omega)
        rw [show (t.length : Int) + 1 = ((t.length + 1 : Nat) : Int) by omega] at this
        exact this
    · by_cases e : (x : Int) < b
      · rw [if_pos e, if_neg c, if_pos (by omega)]
      · rw [if_neg e, if_pos (by omega)]
theorem off_far (t : List Int) (hb : Byt t) (hl : t.length ≤ 360) (k : Nat) (hk : 2000 < k) (b : Int) (hb2 : (t.length : Int) + 2 ≤ b) (hb3 : b ≤ 100000) : lines_Offset.f k t ((starts t).length : Int) b = some (0, 2) := by
  obtain ⟨k, rfl⟩ : ∃ m, k = m + 1 := ⟨k - 1, by omega⟩
  obtain ⟨k, rfl⟩ : ∃ m, k = m + 1 := ⟨k - 1, by omega⟩
  have hs := starts_len t
  have h1 : 1 ≤ (starts t).length := by unfold starts; simp
  unfold lines_Offset.f
  rw [starts_eq t hb (by omega) _ (by omega)]
  simp only [Option.bind_some]
  rw [if_neg (by omega), if_neg (by omega), decide_eq_false (by omega), lines_Offset.j0, if_neg Bool.false_ne_true, w64 (by omega) (by omega), if_pos (by omega), if_pos (by omega), if_neg (by omega), w64 (by omega) (by omega), lines_Offset.j1]
  have hin := starts_in t (rd (starts t) (((starts t).length : Int) - 1)) (by rw [show ((starts t).length : Int) - 1 = (((starts t).length - 1 : Nat) : Int) by omega]; exact rd_mem _ _ (by omega))
  have := off_loop t hb hl b hb2 hb3 _ k (rd (starts t) (((starts t).length : Int) - 1)).toNat 1 (by omega) rfl (by omega) (by omega) (by omega)
  rw [show (((rd (starts t) (((starts t).length : Int) - 1)).toNat : Nat) : Int) = rd (starts t) (((starts t).length : Int) - 1) by omega] at this
  exact this
theorem LinesNone : correctorlaw2_LinesNone.Pure := by
  intro l0 l1 a2 _ hs0 hw0 _ _ _ _
  obtain ⟨t, ht, hb, hl⟩ := text_is l0 l1 (Byt.of_wf hw0) (by omega)
  have hs := starts_len t
  obtain ⟨K, hK⟩ : ∃ K : Nat, 2900 < K := ⟨3000, by omega⟩
  refine ⟨K, ?_⟩
  unfold correctorlaw2_LinesNone.f
  rw [known2 K (by omega)]
  simp only [Option.bind_some, if_true]
  rw [ht K (by omega)]
  simp only [Option.bind_some]
  rw [starts_eq t hb (by omega) K (by omega)]
  simp only [Option.bind_some]
  obtain ⟨n, hn, n0, n1⟩ := within2 a2 50 (by decide) (by decide)
  have no : ∀ a : Int, a < 0 ∨ (t.length : Int) < a → placeOf t a = (0, 0) := fun a h => by unfold placeOf; rw [if_pos h]
  rw [hn]
  simp only [Option.bind_some]
  rw [w64 (x := ((starts t).length : Int) + 1) (by omega) (by omega), w64 (x := ((starts t).length : Int) + 1 + n) (by omega) (by omega), w64 (x := -n) (by omega) (by omega), w64 (x := (t.length : Int) + 2) (by omega) (by omega), w64 (x := (t.length : Int) + 2 + n) (by omega) (by omega), w64 (x := (t.length : Int) + 1) (by omega) (by omega), w64 (x := (t.length : Int) + 1 + n) (by omega) (by omega), w64 (x := -1 - n) (by omega) (by omega)]
  rw [off_none t hb hl K (by omega) _ _ (.inr (.inl (by omega)))]
  simp only [Option.bind_some]
  rw [off_none t hb hl K (by omega) _ _ (.inl (by omega))]
  simp only [Option.bind_some]
  rw [off_none t hb hl K (by omega) _ _ (.inr (.inr (by omega)))]
  simp only [Option.bind_some]
  rw [off_far t hb hl K (by omega) _ (by omega) (by omega)]
  simp only [Option.bind_some]
  rw [place_eq t hb (by omega) _ K (by omega), no _ (.inr (by omega))]
  simp only [Option.bind_some]
  rw [place_eq t hb (by omega) _ K (by omega), no _ (.inl (by omega))]
  simp
end Go.Proofs.Yteomjicmlaglbaa.Pure
