/- RunesAll: going from sign to sign all bytes are gone through, none twice, and never without a step. For every input. -/
import Derived.Test.YteomjicmlaglbaaT3
import Derived.Test.YteomjicmlaglbaaQLawRunesAll
namespace Go.Proofs.Yteomjicmlaglbaa.Pure
open Go.RowKit Go.Proofs.Yteomjicmlaglbaa.Q Go.Proofs.YteomjicmlaglbaaW.PrintWords Go.Proofs.YteomjicmlaglbaaW.PrintLast
theorem all_loop (x0 : List Int) (hb : Byt x0) (hl : x0.length ≤ 200) (d : Nat) : ∀ (k n s b : Nat), n ≤ x0.length → x0.length - n = d → 2 * d + 250 < k → s ≤ n → b ≤ n → s + sg (x0.drop n).length (x0.drop n) = signs x0 → b + (bd (x0.drop n).length (x0.drop n) (n : Int)).length = (bads x0).length →
    correctorlaw1_RunesAll.l0 k x0 (n : Int) (s : Int) (b : Int) = some true := by
  induction d using Nat.strongRecOn with
  | _ d ih =>
    intro k n s b hn hd hk hs hbn h1 h2
    obtain ⟨k, rfl⟩ : ∃ m, k = m + 1 := ⟨k - 1, by omega⟩
    simp only [correctorlaw1_RunesAll.l0]
    by_cases h : n < x0.length
    · have hne := drop_cons_ne h
      have hw := wd_fine (x0.drop n) (hb.drop n) hne
      have hf := nx_fine (x0.drop n) (hb.drop n) (by cases hx : x0.drop n <;> simp_all)
      have hdl : (x0.drop n).length = x0.length - n := List.length_drop
      rw [bd_step _ _ (hb.drop n) hne] at h2
      rw [sg_step _ (hb.drop n) hne] at h1
      rw [if_pos (by omega), if_pos (by omega), if_pos (by omega), Int.toNat_natCast, next_eq _ (hb.drop n)]
      simp only [Option.bind_some]
      rw [if_neg (by omega), if_neg (by omega), if_neg (by rw [w64 (by omega) (by omega)]; omega)]
      obtain ⟨k, rfl⟩ : ∃ m, k = m + 1 := ⟨k - 1, by omega⟩
      by_cases c : (nx (x0.drop n)).1 < 0
      · rw [if_pos c] at h2
        rw [if_pos c, hf.2.2.2.2.2 c]
        simp only [correctorlaw1_RunesAll.j1]
        have hw1 : wd (x0.drop n) = 1 := by have := hf.2.2.2.2.2 c; omega
        rw [if_neg (by decide), if_pos c, w64 (by omega) (by omega), w64 (by omega) (by omega), w64 (by omega) (by omega), show (n : Int) + 1 = ((n + 1 : Nat) : Int) by omega, show (s : Int) + 1 = ((s + 1 : Nat) : Int) by omega, show (b : Int) + 1 = ((b + 1 : Nat) : Int) by omega]
        rw [hw1, List.drop_drop] at h1 h2
        refine ih (x0.length - (n + 1)) (by omega) k (n + 1) (s + 1) (b + 1) (by omega) rfl (by omega) (by omega) (by omega) (by omega) ?_
        rw [show ((n + 1 : Nat) : Int) = (n : Int) + ((1 : Nat) : Int) by omega]
        simp only [List.length_append, List.length_cons, List.length_nil] at h2
        omega
      · rw [if_neg c] at h2
        rw [if_neg c]
        simp only [correctorlaw1_RunesAll.j1]
        rw [if_neg (by decide), if_neg c, hw.2.2.2, w64 (by omega) (by omega), w64 (by omega) (by omega), show (n : Int) + (wd (x0.drop n) : Int) = ((n + wd (x0.drop n) : Nat) : Int) by omega, show (s : Int) + 1 = ((s + 1 : Nat) : Int) by omega]
        rw [List.drop_drop] at h1 h2
        refine ih (x0.length - (n + wd (x0.drop n))) (by omega) k (n + wd (x0.drop n)) (s + 1) b (by omega) rfl (by omega) (by omega) (by omega) (by omega) ?_
        rw [show ((n + wd (x0.drop n) : Nat) : Int) = (n : Int) + (wd (x0.drop n) : Int) by omega]
        simpa using h2
    · have : n = x0.length := by omega
      subst this
      rw [List.drop_length, sg_nil] at h1
      rw [List.drop_length, bd_nil] at h2
      rw [if_neg (by omega), count_eq x0 hb]
      simp only [Option.bind_some]
      rw [if_pos (by omega), bad_eq x0 hb (by omega) k (by omega)]
      simp only [Option.bind_some]
      simp at h2
      simp [h2]
theorem RunesAll : correctorlaw1_RunesAll.Pure := by
  intro l0 _ _ hw0
  have hb := Byt.of_wf hw0
  refine ⟨700, ?_⟩
  unfold correctorlaw1_RunesAll.f
  rw [known1]
  simp only [Option.bind_some, if_true]
  by_cases c : (l0.length : Int) > 200
  · rw [if_pos c]
  rw [if_neg c]
  exact all_loop l0 hb (by omega) l0.length 700 0 0 0 (by omega) (by omega) (by omega) (by omega) (by omega) (by simp [signs]) (by simp [bads])
end Go.Proofs.Yteomjicmlaglbaa.Pure
