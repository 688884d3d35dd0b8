/- CharsClasses: each byte is in the classes in which the reference has it. For every input. -/
import Derived.Test.YtpigemgiegbblaaC2
import Derived.Test.YtpigemgiegbblaaQLawCharsClasses
namespace Go.Proofs.Ytpigemgiegbblaa.Pure
open Go.RowKit Go.Proofs.Ytpigemgiegbblaa.Q Go.Proofs.YtpigemgiegbblaaW.PrintWords Go.Proofs.YtpigemgiegbblaaW.PrintLast
set_option linter.unusedVariables false
set_option linter.unusedSimpArgs false
def isName (c : Int) : Bool := decide ((97 ≤ c ∧ c ≤ 122) ∨ (65 ≤ c ∧ c ≤ 90) ∨ (48 ≤ c ∧ c ≤ 57) ∨ c = 95 ∨ c = 45)
def isFlow (c : Int) : Bool := decide (c = 44 ∨ c = 91 ∨ c = 93 ∨ c = 123 ∨ c = 125)
theorem name_eq (c : Int) : chars_Name.f c = some (isName c) := by
  have h : chars_letter.f c = some (decide ((97 ≤ c ∧ c ≤ 122) ∨ (65 ≤ c ∧ c ≤ 90) ∨ (48 ≤ c ∧ c ≤ 57))) := by
    unfold chars_letter.f
    repeat' split
    all_goals (congr 1; first | exact decide_eq_decide.mpr (by omega) | exact (decide_eq_true (by omega)).symm | exact (decide_eq_false (by omega)).symm)
  unfold chars_Name.f isName
  rw [h]
  simp only [Option.bind_some]
  by_cases a : (97 ≤ c ∧ c ≤ 122) ∨ (65 ≤ c ∧ c ≤ 90) ∨ (48 ≤ c ∧ c ≤ 57)
  · rw [decide_eq_true a, if_pos rfl, decide_eq_true (by omega)]
  rw [decide_eq_false a, if_neg Bool.false_ne_true]
  by_cases b : c = 95
  · rw [if_pos b, decide_eq_true (by omega)]
  rw [if_neg b, show (c == 45) = decide (c = 45) from rfl]
  congr 1
  exact decide_eq_decide.mpr (by omega)
theorem refname_eq (c : Int) : correctorref5_Name.f c = some (isName c) := by
  unfold correctorref5_Name.f isName
  repeat' split
  all_goals (congr 1; first | exact (decide_eq_true (by omega)).symm | (rw [show (c == 45) = decide (c = 45) from rfl]; exact decide_eq_decide.mpr (by omega)))
theorem flow_eq (k : Nat) (c : Int) : chars_Flow.f (k + 1) c = some (isFlow c) := by
  unfold chars_Flow.f isFlow
  by_cases a : c = 44
  · rw [if_pos a, decide_eq_true (.inl a)]
  rw [if_neg a]
  by_cases b : c = 91
  · rw [if_pos b, chars_Flow.j0, if_pos (by rw [b]; rfl), decide_eq_true (by omega)]
  rw [if_neg b, chars_Flow.j0, show (c == 93) = decide (c = 93) from rfl]
  by_cases d : c = 93
  · rw [decide_eq_true d, if_pos rfl, decide_eq_true (by omega)]
  rw [decide_eq_false d, if_neg Bool.false_ne_true]
  by_cases e : c = 123
  · rw [if_pos e, decide_eq_true (by omega)]
  rw [if_neg e]
  by_cases f : c = 125
  · rw [if_pos f, decide_eq_true (by omega)]
  rw [if_neg f, decide_eq_false (by omega)]
theorem refflow_eq (c : Int) : correctorref5_Flow.f c = some (isFlow c) := by
  unfold correctorref5_Flow.f isFlow
  repeat' split
  all_goals (congr 1; first | exact (decide_eq_true (by omega)).symm | (rw [show (c == 125) = decide (c = 125) from rfl]; exact decide_eq_decide.mpr (by omega)))
theorem blank_eq (c : Int) : chars_Blank.f c = some (decide (c = 32 ∨ c = 9)) := by
  unfold chars_Blank.f
  split
  · rw [decide_eq_true (by omega)]
  · rw [show (c == 9) = decide (c = 9) from rfl]; congr 1; exact decide_eq_decide.mpr (by omega)
theorem refblank_eq (c : Int) : correctorref5_Blank.f c = some (decide (c = 32 ∨ c = 9)) := by
  unfold correctorref5_Blank.f
  split
  · rw [decide_eq_true (by omega)]
  · rw [show (c == 9) = decide (c = 9) from rfl]; congr 1; exact decide_eq_decide.mpr (by omega)
theorem classes_loop (a : Int) (d : Nat) : ∀ (k : Nat) (i : Int), 0 ≤ i → 256 - i = d → d + 2 < k → correctorlaw5_CharsClasses.l0 k a i = some true := by
  induction d with
  | zero =>
    intro k i h0 h1 hk
    obtain ⟨k, rfl⟩ : ∃ m, k = m + 2 := ⟨k - 2, by omega⟩
    rw [correctorlaw5_CharsClasses.l0, if_neg (by omega), blank_eq]
    simp only [Option.bind_some]
    by_cases c : a = 32 ∨ a = 9
    · rw [decide_eq_true c, if_pos rfl, name_eq]
      simp only [Option.bind_some]
      rw [if_neg (by unfold isName; rw [decide_eq_false (by omega)]; exact Bool.false_ne_true)]
      rfl
    · rw [decide_eq_false c, if_neg Bool.false_ne_true, name_eq]
      simp only [Option.bind_some]
      by_cases n : isName a = true
      · rw [if_pos n, flow_eq]
        simp only [Option.bind_some]
        unfold isName at n
        have := of_decide_eq_true n
        unfold isFlow
        rw [decide_eq_false (by omega)]
        rfl
      · rw [if_neg n]
        rfl
  | succ d ih =>
    intro k i h0 h1 hk
    obtain ⟨k, rfl⟩ : ∃ m, k = m + 2 := ⟨k - 2, by omega⟩
    rw [correctorlaw5_CharsClasses.l0, if_pos (by omega), blank_eq, refblank_eq, name_eq, refname_eq, flow_eq, refflow_eq]
    simp only [Option.bind_some, bne_self_eq_false, Bool.false_eq_true, if_false]
    rw [w64 (by omega) (by omega)]
    exact ih (k + 1) (i + 1) (by omega) (by omega) (by omega)
theorem CharsClasses : correctorlaw5_CharsClasses.Pure := by
  intro a0 _
  obtain ⟨K, hK⟩ : ∃ K : Nat, 300 < K := ⟨301, by omega⟩
  refine ⟨K, ?_⟩
  unfold correctorlaw5_CharsClasses.f
  rw [known5 K (by omega)]
  simp only [Option.bind_some, if_true]
  exact classes_loop a0 256 K 0 (by omega) (by omega) (by omega)
end Go.Proofs.Ytpigemgiegbblaa.Pure
