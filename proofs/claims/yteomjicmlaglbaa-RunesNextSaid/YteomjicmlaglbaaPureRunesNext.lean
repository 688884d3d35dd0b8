/- RunesNext: the first sign of any bytes, and how long it is, is the reference's; any sign is read as it was written, whatever stands behind. For every input. -/
import Derived.Test.YteomjicmlaglbaaT2
import Derived.Test.YteomjicmlaglbaaQLawRunesNext
namespace Go.Proofs.Yteomjicmlaglbaa.Pure
open Go.RowKit Go.Proofs.Yteomjicmlaglbaa.Q Go.Proofs.YteomjicmlaglbaaW.PrintWords Go.Proofs.YteomjicmlaglbaaW.PrintLast

theorem next_written (k : Nat) (a1 : Int) (l2 : List Int) (h2 : Byt l2) (hl : l2.length ≤ 20) (b : Bool) (hb : b = false → Sgn a1) : correctorlaw1_RunesNext.j2 (k + 1) a1 l2 b = some true := by
  simp only [correctorlaw1_RunesNext.j2]
  cases b with
  | true => rfl
  | false =>
    have hr := hb rfl
    have hw := wr_len a1
    rw [if_neg (by decide), write_eq a1 hr.1 hr.2.1]
    simp only [Option.bind_some, List.length_nil, Nat.zero_add, List.nil_append]
    rw [if_pos (by omega), if_pos (by omega), next_eq _ ((wr_byt a1 hr.1 hr.2.1).append h2), nx_wr a1 hr l2]
    simp only [Option.bind_some]
    rw [if_pos trivial]
    simp
theorem RunesNext : correctorlaw1_RunesNext.Pure := by
  intro l0 a1 l2 _ _ hw0 hw1 _ _ hw2
  have hb0 := Byt.of_wf hw0
  have hb2 := Byt.of_wf hw2
  refine ⟨20, ?_⟩
  unfold correctorlaw1_RunesNext.f
  rw [known1]
  simp only [Option.bind_some, if_true]
  by_cases c : (l0.length : Int) > 20
  · rw [if_pos c]
    simp only [correctorlaw1_RunesNext.j0]
    rfl
  rw [if_neg c]
  simp only [correctorlaw1_RunesNext.j0]
  by_cases d : (l2.length : Int) > 20
  · rw [if_pos (by simpa using d)]
  rw [if_neg (by simpa using d)]
  simp only [Option.bind_some, List.length_nil, Nat.zero_add, List.nil_append]
  rw [if_pos (by omega), next_eq l0 hb0, ref_next 11 l0 hb0 (by omega)]
  simp only [Option.bind_some, if_true, bne_self_eq_false]
  simp only [correctorlaw1_RunesNext.j1]
  rw [if_neg (by decide)]
  by_cases e : a1 < 0
  · rw [if_pos e]; exact next_written _ _ _ hb2 (by omega) _ (fun h => by cases h)
  rw [if_neg e]
  by_cases f : a1 > 1114111
  · rw [if_pos f]; exact next_written _ _ _ hb2 (by omega) _ (fun h => by cases h)
  rw [if_neg f]
  by_cases g : a1 ≥ 55296
  · rw [if_pos g]
    exact next_written _ _ _ hb2 (by omega) _ (fun h => ⟨by omega, by omega, fun q => by simp at h; omega⟩)
  · rw [if_neg g]
    exact next_written _ _ _ hb2 (by omega) _ (fun _ => ⟨by omega, by omega, fun q => by omega⟩)
end Go.Proofs.Yteomjicmlaglbaa.Pure
