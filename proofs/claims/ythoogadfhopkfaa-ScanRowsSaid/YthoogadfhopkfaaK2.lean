/- The reference's steps by the byte that stands. No program in it. -/
import Derived.Test.YthoogadfhopkfaaK1
namespace Go.Proofs.Ythoogadfhopkfaa.Same
open Go.RowKit Go.Proofs.Ythoogadfhopkfaa.Q Go.Proofs.YthoogadfhopkfaaW.PrintWords Go.Proofs.YthoogadfhopkfaaW.PrintLast Go.Proofs.YthoogadfhopkfaaW.PrintMore Go.Proofs.Ythoogadfhopkfaa.Sc Go.Proofs.Ythoogadfhopkfaa.Rf Go.Proofs.Ythoogadfhopkfaa.Pure
set_option linter.unusedVariables false
set_option linter.unusedSimpArgs false
theorem no_mark {b : List Int} {r : RSt} (h0 : 0 ≤ r.at_) (h : rd b r.at_ ≠ 45 ∧ rd b r.at_ ≠ 46) : ¬ markOf b r > 0 := by
  unfold markOf
  split
  · rcases markR_cases b r.at_ h0 with h | ⟨_, _, h⟩ <;> omega
  · omega
theorem no_space {b : List Int} {r : RSt} (h : rd b r.at_ ≠ 13 ∧ rd b r.at_ ≠ 10 ∧ rd b r.at_ ≠ 32 ∧ rd b r.at_ ≠ 9 ∧ rd b r.at_ ≠ 35) : spaceS b r = none := by
  unfold spaceS
  rw [if_neg (by rw [brk_none h.1 h.2.1]; omega), if_neg (fun g => h.2.2.1 g.2), if_neg (by simp [Sc.blank, h.2.2.1, h.2.2.2.1]), if_neg (fun g => h.2.2.2.2 g.1)]
theorem no_bracket {b : List Int} {r : RSt} (h : rd b r.at_ ≠ 91 ∧ rd b r.at_ ≠ 123 ∧ rd b r.at_ ≠ 93 ∧ rd b r.at_ ≠ 125 ∧ (rd b r.at_ ≠ 44 ∨ r.op ≤ 0)) : bracketS b r = none := by
  unfold bracketS
  rw [if_neg h.1, if_neg h.2.1, if_neg h.2.2.1, if_neg h.2.2.2.1, if_neg (fun g => h.2.2.2.2.elim (fun x => x g.1) (fun x => by have := g.2; omega))]
theorem step_indent {b : List Int} {r : RSt} (h0 : 0 ≤ r.at_) (hr : r.at_ = r.row) (h : rd b r.at_ = 32) : stepR b r = addR 2 (spaces b r.at_) r := by
  refine stepR_space (no_mark h0 (by omega)) ?_
  unfold spaceS
  rw [if_neg (by rw [brk_none (by omega) (by omega)]; omega), if_pos ⟨hr, h⟩]
theorem step_blank {b : List Int} {r : RSt} (h0 : 0 ≤ r.at_) (hr : r.at_ ≠ r.row) (h : rd b r.at_ = 32) : stepR b r = addR 3 (blanks b r.at_) r := by
  refine stepR_space (no_mark h0 (by omega)) ?_
  unfold spaceS
  rw [if_neg (by rw [brk_none (by omega) (by omega)]; omega), if_neg (fun g => hr g.1), if_pos (by rw [h]; decide)]
theorem step_break {b : List Int} {r : RSt} (h0 : 0 ≤ r.at_) (hb : 0 < brk b r.at_) : stepR b r = breakR b r := by
  have := brk_byte (b := b) (i := r.at_) (by omega)
  refine stepR_space (no_mark h0 (by omega)) ?_
  unfold spaceS
  rw [if_pos hb]
theorem step_colon {b : List Int} {r : RSt} (h0 : 0 ≤ r.at_) (h : rd b r.at_ = 58) (hc : colon b r.op r.at_ = true) : stepR b r = addR 6 (r.at_ + 1) r := by
  rw [stepR_word (no_mark h0 (by omega)) (no_space (by omega)) (no_bracket (by omega))]
  unfold wordS
  rw [if_neg (fun g => by have := g.1; omega), if_pos hc]
theorem step_head {b : List Int} {r : RSt} (h0 : 0 ≤ r.at_) (h : rd b r.at_ = 124) (hh : headR b r.op r.at_ = 1) (hb : 0 ≤ r.base) : stepR b r = addR 18 (r.at_ + 1) { r with text := r.base } := by
  rw [stepR_word (no_mark h0 (by omega)) (no_space (by omega)) (no_bracket (by omega))]
  unfold wordS
  rw [if_neg (fun g => by have := g.1; omega), if_neg (by rw [colon_none (by omega)]; decide), if_neg (fun g => by have := g.1; omega), if_neg (fun g => by have := g.1; omega), if_neg (by omega), if_neg (by omega), if_neg (by omega), hh, if_pos (by decide), if_neg (by omega)]
end Go.Proofs.Ythoogadfhopkfaa.Same
