/- The reference's scanner: brackets. -/
import Derived.Test.YtagjfcogbnhmgaaRF6
namespace Go.Proofs.Ytagjfcogbnhmgaa.Rf
open Go.RowKit Go.Proofs.Ytagjfcogbnhmgaa.Q Go.Proofs.YtagjfcogbnhmgaaW.PrintWords Go.Proofs.YtagjfcogbnhmgaaW.PrintLast Go.Proofs.YtagjfcogbnhmgaaW.PrintMore Go.Proofs.Ytagjfcogbnhmgaa.Sc Go.Proofs.Ytagjfcogbnhmgaa.Pure
attribute [local go_sem] max2_int min2_int max_two min_two max_three min_three max_four min_four
set_option linter.unusedVariables false
set_option linter.unusedSimpArgs false
set_option maxHeartbeats 1000000
set_option maxRecDepth 100000

theorem bracket_calls (w0 W : World) (g : Nat) (A0 : Option Addr) (c0 : Nat) (b : List Int) (at_ row op base : Int) (only : Bool) (text : Int) (V : Value) (l : List S48) (hs : RR w0 W g A0 c0 b at_ row op base only text V l) (h0 : 0 ≤ at_) (h1 : at_ < (b.length : Int)) (r0 : 0 ≤ row) (r1 : row ≤ at_) (hn : (l.length : Int) ≤ 16384) (o0 : 0 ≤ op) (o1 : op ≤ 16384) :
    Calls Try.prog 12 #[.pointer (some ⟨g, 0, none⟩)] W fun e w' => e = .returned (.bool (bracketS b (⟨at_, row, op, base, only, text, l⟩ : RSt)).isSome) ∧ RS w0 w' g A0 c0 b ((bracketS b (⟨at_, row, op, base, only, text, l⟩ : RSt)).getD (⟨at_, row, op, base, only, text, l⟩ : RSt)) := by
  have H := Aside0.mk hs
  have hc0 := hs.q.cell0
  have hc1 := hs.q.cell1
  have hc2 := hs.q.cell2
  have hc3 := hs.q.cell3
  have hc4 := hs.q.cell4
  have hc5 := hs.q.cell5
  have hc6 := hs.q.cell6
  have hc7 := hs.q.cell7
  have hf1 := blk_frozen hs.q.blk 1
  have hf2 := blk_frozen hs.q.blk 2
  have hf3 := blk_frozen hs.q.blk 3
  have hf4 := blk_frozen hs.q.blk 4
  have hf5 := blk_frozen hs.q.blk 5
  have hf6 := blk_frozen hs.q.blk 6
  have hf7 := blk_frozen hs.q.blk 7
  have hl := hs.q.len
  clear hs
  obtain ⟨ad, ea, hx⟩ := Kd.at_int H.out.q.C (at_) h0 h1
  try cases ea
  have q1 : (0 ≤ at_) = True := eq_true (by omega)
  have q2 : (at_ < (b.length : Int)) = True := eq_true (by omega)
  rcases (by omega : rd b at_ = 91 ∨ rd b at_ = 123 ∨ rd b at_ = 93 ∨ rd b at_ = 125 ∨ rd b at_ = 44 ∨ (rd b at_ ≠ 91 ∧ rd b at_ ≠ 123 ∧ rd b at_ ≠ 93 ∧ rd b at_ ≠ 125 ∧ rd b at_ ≠ 44)) with c | c | c | c | c | c
  · have e91 : (rd b at_ == 91) = true := beq_iff_eq.mpr c
    have hR : bracketS b (⟨at_, row, op, base, only, text, l⟩ : RSt) = some (withOp (op + 1) (addR 8 (at_ + 1) (⟨at_, row, op, base, only, text, l⟩ : RSt))) := by simp [bracketS, mx, *]
    rw [hR]
    clear hR c
    go_enter Try.func12, Try.ntmps12
    go_wp2
    go_quiet (fail)
    go_wp2_with (first | (go_at_call 10; (with_reducible refine (add_calls w0 _ g _ c0 b at_ row op base only text V l (by repeat (first | exact H.out | exact H.out.drewN _ | exact (H.out.drewN _).drewN _ | (with_reducible first | apply RR.drew | apply RR.set1 | apply RR.set2 | apply RR.set3 | apply RR.set4 | apply RR.set5 | apply RR.set6))) _ _ (by omega) (by omega) (by omega) (by omega)).mono ?_); rintro e w2 ⟨rfl, V5, h2⟩; have H5 := Aside0.mk h2; have gc0 := h2.q.cell0; have gc1 := h2.q.cell1; have gc2 := h2.q.cell2; have gc3 := h2.q.cell3; have gc4 := h2.q.cell4; have gc5 := h2.q.cell5; have gc6 := h2.q.cell6; have gc7 := h2.q.cell7; have gf1 := blk_frozen h2.q.blk 1; have gf2 := blk_frozen h2.q.blk 2; have gf3 := blk_frozen h2.q.blk 3; have gf4 := blk_frozen h2.q.blk 4; have gf5 := blk_frozen h2.q.blk 5; have gf6 := blk_frozen h2.q.blk 6; have gf7 := blk_frozen h2.q.blk 7; clear h2))
    go_ret
    exact ⟨rfl, V5, (show RR w0 _ g _ c0 b (at_ + 1) row (op + 1) (adBase 8 at_ row base) (adOnly 8 only) (text) V5 (l ++ [⟨8, at_, at_ + 1⟩]) from by repeat (first | exact H5.out | exact H5.out.drewN _ | exact (H5.out.drewN _).drewN _ | (with_reducible first | apply RR.drew | apply RR.set1 | apply RR.set2 | apply RR.set3 | apply RR.set4 | apply RR.set5 | apply RR.set6)))⟩
  · have e91 : (rd b at_ == 91) = false := beq_eq_false_iff_ne.mpr (by omega)
    have e123 : (rd b at_ == 123) = true := beq_iff_eq.mpr c
    have hR : bracketS b (⟨at_, row, op, base, only, text, l⟩ : RSt) = some (withOp (op + 1) (addR 9 (at_ + 1) (⟨at_, row, op, base, only, text, l⟩ : RSt))) := by simp [bracketS, mx, *]
    rw [hR]
    clear hR c
    go_enter Try.func12, Try.ntmps12
    go_wp2
    go_quiet (fail)
    go_wp2_with (first | (go_at_call 10; (with_reducible refine (add_calls w0 _ g _ c0 b at_ row op base only text V l (by repeat (first | exact H.out | exact H.out.drewN _ | exact (H.out.drewN _).drewN _ | (with_reducible first | apply RR.drew | apply RR.set1 | apply RR.set2 | apply RR.set3 | apply RR.set4 | apply RR.set5 | apply RR.set6))) _ _ (by omega) (by omega) (by omega) (by omega)).mono ?_); rintro e w2 ⟨rfl, V5, h2⟩; have H5 := Aside0.mk h2; have gc0 := h2.q.cell0; have gc1 := h2.q.cell1; have gc2 := h2.q.cell2; have gc3 := h2.q.cell3; have gc4 := h2.q.cell4; have gc5 := h2.q.cell5; have gc6 := h2.q.cell6; have gc7 := h2.q.cell7; have gf1 := blk_frozen h2.q.blk 1; have gf2 := blk_frozen h2.q.blk 2; have gf3 := blk_frozen h2.q.blk 3; have gf4 := blk_frozen h2.q.blk 4; have gf5 := blk_frozen h2.q.blk 5; have gf6 := blk_frozen h2.q.blk 6; have gf7 := blk_frozen h2.q.blk 7; clear h2))
    go_ret
    exact ⟨rfl, V5, (show RR w0 _ g _ c0 b (at_ + 1) row (op + 1) (adBase 9 at_ row base) (adOnly 9 only) (text) V5 (l ++ [⟨9, at_, at_ + 1⟩]) from by repeat (first | exact H5.out | exact H5.out.drewN _ | exact (H5.out.drewN _).drewN _ | (with_reducible first | apply RR.drew | apply RR.set1 | apply RR.set2 | apply RR.set3 | apply RR.set4 | apply RR.set5 | apply RR.set6)))⟩
  · by_cases o : op - 1 < 0
    · have e91 : (rd b at_ == 91) = false := beq_eq_false_iff_ne.mpr (by omega)
      have e123 : (rd b at_ == 123) = false := beq_eq_false_iff_ne.mpr (by omega)
      have e93 : (rd b at_ == 93) = true := beq_iff_eq.mpr c
      have o2 : decide (op - 1 < 0) = true := decide_eq_true o
      have hR : bracketS b (⟨at_, row, op, base, only, text, l⟩ : RSt) = some (withOp (0) (addR 10 (at_ + 1) (⟨at_, row, op, base, only, text, l⟩ : RSt))) := by simp [bracketS, mx, *]
      rw [hR]
      clear hR c
      go_enter Try.func12, Try.ntmps12
      go_wp2
      go_quiet (fail)
      go_wp2_with (first | (go_at_call 10; (with_reducible refine (add_calls w0 _ g _ c0 b at_ row op base only text V l (by repeat (first | exact H.out | exact H.out.drewN _ | exact (H.out.drewN _).drewN _ | (with_reducible first | apply RR.drew | apply RR.set1 | apply RR.set2 | apply RR.set3 | apply RR.set4 | apply RR.set5 | apply RR.set6))) _ _ (by omega) (by omega) (by omega) (by omega)).mono ?_); rintro e w2 ⟨rfl, V5, h2⟩; have H5 := Aside0.mk h2; have gc0 := h2.q.cell0; have gc1 := h2.q.cell1; have gc2 := h2.q.cell2; have gc3 := h2.q.cell3; have gc4 := h2.q.cell4; have gc5 := h2.q.cell5; have gc6 := h2.q.cell6; have gc7 := h2.q.cell7; have gf1 := blk_frozen h2.q.blk 1; have gf2 := blk_frozen h2.q.blk 2; have gf3 := blk_frozen h2.q.blk 3; have gf4 := blk_frozen h2.q.blk 4; have gf5 := blk_frozen h2.q.blk 5; have gf6 := blk_frozen h2.q.blk 6; have gf7 := blk_frozen h2.q.blk 7; clear h2))
      go_ret
      exact ⟨rfl, V5, (show RR w0 _ g _ c0 b (at_ + 1) row (0) (adBase 10 at_ row base) (adOnly 10 only) (text) V5 (l ++ [⟨10, at_, at_ + 1⟩]) from by repeat (first | exact H5.out | exact H5.out.drewN _ | exact (H5.out.drewN _).drewN _ | (with_reducible first | apply RR.drew | apply RR.set1 | apply RR.set2 | apply RR.set3 | apply RR.set4 | apply RR.set5 | apply RR.set6)))⟩
    · have e91 : (rd b at_ == 91) = false := beq_eq_false_iff_ne.mpr (by omega)
      have e123 : (rd b at_ == 123) = false := beq_eq_false_iff_ne.mpr (by omega)
      have e93 : (rd b at_ == 93) = true := beq_iff_eq.mpr c
      have o2 : decide (op - 1 < 0) = false := decide_eq_false o
      have hR : bracketS b (⟨at_, row, op, base, only, text, l⟩ : RSt) = some (withOp (op - 1) (addR 10 (at_ + 1) (⟨at_, row, op, base, only, text, l⟩ : RSt))) := by simp [bracketS, mx, *]
      rw [hR]
      clear hR c
      go_enter Try.func12, Try.ntmps12
      go_wp2
      go_quiet (fail)
      go_wp2_with (first | (go_at_call 10; (with_reducible refine (add_calls w0 _ g _ c0 b at_ row op base only text V l (by repeat (first | exact H.out | exact H.out.drewN _ | exact (H.out.drewN _).drewN _ | (with_reducible first | apply RR.drew | apply RR.set1 | apply RR.set2 | apply RR.set3 | apply RR.set4 | apply RR.set5 | apply RR.set6))) _ _ (by omega) (by omega) (by omega) (by omega)).mono ?_); rintro e w2 ⟨rfl, V5, h2⟩; have H5 := Aside0.mk h2; have gc0 := h2.q.cell0; have gc1 := h2.q.cell1; have gc2 := h2.q.cell2; have gc3 := h2.q.cell3; have gc4 := h2.q.cell4; have gc5 := h2.q.cell5; have gc6 := h2.q.cell6; have gc7 := h2.q.cell7; have gf1 := blk_frozen h2.q.blk 1; have gf2 := blk_frozen h2.q.blk 2; have gf3 := blk_frozen h2.q.blk 3; have gf4 := blk_frozen h2.q.blk 4; have gf5 := blk_frozen h2.q.blk 5; have gf6 := blk_frozen h2.q.blk 6; have gf7 := blk_frozen h2.q.blk 7; clear h2))
      go_ret
      exact ⟨rfl, V5, (show RR w0 _ g _ c0 b (at_ + 1) row (op - 1) (adBase 10 at_ row base) (adOnly 10 only) (text) V5 (l ++ [⟨10, at_, at_ + 1⟩]) from by repeat (first | exact H5.out | exact H5.out.drewN _ | exact (H5.out.drewN _).drewN _ | (with_reducible first | apply RR.drew | apply RR.set1 | apply RR.set2 | apply RR.set3 | apply RR.set4 | apply RR.set5 | apply RR.set6)))⟩
  · by_cases o : op - 1 < 0
    · have e91 : (rd b at_ == 91) = false := beq_eq_false_iff_ne.mpr (by omega)
      have e123 : (rd b at_ == 123) = false := beq_eq_false_iff_ne.mpr (by omega)
      have e93 : (rd b at_ == 93) = false := beq_eq_false_iff_ne.mpr (by omega)
      have e125 : (rd b at_ == 125) = true := beq_iff_eq.mpr c
      have o2 : decide (op - 1 < 0) = true := decide_eq_true o
      have hR : bracketS b (⟨at_, row, op, base, only, text, l⟩ : RSt) = some (withOp (0) (addR 11 (at_ + 1) (⟨at_, row, op, base, only, text, l⟩ : RSt))) := by simp [bracketS, mx, *]
      rw [hR]
      clear hR c
      go_enter Try.func12, Try.ntmps12
      go_wp2
      go_quiet (fail)
      go_wp2_with (first | (go_at_call 10; (with_reducible refine (add_calls w0 _ g _ c0 b at_ row op base only text V l (by repeat (first | exact H.out | exact H.out.drewN _ | exact (H.out.drewN _).drewN _ | (with_reducible first | apply RR.drew | apply RR.set1 | apply RR.set2 | apply RR.set3 | apply RR.set4 | apply RR.set5 | apply RR.set6))) _ _ (by omega) (by omega) (by omega) (by omega)).mono ?_); rintro e w2 ⟨rfl, V5, h2⟩; have H5 := Aside0.mk h2; have gc0 := h2.q.cell0; have gc1 := h2.q.cell1; have gc2 := h2.q.cell2; have gc3 := h2.q.cell3; have gc4 := h2.q.cell4; have gc5 := h2.q.cell5; have gc6 := h2.q.cell6; have gc7 := h2.q.cell7; have gf1 := blk_frozen h2.q.blk 1; have gf2 := blk_frozen h2.q.blk 2; have gf3 := blk_frozen h2.q.blk 3; have gf4 := blk_frozen h2.q.blk 4; have gf5 := blk_frozen h2.q.blk 5; have gf6 := blk_frozen h2.q.blk 6; have gf7 := blk_frozen h2.q.blk 7; clear h2))
      go_ret
      exact ⟨rfl, V5, (show RR w0 _ g _ c0 b (at_ + 1) row (0) (adBase 11 at_ row base) (adOnly 11 only) (text) V5 (l ++ [⟨11, at_, at_ + 1⟩]) from by repeat (first | exact H5.out | exact H5.out.drewN _ | exact (H5.out.drewN _).drewN _ | (with_reducible first | apply RR.drew | apply RR.set1 | apply RR.set2 | apply RR.set3 | apply RR.set4 | apply RR.set5 | apply RR.set6)))⟩
    · have e91 : (rd b at_ == 91) = false := beq_eq_false_iff_ne.mpr (by omega)
      have e123 : (rd b at_ == 123) = false := beq_eq_false_iff_ne.mpr (by omega)
      have e93 : (rd b at_ == 93) = false := beq_eq_false_iff_ne.mpr (by omega)
      have e125 : (rd b at_ == 125) = true := beq_iff_eq.mpr c
      have o2 : decide (op - 1 < 0) = false := decide_eq_false o
      have hR : bracketS b (⟨at_, row, op, base, only, text, l⟩ : RSt) = some (withOp (op - 1) (addR 11 (at_ + 1) (⟨at_, row, op, base, only, text, l⟩ : RSt))) := by simp [bracketS, mx, *]
      rw [hR]
      clear hR c
      go_enter Try.func12, Try.ntmps12
      go_wp2
      go_quiet (fail)
      go_wp2_with (first | (go_at_call 10; (with_reducible refine (add_calls w0 _ g _ c0 b at_ row op base only text V l (by repeat (first | exact H.out | exact H.out.drewN _ | exact (H.out.drewN _).drewN _ | (with_reducible first | apply RR.drew | apply RR.set1 | apply RR.set2 | apply RR.set3 | apply RR.set4 | apply RR.set5 | apply RR.set6))) _ _ (by omega) (by omega) (by omega) (by omega)).mono ?_); rintro e w2 ⟨rfl, V5, h2⟩; have H5 := Aside0.mk h2; have gc0 := h2.q.cell0; have gc1 := h2.q.cell1; have gc2 := h2.q.cell2; have gc3 := h2.q.cell3; have gc4 := h2.q.cell4; have gc5 := h2.q.cell5; have gc6 := h2.q.cell6; have gc7 := h2.q.cell7; have gf1 := blk_frozen h2.q.blk 1; have gf2 := blk_frozen h2.q.blk 2; have gf3 := blk_frozen h2.q.blk 3; have gf4 := blk_frozen h2.q.blk 4; have gf5 := blk_frozen h2.q.blk 5; have gf6 := blk_frozen h2.q.blk 6; have gf7 := blk_frozen h2.q.blk 7; clear h2))
      go_ret
      exact ⟨rfl, V5, (show RR w0 _ g _ c0 b (at_ + 1) row (op - 1) (adBase 11 at_ row base) (adOnly 11 only) (text) V5 (l ++ [⟨11, at_, at_ + 1⟩]) from by repeat (first | exact H5.out | exact H5.out.drewN _ | exact (H5.out.drewN _).drewN _ | (with_reducible first | apply RR.drew | apply RR.set1 | apply RR.set2 | apply RR.set3 | apply RR.set4 | apply RR.set5 | apply RR.set6)))⟩
  · by_cases o : op > 0
    · have e91 : (rd b at_ == 91) = false := beq_eq_false_iff_ne.mpr (by omega)
      have e123 : (rd b at_ == 123) = false := beq_eq_false_iff_ne.mpr (by omega)
      have e93 : (rd b at_ == 93) = false := beq_eq_false_iff_ne.mpr (by omega)
      have e125 : (rd b at_ == 125) = false := beq_eq_false_iff_ne.mpr (by omega)
      have e44 : (rd b at_ == 44) = true := beq_iff_eq.mpr c
      have o2 : decide (op > 0) = true := decide_eq_true o
      have hR : bracketS b (⟨at_, row, op, base, only, text, l⟩ : RSt) = some (addR 7 (at_ + 1) (⟨at_, row, op, base, only, text, l⟩ : RSt)) := by simp [bracketS, mx, *]
      rw [hR]
      clear hR c
      go_enter Try.func12, Try.ntmps12
      go_wp2
      go_quiet (fail)
      go_wp2_with (first | (go_at_call 10; (with_reducible refine (add_calls w0 _ g _ c0 b at_ row op base only text V l (by repeat (first | exact H.out | exact H.out.drewN _ | exact (H.out.drewN _).drewN _ | (with_reducible first | apply RR.drew | apply RR.set1 | apply RR.set2 | apply RR.set3 | apply RR.set4 | apply RR.set5 | apply RR.set6))) _ _ (by omega) (by omega) (by omega) (by omega)).mono ?_); rintro e w2 ⟨rfl, V5, h2⟩; have H5 := Aside0.mk h2; have gc0 := h2.q.cell0; have gc1 := h2.q.cell1; have gc2 := h2.q.cell2; have gc3 := h2.q.cell3; have gc4 := h2.q.cell4; have gc5 := h2.q.cell5; have gc6 := h2.q.cell6; have gc7 := h2.q.cell7; have gf1 := blk_frozen h2.q.blk 1; have gf2 := blk_frozen h2.q.blk 2; have gf3 := blk_frozen h2.q.blk 3; have gf4 := blk_frozen h2.q.blk 4; have gf5 := blk_frozen h2.q.blk 5; have gf6 := blk_frozen h2.q.blk 6; have gf7 := blk_frozen h2.q.blk 7; clear h2))
      go_ret
      exact ⟨rfl, V5, (show RR w0 _ g _ c0 b (at_ + 1) row (op) (adBase 7 at_ row base) (adOnly 7 only) (text) V5 (l ++ [⟨7, at_, at_ + 1⟩]) from by repeat (first | exact H5.out | exact H5.out.drewN _ | exact (H5.out.drewN _).drewN _ | (with_reducible first | apply RR.drew | apply RR.set1 | apply RR.set2 | apply RR.set3 | apply RR.set4 | apply RR.set5 | apply RR.set6)))⟩
    · have e91 : (rd b at_ == 91) = false := beq_eq_false_iff_ne.mpr (by omega)
      have e123 : (rd b at_ == 123) = false := beq_eq_false_iff_ne.mpr (by omega)
      have e93 : (rd b at_ == 93) = false := beq_eq_false_iff_ne.mpr (by omega)
      have e125 : (rd b at_ == 125) = false := beq_eq_false_iff_ne.mpr (by omega)
      have e44 : (rd b at_ == 44) = true := beq_iff_eq.mpr c
      have o2 : decide (op > 0) = false := decide_eq_false o
      have hR : bracketS b (⟨at_, row, op, base, only, text, l⟩ : RSt) = none := by simp [bracketS, mx, *]
      rw [hR]
      clear hR c
      go_enter Try.func12, Try.ntmps12
      go_wp2
      go_quiet (fail)
      go_wp2
      go_ret
      exact ⟨rfl, V, (show RR w0 _ g _ c0 b at_ row op base only text V l from by repeat (first | exact H.out | exact H.out.drewN _ | exact (H.out.drewN _).drewN _ | (with_reducible first | apply RR.drew | apply RR.set1 | apply RR.set2 | apply RR.set3 | apply RR.set4 | apply RR.set5 | apply RR.set6)))⟩
  · have e91 : (rd b at_ == 91) = false := beq_eq_false_iff_ne.mpr (by omega)
    have e123 : (rd b at_ == 123) = false := beq_eq_false_iff_ne.mpr (by omega)
    have e93 : (rd b at_ == 93) = false := beq_eq_false_iff_ne.mpr (by omega)
    have e125 : (rd b at_ == 125) = false := beq_eq_false_iff_ne.mpr (by omega)
    have e44 : (rd b at_ == 44) = false := beq_eq_false_iff_ne.mpr (by omega)
    have hR : bracketS b (⟨at_, row, op, base, only, text, l⟩ : RSt) = none := by simp [bracketS, mx, *]
    rw [hR]
    clear hR c
    go_enter Try.func12, Try.ntmps12
    go_wp2
    go_quiet (fail)
    go_wp2
    go_ret
    exact ⟨rfl, V, (show RR w0 _ g _ c0 b at_ row op base only text V l from by repeat (first | exact H.out | exact H.out.drewN _ | exact (H.out.drewN _).drewN _ | (with_reducible first | apply RR.drew | apply RR.set1 | apply RR.set2 | apply RR.set3 | apply RR.set4 | apply RR.set5 | apply RR.set6)))⟩

end Go.Proofs.Ytagjfcogbnhmgaa.Rf
